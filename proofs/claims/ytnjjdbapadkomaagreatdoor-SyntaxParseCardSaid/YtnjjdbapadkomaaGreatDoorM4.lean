/- Our abstract program logic and contracts of this seat's functions, part 4: no statement of its own (long names of ours are shortened by a program). -/
import Derived.Test.YtnjjdbapadkomaaGreatDoorM3
import Derived.Lib.Join
set_option linter.unusedVariables false
set_option linter.unusedSimpArgs false
namespace Go.Proofs.YtnjjdbapadkomaaGreatDoor
open Go Go.Abs
theorem uDL (c : UInt8) (n : Int) (h : n=(c.toNat : Int)) : Ctr sys 73 [xu n] [] (xi (clsE c)) none []:=by
 subst h
 have hu:=c.toNat_lt
 have h18 : syms.length=18:=rfl
 refine uAA Tryz.func73 rfl rfl rfl rfl rfl rfl ?_;refine uAe (uAb ?_);refine uAa rfl rfl rfl (uAd rfl gU) ?_;refine uAf ?_;refine uAe ?_;refine uAx ?_;refine uAe (uAb ?_);refine uAa rfl rfl rfl (uAc rfl gU) ?_;refine uAa rfl rfl rfl (uAm rfl rfl gU gU rfl) ?_;refine uAa rfl rfl rfl (uAc rfl gU) ?_;refine uAa rfl rfl rfl (uAc rfl gU) ?_;refine uAa rfl rfl rfl (uAm rfl rfl (fun hh=>hh) gU rfl) ?_;refine uAa rfl rfl rfl (uAJ rfl rfl gU (fun _ hi=>gP rfl hi)) ?_;refine uAa rfl rfl rfl (uAc rfl gU) ?_;refine uAa rfl rfl rfl (uAc rfl gU) ?_;refine uAa rfl rfl rfl (uAm rfl rfl (fun hh=>hh) gU rfl) ?_;refine uAa rfl rfl rfl (uAJ rfl rfl gU (fun _ hi=>gP rfl hi)) ?_;refine uAa rfl rfl rfl (uAc rfl gU) ?_;refine uBq (s:=⟨[(0,_,_),(16,_,_)],[],[],[]⟩) (uAj (⟨sx rfl,sx rfl,trivial⟩) trivial trivial) ?_;refine uAa rfl rfl rfl (uAc rfl gU) ?_;refine uAa rfl rfl rfl (uAm rfl rfl (fun hh=>hh) gU rfl) ?_;refine uAa rfl rfl rfl (uAJ rfl rfl gU (fun _ hi=>gP rfl hi)) ?_;refine uAa rfl rfl rfl (uAd rfl gU) ?_;refine uAf ?_;refine uAn rfl (fun hc=>?_) (fun hc=>?_)
 ·try simp only [nn] at hc
  refine uAe (uAb ?_);refine uAa rfl rfl rfl (uAd rfl gU) ?_;refine uAf ?_;refine uAp ?_
  repeat (first | refine tR ?_ | refine bR ?_)
  refine uAv rfl ?_ trivial;exact uBj (by rw [clsE,if_pos (by simp [uCB]; omega)])
 ·try simp only [nn] at hc
  have hw : ¬uCB c=true:=by simp [uCB]; omega
  refine uAe (uAb ?_);refine uAa rfl rfl rfl (uAc rfl gU) ?_;refine uAa rfl rfl rfl (uAm rfl rfl gU gU rfl) ?_;refine uAa rfl rfl rfl (uAc rfl gU) ?_;refine uAa rfl rfl rfl (uAc rfl gU) ?_;refine uAa rfl rfl rfl (uAm rfl rfl (fun hh=>hh) gU rfl) ?_;refine uAa rfl rfl rfl (uAV rfl rfl gU (fun _ hi=>gP rfl hi)) ?_;refine uAa rfl rfl rfl (uAc rfl gU) ?_;refine uAa rfl rfl rfl (uAc rfl gU) ?_;refine uBq (s:=⟨[(0,_,_),(27,_,_),(28,_,_)],[],[],[]⟩) (uAj (⟨sx rfl,sx rfl,sx rfl,trivial⟩) trivial trivial) ?_;refine uAa rfl rfl rfl (uAm rfl rfl (fun hh=>hh) gU rfl) ?_;refine uAa rfl rfl rfl (uAc rfl (fun hh=>hh)) ?_;refine uAa rfl rfl rfl (uAc rfl gU) ?_;refine uAa rfl rfl rfl (uAm rfl rfl (fun hh=>hh) gU rfl) ?_;refine uAa rfl rfl rfl (uAV rfl rfl (fun hh=>hh) (fun hh hi=>gP hh hi)) ?_;refine uAa rfl rfl rfl (uAJ rfl rfl gU (fun _ hi=>gP rfl hi)) ?_;refine uAa rfl rfl rfl (uAd rfl gU) ?_;refine uAf ?_;refine uAk (s:=⟨[(0,_,_),(20,_,_)],[],[],[]⟩) (uAj (⟨sx rfl,sx rfl,trivial⟩) trivial trivial) ?_;refine uAn rfl (fun hc2=>?_) (fun hc2=>?_)
  ·try simp only [nn] at hc2
   refine uAe (uAb ?_);refine uAa rfl rfl rfl (uAd rfl gU) ?_;refine uAf ?_;refine uAp ?_
   repeat (first | refine tR ?_ | refine bR ?_)
   refine uAv rfl ?_ trivial;exact uBj (by rw [clsE,if_neg hw,if_pos (by simp [uBo]; omega)])
  ·try simp only [nn] at hc2
   have hl : ¬uBo (c.toNat : Int)=true:=by simp [uBo]; omega
   refine uAe (uAb ?_);refine uAa rfl rfl rfl (uAc rfl gU) ?_;refine uAa rfl rfl rfl (uAm rfl rfl gU gU rfl) ?_;refine uAa rfl rfl rfl (uAc rfl gU) ?_;refine uAa rfl rfl rfl (uAc rfl gU) ?_;refine uAa rfl rfl rfl (uAm rfl rfl (fun hh=>hh) gU rfl) ?_;refine uAa rfl rfl rfl (uAV rfl rfl gU (fun _ hi=>gP rfl hi)) ?_;refine uAa rfl rfl rfl (uAd rfl gU) ?_;refine uAf ?_;refine uAk (s:=⟨[(0,_,_),(35,_,_)],[],[],[]⟩) (uAj (⟨sx rfl,sx rfl,trivial⟩) trivial trivial) ?_;refine uAn rfl (fun hc3=>?_) (fun hc3=>?_)
   ·try simp only [nn] at hc3
    refine uAe (uAb ?_);refine uAa rfl rfl rfl (uAd rfl gU) ?_;refine uAf ?_;refine uAp ?_
    repeat (first | refine tR ?_ | refine bR ?_)
    refine uAv rfl ?_ trivial;exact uBj (by rw [clsE,if_neg hw,if_neg hl,if_pos (by simp [uBK]; omega)])
   ·try simp only [nn] at hc3
    have hd : ¬uBK (c.toNat : Int)=true:=by simp [uBK]; omega
    refine uAe (uAb ?_);refine uAa rfl rfl rfl (uAc rfl gU) ?_;refine uAa rfl rfl rfl (uAm rfl rfl gU gU rfl) ?_;refine uAa rfl rfl rfl (uAd rfl gU) ?_;refine uAf ?_;refine uAn rfl (fun hc4=>?_) (fun hc4=>?_)
    ·try simp only [nn] at hc4
     refine uAe (uAb ?_);refine uAa rfl rfl rfl (uAd rfl gU) ?_;refine uAf ?_;refine uAp ?_
     repeat (first | refine tR ?_ | refine bR ?_)
     refine uAv rfl ?_ trivial;exact uBj (by rw [clsE,if_neg hw,if_neg hl,if_neg hd,if_pos (by omega)])
    ·try simp only [nn] at hc4
     have hx : clsE c=if symB c=true then 4 else 0:=by rw [clsE,if_neg hw,if_neg hl,if_neg hd,if_neg (by omega)]
     rw [hx]
     refine uAq ?_;refine uAe (uAb ?_);refine uAa rfl rfl rfl (uAd rfl gU) ?_;refine uAf ?_;refine uAe ?_;refine uAe (uAb ?_);refine uAa rfl rfl rfl (uAd rfl gU) ?_;refine uAf ?_;refine uAk (s:=⟨[(0,_,_),(3,_,_),(4,_,_)],[],[],[]⟩) (uAj (⟨sx rfl,sx rfl,sx rfl,trivial⟩) trivial trivial) ?_;refine uAx ?_;refine uA6 (ι:=Nat) { t:=[(0,_,_),(3,_,_)],bx:=[],ow:=[] } (fun k=>[(4,true,xi (k : Int))]) (fun k=>[]) (fun k=>k≤18∧(syms.drop k).contains c=symB c) (fun k=>18 - k) (0) (⟨by omega,rfl⟩) (uAj (⟨sx rfl,sx rfl,sx rfl,trivial⟩) trivial trivial) ?_
     intro k hok
     dsimp only [List.cons_append,List.nil_append]
     obtain ⟨hk,hi⟩:=hok
     refine uAe ?_;refine uAe (uAb ?_);refine uAa rfl rfl rfl (uAc rfl gU) ?_;refine uAa rfl rfl rfl (uAc rfl gU) ?_;refine uBw rfl rfl rfl rfl rfl gU (Tryz.underlying9) ?_ (fun hh=>by simp at hh); intro hlen;refine uAa rfl rfl rfl (uAm rfl rfl gU gU rfl) ?_;refine uAf ?_;refine uAn rfl (fun hc5=>?_) (fun hc5=>?_)
     ·try simp only [nn] at hc5
      have hk2 : k < syms.length:=by rw [h18]; simp at hc5; omega
      rw [uBi hk2,List.contains_cons] at hi
      refine uAq ?_;refine uAe ?_;refine uAx ?_;refine uAe (uAb ?_);refine uAa rfl rfl rfl (uAc rfl gU) ?_;refine uAa rfl rfl rfl (uAc rfl gU) ?_;refine uAa rfl rfl rfl (uAF (j:=k) rfl rfl gU gU Tryz.underlying9 (by first | omega | (show _ < 18; omega) | (simp at hh ⊢; omega)) (fun hh=>by first | omega | (show _ < 18; omega) | (simp at hh ⊢; omega))) ?_;refine uAa rfl rfl rfl (uAc rfl gU) ?_;refine uAa rfl rfl rfl (uAm rfl rfl gU gU rfl) ?_;refine uAf ?_;refine uAk (s:=⟨[(0,_,_),(3,_,_),(4,_,_),(55,_,_)],[],[],[]⟩) (uAj (⟨sx rfl,sx rfl,sx rfl,sx rfl,trivial⟩) trivial trivial) ?_;refine uAn rfl (fun hc6=>?_) (fun hc6=>?_)
      ·try simp only [nn] at hc6
       have he : c=syms.getD k 0:=UInt8.toNat_inj.1 (by have : ((syms.getD k 0).toNat : Int)=(c.toNat : Int):=hc6; omega)
       refine uAe (uAb ?_);refine uAa rfl rfl rfl (uAd rfl gU) ?_;refine uAf ?_;refine uAp ?_
       repeat (first | refine tR ?_ | refine bR ?_)
       refine uAv rfl ?_ trivial;exact uBj (by rw [← hi,he]; simp)
      ·try simp only [nn] at hc6
       have he : (c == syms.getD k 0)=false:=by
        rw [beq_eq_false_iff_ne]
        intro q
        exact hc6 (by show ((syms.getD k 0).toNat : Int)=(c.toNat : Int); rw [q])
       rw [he,Bool.false_or] at hi
       refine uAq ?_;refine uAb ?_;refine uAa rfl rfl rfl (uAc rfl gU) ?_;refine uAa rfl rfl rfl (uAz rfl rfl gU gU rfl (IntWalk.i64_in _ (by omega))) ?_;refine uAa rfl rfl rfl (uAd rfl gU) ?_;refine uAf ?_;refine ⟨k + 1,?_,?_,uAj (⟨⟨_,rfl,?_⟩,⟨sx rfl,sx rfl,trivial⟩⟩) trivial trivial⟩
       all_goals (first | rfl | omega | exact ⟨by omega,hi⟩)
     ·try simp only [nn] at hc5
      have hk2 : k=18:=by simp at hc5; omega
      rw [List.drop_of_length_le (by rw [h18]; omega)] at hi
      refine uAQ ?_
      repeat (first | refine uAE ?_ | refine uAD ?_ | refine uAC rfl ?_)
      refine uAe (uAb ?_);refine uAa rfl rfl rfl (uAd rfl gU) ?_;refine uAf ?_;refine uAp ?_
      repeat (first | refine tR ?_ | refine bR ?_)
      refine uAv rfl ?_ trivial;exact uBj (by rw [← hi]; rfl)
theorem uD6 (c : UInt8) : (clsE c=2 ↔ uBo (c.toNat : Int)=true)∧(clsE c=3 ↔ uBK (c.toNat : Int)=true)∧(clsE c=1 ↔ uCB c=true):=by
 unfold clsE
 have h1 : uCB c=true→uBo (c.toNat : Int)≠true∧uBK (c.toNat : Int)≠true:=by simp [uCB,uBo,uBK]; omega
 have h2 : uBo (c.toNat : Int)=true→uBK (c.toNat : Int)≠true:=by simp [uBo,uBK]; omega
 refine ⟨?_,?_,?_⟩
 all_goals (repeat' split)
 all_goals simp_all
theorem uJv (c : UInt8) : uB3 (c.toNat : Int)=true ↔ ((clsE c=2∨clsE c=3)∨c.toNat=95)∨c.toNat=35:=by
 rw [(uD6 c).1,(uD6 c).2.1]
 have e1 : ((c.toNat : Int)=95)=(c.toNat=95):=propext (by omega)
 have e2 : ((c.toNat : Int)=35)=(c.toNat=35):=propext (by omega)
 simp only [uB3,Bool.or_eq_true,beq_iff_eq,e1,e2]
theorem uMN (s : List UInt8) (hs : s.length≤2000000) : Ctr sys 124 [xs s] [] (xs (s.take (wdN s))) none []:=by
 refine uAA Tryz.func124 rfl rfl rfl rfl rfl rfl ?_;refine uAe (uAb ?_);refine uAa rfl rfl rfl (uAd rfl gU) ?_;refine uAf ?_;refine uAe (uAb ?_);refine uAa rfl rfl rfl (uAd rfl gU) ?_;refine uAf ?_;refine uAe ?_;refine uAx ?_;refine uA6 (ι:=Nat) { t:=[(0,_,_)],bx:=[],ow:=[] } (fun k=>[(3,true,xi (k : Int))]) (fun k=>[]) (fun k=>k≤s.length∧wdN (s.drop k) + k=wdN s) (fun k=>s.length - k) (0) (⟨by omega,rfl⟩) (uAj (⟨sx rfl,sx rfl,trivial⟩) trivial trivial) ?_
 intro k hok
 dsimp only [List.cons_append,List.nil_append]
 obtain ⟨hk,hi⟩:=hok
 refine uAe ?_;refine uAe (uAb ?_);refine uAa rfl rfl rfl (uAc rfl gU) ?_;refine uAa rfl rfl rfl (uAc rfl gU) ?_;refine uBw rfl rfl rfl rfl rfl gU (Tryz.underlying9) ?_ (fun hh=>by simp at hh); intro hlen;refine uAa rfl rfl rfl (uAm rfl rfl gU gU rfl) ?_;refine uAa rfl rfl rfl (uAc rfl gU) ?_;refine uAa rfl rfl rfl (uAc rfl gU) ?_;refine uAa rfl rfl rfl (uAc rfl gU) ?_;refine uAa rfl rfl rfl (uAF (j:=k) rfl rfl (fun hh=>hh) (fun hh=>hh) Tryz.underlying9 (by first | omega | (simp at hh ⊢; omega)) (fun hh=>by first | omega | (simp at hh ⊢; omega))) ?_;refine uAw rfl rfl rfl rfl rfl rfl gU (fun hh=>gA ((fun hh=>hh) hh) (rfl)) (uDL _ _ rfl) rfl ?_;refine uAa rfl rfl rfl (uAm rfl rfl (fun hh=>hh) gU rfl) ?_;refine uAa rfl rfl rfl (uAc rfl (fun hh=>hh)) ?_;refine uAa rfl rfl rfl (uAc rfl gU) ?_;refine uBq (s:=⟨[(0,_,_),(3,_,_),(8,_,_),(14,_,_),(15,_,_)],[],[],[]⟩) (uAj (⟨sx rfl,sx rfl,sx rfl,sx rfl,sx rfl,trivial⟩) trivial trivial) ?_;refine uAa rfl rfl rfl (uAc rfl gU) ?_;refine uAa rfl rfl rfl (uAF (j:=k) rfl rfl (fun hh=>hh) (fun hh=>hh) Tryz.underlying9 (by first | omega | (simp at hh ⊢; omega)) (fun hh=>by first | omega | (simp at hh ⊢; omega))) ?_;refine uAw rfl rfl rfl rfl rfl rfl gU (fun hh=>gA ((fun hh=>hh) hh) (rfl)) (uDL _ _ rfl) rfl ?_
 refine uAa rfl rfl rfl (uAm rfl rfl (fun hh=>hh) gU rfl) ?_;refine uAa rfl rfl rfl (uAJ rfl rfl (fun hh=>hh) (fun hh hi=>gP hh hi)) ?_;refine uAa rfl rfl rfl (uAc rfl (fun hh=>hh)) ?_;refine uAa rfl rfl rfl (uAc rfl gU) ?_;refine uAa rfl rfl rfl (uAc rfl gU) ?_;refine uAa rfl rfl rfl (uAF (j:=k) rfl rfl (fun hh=>hh) (fun hh=>hh) Tryz.underlying9 (by first | omega | (simp at hh ⊢; omega)) (fun hh=>by first | omega | (simp at hh ⊢; omega))) ?_;refine uAa rfl rfl rfl (uAm rfl rfl (fun hh=>hh) gU rfl) ?_;refine uAa rfl rfl rfl (uAJ rfl rfl (fun hh=>hh) (fun hh hi=>gP hh hi)) ?_;refine uAa rfl rfl rfl (uAc rfl (fun hh=>hh)) ?_;refine uBq (s:=⟨[(0,_,_),(3,_,_),(8,_,_),(27,_,_)],[],[],[]⟩) (uAj (⟨sx rfl,sx rfl,sx rfl,sx rfl,trivial⟩) trivial trivial) ?_;refine uAa rfl rfl rfl (uAc rfl gU) ?_;refine uAa rfl rfl rfl (uAc rfl gU) ?_;refine uAa rfl rfl rfl (uAF (j:=k) rfl rfl (fun hh=>hh) (fun hh=>hh) Tryz.underlying9 (by first | omega | (simp at hh ⊢; omega)) (fun hh=>by first | omega | (simp at hh ⊢; omega))) ?_;refine uAa rfl rfl rfl (uAm rfl rfl (fun hh=>hh) gU rfl) ?_;refine uAa rfl rfl rfl (uAJ rfl rfl (fun hh=>hh) (fun hh hi=>gP hh hi)) ?_;refine uAa rfl rfl rfl (uAV rfl rfl gU (fun _ hi=>gP rfl hi)) ?_;refine uAf ?_;refine uAk (s:=⟨[(0,_,_),(3,_,_),(33,_,_)],[],[],[]⟩) (uAj (⟨sx rfl,sx rfl,sx rfl,trivial⟩) trivial trivial) ?_
 refine uAn rfl (fun hc=>?_) (fun hc=>?_)
 ·try simp only [nn] at hc
  rw [uBi (by omega),wdN,if_pos ((uJv _).2 (by omega))] at hi
  refine uAq ?_;refine uAx ?_;refine uAb ?_;refine uAa rfl rfl rfl (uAc rfl gU) ?_;refine uAa rfl rfl rfl (uAz rfl rfl gU gU rfl (IntWalk.i64_in _ (by omega))) ?_;refine uAa rfl rfl rfl (uAd rfl gU) ?_;refine uAf ?_;refine ⟨k + 1,?_,?_,uAj (⟨⟨_,rfl,?_⟩,⟨sx rfl,trivial⟩⟩) trivial trivial⟩
  all_goals (first | rfl | omega)
 ·try simp only [nn] at hc
  have hn : wdN (s.drop k)=0:=by
   by_cases hlt : k < s.length
   ·rw [uBi hlt,wdN,if_neg (fun q=>by have := (uJv _).1 q; omega)]
   ·rw [List.drop_of_length_le (by omega)]; rfl
  have hn2 : wdN s=k:=by omega
  rw [hn2]
  refine uAQ ?_
  repeat (first | refine uAE ?_ | refine uAD ?_ | refine uAC rfl ?_)
  refine uAe (uAb ?_);refine uAa rfl rfl rfl (uAc rfl gU) ?_;refine uAa rfl rfl rfl (uAc rfl gU) ?_;refine uAa rfl rfl rfl (uBr (h':=k) rfl gU Tryz.underlying9 (fun _=>rfl) (fun _=>⟨_,_,_,rfl,gU,by first | omega | (simp at hh ⊢; omega)⟩) (fun hh=>by first | omega | (simp at hh ⊢; omega)) (fun hh=>by first | omega | (simp at hh ⊢; omega))) ?_;refine uAa rfl rfl rfl (uAd rfl gU) ?_;refine uAf ?_;refine uAp ?_
  repeat (first | refine tR ?_ | refine bR ?_)
  refine uAv rfl ?_ trivial
  rfl
theorem uMz (s : List UInt8) (hs : s.length≤2000000) : Ctr sys 72 [xs s] [] (xs (uBh s)) none []:=by
 refine uAA Tryz.func72 rfl rfl rfl rfl rfl rfl ?_;refine uAe (uAb ?_);refine uAa rfl rfl rfl (uAd rfl gU) ?_;refine uAf ?_;refine uAe (uAb ?_);refine uAa rfl rfl rfl (uAd rfl gU) ?_;refine uAf ?_;refine uAe ?_;refine uAe (uAb ?_);refine uAa rfl rfl rfl (uAd rfl gU) ?_;refine uAf ?_;refine uAx ?_;refine uA6 (ι:=Nat × Bool) { t:=[(0,_,_)],bx:=[],ow:=[] } (fun p=>[(4,true,xi (p.1 : Int)),(3,true,xb p.2)]) (fun p=>[]) (fun p=>p.1≤s.length + 1∧s.take (uCt p.2 (s.drop p.1) + p.1)=uBh s) (fun p=>s.length + 1 - p.1) ((0,false)) (⟨by simp,rfl⟩) (uAj (⟨sx rfl,sx rfl,sx rfl,trivial⟩) trivial trivial) ?_
 intro p hok
 dsimp only [List.cons_append,List.nil_append] at *
 obtain ⟨k,ins⟩:=p
 dsimp only at hok ⊢
 obtain ⟨hk,hi⟩:=hok
 refine uAe ?_;refine uAe (uAb ?_);refine uAa rfl rfl rfl (uAc rfl gU) ?_;refine uAa rfl rfl rfl (uAc rfl gU) ?_;refine uBw rfl rfl rfl rfl rfl gU (Tryz.underlying9) ?_ (fun hh=>by simp at hh); intro hlen;refine uAa rfl rfl rfl (uAm rfl rfl gU gU rfl) ?_;refine uAf ?_;refine uAn rfl (fun hc=>?_) (fun hc=>?_)
 ·try simp only [nn] at hc
  have hd : s.drop k=s.getD k 0 :: s.drop (k + 1):=uBi (by omega)
  refine uAq ?_;refine uAe ?_;refine uAx ?_;refine uAe ?_;refine uAe (uAb ?_);refine uAa rfl rfl rfl (uAc rfl gU) ?_;refine uAa rfl rfl rfl (uAc rfl gU) ?_;refine uAa rfl rfl rfl (uAc rfl gU) ?_;refine uAa rfl rfl rfl (uAc rfl gU) ?_;refine uAa rfl rfl rfl (uAF (j:=k) rfl rfl (fun hh=>hh) (fun hh=>hh) Tryz.underlying9 (by first | omega | (simp at hh ⊢; omega)) (fun hh=>by first | omega | (simp at hh ⊢; omega))) ?_;refine uAa rfl rfl rfl (uAm rfl rfl (fun hh=>hh) gU rfl) ?_;refine uAa rfl rfl rfl (uAV rfl rfl gU (fun _ hi=>gP rfl hi)) ?_;refine uAf ?_;refine uAk (s:=⟨[(0,_,_),(3,_,_),(4,_,_),(17,_,_)],[],[],[]⟩) (uAj (⟨sx rfl,sx rfl,sx rfl,sx rfl,trivial⟩) trivial trivial) ?_;refine uAn rfl (fun hc2=>?_) (fun hc2=>?_)
  ·try simp only [nn] at hc2
   have hq : ins=true∧(s.getD k 0).toNat=92:=⟨hc2.1,by omega⟩
   have hi2 : s.take (uCt true (s.drop (k + 2)) + (k + 2))=uBh s:=by
    rw [← hi,hd]
    by_cases hlt : k + 1 < s.length
    ·rw [uBi hlt,uCt,if_pos hq,show k + 1 + 1=k + 2 from rfl]
     congr 1; omega
    ·rw [List.drop_of_length_le (by omega),List.drop_of_length_le (by omega),uCt,uCt,List.take_of_length_le (by omega),List.take_of_length_le (by omega)]
   refine uAe (uAb ?_);refine uAa rfl rfl rfl (uAc rfl gU) ?_;refine uAa rfl rfl rfl (uAz rfl rfl gU gU rfl (IntWalk.i64_in _ (by omega))) ?_;refine uAa rfl rfl rfl (uAd rfl gU) ?_;refine uAf ?_;refine uAQ ?_
   repeat (first | refine uAE ?_ | refine uAD ?_ | refine uAC rfl ?_)
   refine uAb ?_;refine uAa rfl rfl rfl (uAc rfl gU) ?_;refine uAa rfl rfl rfl (uAz rfl rfl gU gU rfl (IntWalk.i64_in _ (by omega))) ?_;refine uAa rfl rfl rfl (uAd rfl gU) ?_;refine uAf ?_;refine ⟨(k + 2,true),?_,?_,uAj (⟨⟨_,rfl,?_⟩,⟨⟨_,rfl,?_⟩,⟨sx rfl,trivial⟩⟩⟩) trivial trivial⟩
   all_goals (first | rfl | omega | exact ⟨by omega,hi2⟩ | exact tx (uCG hq.1))
  ·try simp only [nn] at hc2
   have hq : ¬(ins=true∧(s.getD k 0).toNat=92):=by
    rintro ⟨q1,q2⟩
    rcases hc2 with z | z
    ·rw [q1] at z; simp at z
    ·omega
   have hlast : k + 1=s.length → ∀ i2 : Bool,s.take (uCt i2 (s.drop (k + 1)) + (k + 1))=uBh s:=by
    intro e i2
    rw [← hi,hd,List.drop_of_length_le (by omega),List.take_of_length_le (by omega),uCt,List.take_of_length_le (by omega)]
   have hcut : k + 1 < s.length→(if (s.getD k 0).toNat=34 then !ins else ins)=false∧(s.getD k 0).toNat=35∧(s.getD (k + 1) 0).toNat=35→s.take k=uBh s:=by
    intro e q
    rw [← hi,hd,uBi e,uCt,if_neg hq,if_pos q,Nat.zero_add]
   have hnext : k + 1 < s.length → ¬((if (s.getD k 0).toNat=34 then !ins else ins)=false∧(s.getD k 0).toNat=35∧(s.getD (k + 1) 0).toNat=35)→s.take (uCt (if (s.getD k 0).toNat=34 then !ins else ins) (s.drop (k + 1)) + (k + 1))=uBh s:=by
    intro e q
    rw [← hi,hd,uBi e,uCt,if_neg hq,if_neg q]
    congr 1; omega
   have h35 : k + 1 < s.length→((s.take (k + 2)).drop k=[35,35] ↔ (s.getD k 0).toNat=35∧(s.getD (k + 1) 0).toNat=35):=by
    intro e
    have e1 : (s.take (k + 2)).drop k=[s.getD k 0,s.getD (k + 1) 0]:=by
     rw [uBi (by simp; omega),uBi (by simp; omega),List.drop_of_length_le (by simp; omega),uF4 _ _ (by omega),uF4 _ _ (by omega)]
    rw [e1]
    constructor
    ·intro q; simp only [List.cons.injEq,and_true] at q; rw [q.1,q.2]; exact ⟨rfl,rfl⟩
    ·rintro ⟨q1,q2⟩
     rw [UInt8.toNat_inj.1 (show (s.getD k 0).toNat=(35 : UInt8).toNat from q1),UInt8.toNat_inj.1 (show (s.getD (k + 1) 0).toNat=(35 : UInt8).toNat from q2)]
   refine uAq ?_;refine uAe ?_;refine uAe (uAb ?_);refine uAa rfl rfl rfl (uAc rfl gU) ?_;refine uAa rfl rfl rfl (uAc rfl gU) ?_;refine uAa rfl rfl rfl (uAF (j:=k) rfl rfl gU gU Tryz.underlying9 (by first | omega | (simp at hh ⊢; omega)) (fun hh=>by first | omega | (simp at hh ⊢; omega))) ?_;refine uAa rfl rfl rfl (uAm rfl rfl gU gU rfl) ?_;refine uAf ?_;refine uAn rfl (fun hc3=>?_) (fun hc3=>?_)
   ·try simp only [nn] at hc3
    rw [if_pos (by omega)] at hcut hnext
    refine uAb ?_;refine uAa rfl rfl rfl (uAc rfl gU) ?_;refine uAa rfl rfl rfl (uAZ rfl gU) ?_;refine uAa rfl rfl rfl (uAd rfl gU) ?_;refine uAf ?_;refine uAk (s:=⟨[(0,_,_),(3,_,_),(4,_,_)],[],[],[]⟩) (uAj (⟨sx rfl,sx rfl,sx rfl,trivial⟩) trivial trivial) ?_;refine uAe (uAb ?_);refine uAa rfl rfl rfl (uAc rfl gU) ?_;refine uAa rfl rfl rfl (uAZ rfl gU) ?_;refine uAa rfl rfl rfl (uAc rfl gU) ?_;refine uAa rfl rfl rfl (uAc rfl gU) ?_;refine uAa rfl rfl rfl (uAz rfl rfl (fun hh=>hh) gU rfl (IntWalk.i64_in _ (by omega))) ?_;refine uAa rfl rfl rfl (uAc rfl gU) ?_;refine uAa rfl rfl rfl (uCc rfl (fun hh=>hh) (Tryz.underlying9)) ?_;refine uAa rfl rfl rfl (uAm rfl rfl (fun hh=>hh) (fun hh=>hh) rfl) ?_;refine uAa rfl rfl rfl (uAV rfl rfl gU (fun _ hi=>gP rfl hi)) ?_;refine uAa rfl rfl rfl (uAc rfl gU) ?_;refine uAa rfl rfl rfl (uAc rfl gU) ?_;refine uAa rfl rfl rfl (uAc rfl gU) ?_;refine uBq (s:=⟨[(0,_,_),(3,_,_),(4,_,_),(35,_,_),(36,_,_),(37,_,_)],[],[],[]⟩) (uAj (⟨sx rfl,sx rfl,sx rfl,sx rfl,sx rfl,sx rfl,trivial⟩) trivial trivial) ?_;refine uAa rfl rfl rfl (uAc rfl gU) ?_;refine uAa rfl rfl rfl (uAz rfl rfl (fun hh=>hh) gU rfl (IntWalk.i64_in _ (by omega))) ?_;refine uAa rfl rfl rfl (uBr (l:=k) (h':=(k + 2)) rfl (fun hh=>hh) Tryz.underlying9 (fun _=>⟨_,_,_,rfl,(fun hh=>hh),by first | omega | (simp at hh ⊢; omega)⟩) (fun _=>⟨_,_,_,rfl,(fun hh=>hh),by first | omega | (simp at hh ⊢; omega)⟩) (fun hh=>by first | omega | (simp at hh ⊢; omega)) (fun hh=>by first | omega | (simp at hh ⊢; omega))) ?_
    refine uAa rfl rfl rfl (uA9 rfl rfl (fun hh=>hh) gU rfl) ?_;refine uAa rfl rfl rfl (uAV rfl rfl gU (fun _ hi=>gP rfl hi)) ?_;refine uAf ?_;refine uAk (s:=⟨[(0,_,_),(3,_,_),(4,_,_),(42,_,_)],[],[],[]⟩) (uAj (⟨sx rfl,sx rfl,sx rfl,sx rfl,trivial⟩) trivial trivial) ?_;refine uAn rfl (fun hc4=>?_) (fun hc4=>?_)
    ·try simp only [nn] at hc4
     exfalso
     have := (h35 (by omega)).1 hc4.2
     omega
    ·try simp only [nn] at hc4
     have hfin : s.take (uCt (!ins) (s.drop (k + 1)) + (k + 1))=uBh s:=by
      by_cases hlt : k + 1 < s.length
      ·exact hnext hlt (by omega)
      ·exact hlast (by omega) _
     refine uAq ?_;refine uAb ?_;refine uAa rfl rfl rfl (uAc rfl gU) ?_;refine uAa rfl rfl rfl (uAz rfl rfl gU gU rfl (IntWalk.i64_in _ (by omega))) ?_;refine uAa rfl rfl rfl (uAd rfl gU) ?_;refine uAf ?_;refine ⟨(k + 1,!ins),?_,?_,uAj (⟨⟨_,rfl,?_⟩,⟨⟨_,rfl,?_⟩,⟨sx rfl,trivial⟩⟩⟩) trivial trivial⟩
     all_goals (first | rfl | omega | exact ⟨by omega,hfin⟩)
   ·try simp only [nn] at hc3
    rw [if_neg (by omega)] at hcut hnext
    refine uAq ?_;refine uAe (uAb ?_);refine uAa rfl rfl rfl (uAc rfl gU) ?_;refine uAa rfl rfl rfl (uAZ rfl gU) ?_;refine uAa rfl rfl rfl (uAc rfl gU) ?_;refine uAa rfl rfl rfl (uAc rfl gU) ?_;refine uAa rfl rfl rfl (uAz rfl rfl (fun hh=>hh) gU rfl (IntWalk.i64_in _ (by omega))) ?_;refine uAa rfl rfl rfl (uAc rfl gU) ?_;refine uAa rfl rfl rfl (uCc rfl (fun hh=>hh) (Tryz.underlying9)) ?_;refine uAa rfl rfl rfl (uAm rfl rfl (fun hh=>hh) (fun hh=>hh) rfl) ?_;refine uBq (s:=⟨[(0,_,_),(3,_,_),(4,_,_),(28,_,_),(33,_,_)],[],[],[]⟩) (uAj (⟨sx rfl,sx rfl,sx rfl,sx rfl,sx rfl,trivial⟩) trivial trivial) ?_;refine uAa rfl rfl rfl (uAV rfl rfl gU (fun _ hi=>gP rfl hi)) ?_;refine uAa rfl rfl rfl (uAc rfl gU) ?_;refine uAa rfl rfl rfl (uAc rfl gU) ?_;refine uAa rfl rfl rfl (uAc rfl gU) ?_;refine uAa rfl rfl rfl (uAc rfl gU) ?_;refine uAa rfl rfl rfl (uAz rfl rfl (fun hh=>hh) gU rfl (IntWalk.i64_in _ (by omega))) ?_;refine uAa rfl rfl rfl (uBr (l:=k) (h':=(k + 2)) rfl (fun hh=>hh) Tryz.underlying9 (fun _=>⟨_,_,_,rfl,(fun hh=>hh),by first | omega | (simp at hh ⊢; omega)⟩) (fun _=>⟨_,_,_,rfl,(fun hh=>hh),by first | omega | (simp at hh ⊢; omega)⟩) (fun hh=>by first | omega | (simp at hh ⊢; omega)) (fun hh=>by first | omega | (simp at hh ⊢; omega))) ?_
    refine uAa rfl rfl rfl (uA9 rfl rfl (fun hh=>hh) gU rfl) ?_;refine uAa rfl rfl rfl (uAV rfl rfl gU (fun _ hi=>gP rfl hi)) ?_;refine uAf ?_;refine uAk (s:=⟨[(0,_,_),(3,_,_),(4,_,_),(42,_,_)],[],[],[]⟩) (uAj (⟨sx rfl,sx rfl,sx rfl,sx rfl,trivial⟩) trivial trivial) ?_;refine uAn rfl (fun hc4=>?_) (fun hc4=>?_)
    ·try simp only [nn] at hc4
     have := (h35 (by omega)).1 hc4.2
     have hfin:=hcut (by omega) ⟨hc4.1.1,this⟩
     refine uAe (uAb ?_);refine uAa rfl rfl rfl (uAc rfl gU) ?_;refine uAa rfl rfl rfl (uAc rfl gU) ?_;refine uAa rfl rfl rfl (uBr (h':=k) rfl gU Tryz.underlying9 (fun _=>rfl) (fun _=>⟨_,_,_,rfl,gU,by first | omega | (simp at hh ⊢; omega)⟩) (fun hh=>by first | omega | (simp at hh ⊢; omega)) (fun hh=>by first | omega | (simp at hh ⊢; omega))) ?_;refine uAa rfl rfl rfl (uAd rfl gU) ?_;refine uAf ?_;refine uAp ?_
     repeat (first | refine tR ?_ | refine bR ?_)
     refine uAv rfl ?_ trivial
     (rw [← hfin]; rfl)
    ·try simp only [nn] at hc4
     have hfin : s.take (uCt ins (s.drop (k + 1)) + (k + 1))=uBh s:=by
      by_cases hlt : k + 1 < s.length
      ·refine hnext hlt ?_
       rintro ⟨q1,q2⟩
       have q3:=(h35 hlt).2 q2
       rcases hc4 with z | z
       ·rcases z with z | z
        ·rw [q1] at z; simp at z
        ·omega
       ·exact z q3
      ·exact hlast (by omega) _
     refine uAq ?_;refine uAb ?_;refine uAa rfl rfl rfl (uAc rfl gU) ?_;refine uAa rfl rfl rfl (uAz rfl rfl gU gU rfl (IntWalk.i64_in _ (by omega))) ?_;refine uAa rfl rfl rfl (uAd rfl gU) ?_;refine uAf ?_;refine ⟨(k + 1,ins),?_,?_,uAj (⟨⟨_,rfl,?_⟩,⟨⟨_,rfl,?_⟩,⟨sx rfl,trivial⟩⟩⟩) trivial trivial⟩
     all_goals (first | rfl | omega | exact ⟨by omega,hfin⟩)
 ·try simp only [nn] at hc
  rw [List.take_of_length_le (by omega)] at hi
  refine uAQ ?_
  repeat (first | refine uAE ?_ | refine uAD ?_ | refine uAC rfl ?_)
  refine uAe (uAb ?_);refine uAa rfl rfl rfl (uAc rfl gU) ?_;refine uAa rfl rfl rfl (uAd rfl gU) ?_;refine uAf ?_;refine uAp ?_
  repeat (first | refine tR ?_ | refine bR ?_)
  refine uAv rfl ?_ trivial
  (rw [← hi]; rfl)
def uFA : List UInt8→Nat→UInt8→Int→Int
 | [],_,_,r=>r
 | b :: l,k,c,r=>uFA l (k + 1) c (if c.toNat=b.toNat then (k : Int) else r)
theorem uO3 : ∀ n : Fin 256,uFA hexs 0 (UInt8.ofNat n.val) (-1)=if hexB (UInt8.ofNat n.val)=true then hexV (UInt8.ofNat n.val) else -1:=by decide +kernel
theorem uLp (c : UInt8) : uFA hexs 0 c (-1)=if hexB c=true then hexV c else -1:=by
 have := uO3 ⟨c.toNat,c.toNat_lt⟩
 rwa [show UInt8.ofNat c.toNat=c from UInt8.ofNat_toNat] at this
def forms : List UInt8:=[110,10,116,9,34,34,92,92]
def uH4 : List UInt8→UInt8→Option UInt8
 | a :: b :: l,c=>if c.toNat=a.toNat then some b else uH4 l c
 | _,_=>none
theorem uOn {a b : Int} {n m : Int} (h : a=b) (hn : n=m) : X.tup [.c (.i .u8 a), .c (.i .i64 n)]=X.tup [.c (.i .u8 b), .c (.i .i64 m)]:=by rw [h,hn]
theorem uJI (s : List UInt8) (hs : s.length≤2000000) : Ctr sys 156 [xs s] [] (.tup [.c (.i .u8 ((escE s).1.toNat : Int)), .c (.i .i64 ((escE s).2 : Int))]) none []:=by
 have h8 : forms.length=8:=rfl
 have h16 : hexs.length=16:=rfl
 refine uAA Tryz.func156 rfl rfl rfl rfl rfl rfl ?_;refine uAe (uAb ?_);refine uAa rfl rfl rfl (uAd rfl gU) ?_;refine uAa rfl rfl rfl (uAd rfl gU) ?_;refine uAf ?_;refine uAe ?_;refine uAe (uAb ?_);refine uAa rfl rfl rfl (uAc rfl gU) ?_;refine uBw rfl rfl rfl rfl rfl gU (Tryz.underlying9) ?_ (fun hh=>by simp at hh); intro hlen;refine uAa rfl rfl rfl (uAm rfl rfl gU gU rfl) ?_;refine uAf ?_;refine uAk (s:=⟨[(0,_,_),(12,_,_)],[],[],[]⟩) (uAj (⟨sx rfl,sx rfl,trivial⟩) trivial trivial) ?_;refine uAn rfl (fun hc=>?_) (fun hc=>?_)
 ·try simp only [nn] at hc
  have : s=[]:=by cases s; rfl; simp at hc; omega
  subst this
  refine uAe (uAb ?_);refine uAa rfl rfl rfl (uAd rfl gU) ?_;refine uAa rfl rfl rfl (uAd rfl gU) ?_;refine uAf ?_;refine uAp ?_
  repeat (first | refine tR ?_ | refine bR ?_)
  refine uAv rfl ?_ trivial
  rfl
 ·try simp only [nn] at hc
  have he:=uLu (s:=s) (k:=0) (by omega)
  rw [List.drop_zero,Nat.zero_add,Nat.zero_add] at he
  have hu:=(s.getD 0 0).toNat_lt
  refine uAq ?_;refine uAe (uAb ?_);refine uAa rfl rfl rfl (uAd rfl gU) ?_;refine uAf ?_;refine uAe ?_;refine uAe (uAb ?_);refine uAa rfl rfl rfl (uAd rfl gU) ?_;refine uAf ?_;refine uAx ?_;refine uA6 (ι:=Nat) { t:=[(0,_,_),(4,_,_)],bx:=[],ow:=[] } (fun k=>[(5,true,xi (k : Int))]) (fun k=>[]) (fun k=>k≤8∧k % 2=0∧uH4 (forms.drop k) (s.getD 0 0)=uH4 forms (s.getD 0 0)) (fun k=>8 - k) (0) (⟨by omega,by omega,rfl⟩) (uAj (⟨sx rfl,sx rfl,sx rfl,trivial⟩) trivial trivial) ?_
  intro k hok
  dsimp only [List.cons_append,List.nil_append]
  obtain ⟨hk,hk2,hi⟩:=hok
  refine uAe ?_;refine uAe (uAb ?_);refine uAa rfl rfl rfl (uAc rfl gU) ?_;refine uAa rfl rfl rfl (uAc rfl gU) ?_;refine uBw rfl rfl rfl rfl rfl gU (Tryz.underlying9) ?_ (fun hh=>by simp at hh); intro hlen;refine uAa rfl rfl rfl (uAm rfl rfl gU gU rfl) ?_;refine uAf ?_;refine uAn rfl (fun hc2=>?_) (fun hc2=>?_)
  ·try simp only [nn] at hc2
   have hk3 : k < 7:=by simp at hc2; omega
   rw [uBi (by omega),uBi (by omega),uH4] at hi
   refine uAq ?_;refine uAe ?_;refine uAx ?_;refine uAe ?_;refine awp_drawn' (by kernel_rfl) ?_;refine uAi rfl rfl rfl rfl (uAc rfl gU) ?_;refine uAi rfl rfl rfl rfl (uAF (j:=0) rfl rfl gU gU Tryz.underlying9 (by first | omega | (show _ < 8; omega) | (simp at hh ⊢; omega)) (fun hh=>by first | omega | (show _ < 8; omega) | (simp at hh ⊢; omega))) ?_;refine uAi rfl rfl rfl rfl (uAc rfl gU) ?_;refine uAi rfl rfl rfl rfl (uAc rfl gU) ?_;refine uAi rfl rfl rfl rfl (uAF (j:=k) rfl rfl gU gU Tryz.underlying9 (by first | omega | (show _ < 8; omega) | (simp at hh ⊢; omega)) (fun hh=>by first | omega | (show _ < 8; omega) | (simp at hh ⊢; omega))) ?_;refine uAi rfl rfl rfl rfl (uAm rfl rfl gU gU rfl) ?_;refine uA2 (by kernel_rfl) ?_;refine uAk (s:=⟨[(0,_,_),(4,_,_),(5,_,_),(24,_,_)],[],[],[]⟩) (uAj (⟨sx rfl,sx rfl,sx rfl,sx rfl,trivial⟩) trivial trivial) ?_;refine uAn rfl (fun hc3=>?_) (fun hc3=>?_)
   ·try simp only [nn] at hc3
    have hq : (s.getD 0 0).toNat=(forms.getD k 0).toNat:=by have : ((s.getD 0 0).toNat : Int)=((forms.getD k 0).toNat : Int):=hc3; omega
    rw [if_pos hq] at hi
    have hesc : escE s=(forms.getD (k + 1) 0,1):=by
     have hks : k=0∨k=2∨k=4∨k=6:=by omega
     rw [he]
     rcases hks with rfl | rfl | rfl | rfl
     ·rw [if_pos (by rw [hq]; rfl)]; rfl
     ·rw [if_neg (by rw [hq]; decide),if_pos (by rw [hq]; rfl)]; rfl
     ·rw [if_neg (by rw [hq]; decide),if_neg (by rw [hq]; decide),if_pos (by rw [hq]; decide),UInt8.toNat_inj.1 hq]; rfl
     ·rw [if_neg (by rw [hq]; decide),if_neg (by rw [hq]; decide),if_pos (by rw [hq]; decide),UInt8.toNat_inj.1 hq]; rfl
    rw [hesc]
    refine uAe (uAb ?_);refine uAa rfl rfl rfl (uAc rfl gU) ?_;refine uAa rfl rfl rfl (uAc rfl gU) ?_;refine uAa rfl rfl rfl (uAz rfl rfl gU gU rfl (IntWalk.i64_in _ (by omega))) ?_;refine uAa rfl rfl rfl (uAF (j:=k + 1) rfl rfl gU gU Tryz.underlying9 (by first | omega | (show _ < 8; omega) | (simp at hh ⊢; omega)) (fun hh=>by first | omega | (show _ < 8; omega) | (simp at hh ⊢; omega))) ?_;refine uAa rfl rfl rfl (uAd rfl gU) ?_;refine uAa rfl rfl rfl (uAd rfl gU) ?_;refine uAf ?_;refine uAp ?_
    repeat (first | refine tR ?_ | refine bR ?_)
    refine uAv rfl ?_ trivial
    rfl
   ·try simp only [nn] at hc3
    have hq : ¬(s.getD 0 0).toNat=(forms.getD k 0).toNat:=by intro q; exact hc3 (by show ((s.getD 0 0).toNat : Int)=((forms.getD k 0).toNat : Int); rw [q])
    rw [if_neg hq] at hi
    refine uAq ?_;refine uAb ?_;refine uAa rfl rfl rfl (uAc rfl gU) ?_;refine uAa rfl rfl rfl (uAz rfl rfl gU gU rfl (IntWalk.i64_in _ (by omega))) ?_;refine uAa rfl rfl rfl (uAd rfl gU) ?_;refine uAf ?_;refine ⟨k + 2,?_,?_,uAj (⟨⟨_,rfl,?_⟩,⟨sx rfl,sx rfl,trivial⟩⟩) trivial trivial⟩
    all_goals (first | rfl | omega | exact ⟨by omega,by omega,hi⟩)
  ·try simp only [nn] at hc2
   have hk3 : k=8:=by simp at hc2; omega
   rw [List.drop_of_length_le (by omega),show uH4 [] (s.getD 0 0)=none from rfl] at hi
   have hno : (s.getD 0 0).toNat≠110∧(s.getD 0 0).toNat≠116∧(s.getD 0 0).toNat≠34∧(s.getD 0 0).toNat≠92:=by
    have hf : ∀ c : UInt8,uH4 forms c=if c.toNat=110 then some 10 else if c.toNat=116 then some 9 else if c.toNat=34 then some 34 else if c.toNat=92 then some 92 else none:=fun c=>rfl
    rw [hf] at hi
    refine ⟨fun q=>?_,fun q=>?_,fun q=>?_,fun q=>?_⟩
    ·rw [if_pos q] at hi; cases hi
    ·rw [if_neg (by omega),if_pos q] at hi; cases hi
    ·rw [if_neg (by omega),if_neg (by omega),if_pos q] at hi; cases hi
    ·rw [if_neg (by omega),if_neg (by omega),if_neg (by omega),if_pos q] at hi; cases hi
   rw [if_neg hno.1,if_neg hno.2.1,if_neg (by omega)] at he
   refine uAQ ?_
   repeat (first | refine uAE ?_ | refine uAD ?_ | refine uAC rfl ?_)
   refine uAe (uAb ?_);refine uAa rfl rfl rfl (uAd rfl gU) ?_;refine uAf ?_;refine uAk (s:=⟨[(0,_,_),(6,_,_)],[],[],[]⟩) (uAj (⟨sx rfl,sx rfl,trivial⟩) trivial trivial) ?_;refine uAe ?_;refine uAe (uAb ?_);refine uAa rfl rfl rfl (uAc rfl gU) ?_;refine uAa rfl rfl rfl (uAF (j:=0) rfl rfl gU gU Tryz.underlying9 (by first | omega | (show _ < 16; omega) | (simp at hh ⊢; omega)) (fun hh=>by first | omega | (show _ < 16; omega) | (simp at hh ⊢; omega))) ?_;refine uAa rfl rfl rfl (uAm rfl rfl gU gU rfl) ?_;refine uAa rfl rfl rfl (uAc rfl gU) ?_;refine uAa rfl rfl rfl (uAc rfl gU) ?_;refine uAa rfl rfl rfl (uCc rfl (fun hh=>hh) (Tryz.underlying9)) ?_;refine uAa rfl rfl rfl (uAm rfl rfl (fun hh=>hh) gU rfl) ?_;refine uAa rfl rfl rfl (uAJ rfl rfl gU (fun _ hi=>gP rfl hi)) ?_;refine uAf ?_;refine uAk (s:=⟨[(0,_,_),(6,_,_),(36,_,_)],[],[],[]⟩) (uAj (⟨sx rfl,sx rfl,sx rfl,trivial⟩) trivial trivial) ?_;refine uAn rfl (fun hc3=>?_) (fun hc3=>?_)
   ·try simp only [nn] at hc3
    rw [if_neg (by omega)] at he
    rw [he]
    refine uAe (uAb ?_);refine uAa rfl rfl rfl (uAd rfl gU) ?_;refine uAa rfl rfl rfl (uAd rfl gU) ?_;refine uAf ?_;refine uAp ?_
    repeat (first | refine tR ?_ | refine bR ?_)
    refine uAv rfl ?_ trivial
    rfl
   ·try simp only [nn] at hc3
    refine uAq ?_;refine uAe (uAb ?_);refine uAa rfl rfl rfl (uAd rfl gU) ?_;refine uAa rfl rfl rfl (uAd rfl gU) ?_;refine uAf ?_;refine uAe ?_;refine uAe (uAb ?_);refine uAa rfl rfl rfl (uAd rfl gU) ?_;refine uAf ?_;refine uAx ?_;refine uA6 (ι:=Nat × Int × Int) { t:=[(0,_,_),(6,_,_)],bx:=[],ow:=[] } (fun q=>[(9,true,xi (q.1 : Int)),(7,true,xi q.2.1),(8,true,xi q.2.2)]) (fun q=>[]) (fun q=>q.1≤16 ∧ -1≤q.2.1∧q.2.1≤16 ∧ -1≤q.2.2∧q.2.2≤16∧uFA (hexs.drop q.1) q.1 (s.getD 1 0) q.2.1=uFA hexs 0 (s.getD 1 0) (-1)∧uFA (hexs.drop q.1) q.1 (s.getD 2 0) q.2.2=uFA hexs 0 (s.getD 2 0) (-1)) (fun q=>16 - q.1) ((0,-1,-1)) (⟨by simp,by simp,by simp,by simp,by simp,rfl,rfl⟩) (uAj (⟨sx rfl,sx rfl,sx rfl,sx rfl,sx rfl,trivial⟩) trivial trivial) ?_
    intro q hok
    dsimp only [List.cons_append,List.nil_append] at *
    obtain ⟨j,a,b⟩:=q
    dsimp only at hok ⊢
    obtain ⟨hj,ha0,ha1,hb0,hb1,hi1,hi2⟩:=hok
    refine uAe ?_;refine uAe (uAb ?_);refine uAa rfl rfl rfl (uAc rfl gU) ?_;refine uAa rfl rfl rfl (uAc rfl gU) ?_;refine uBw rfl rfl rfl rfl rfl gU (Tryz.underlying9) ?_ (fun hh=>by simp at hh); intro hlen;refine uAa rfl rfl rfl (uAm rfl rfl gU gU rfl) ?_;refine uAf ?_;refine uAn rfl (fun hc4=>?_) (fun hc4=>?_)
    ·try simp only [nn] at hc4
     have hj2 : j < 16:=by simp at hc4; omega
     rw [uBi (by omega),uFA] at hi1 hi2
     refine uAq ?_;refine uAe ?_;refine uAx ?_;refine uAe ?_;refine uAe ?_;refine awp_drawn' (by kernel_rfl) ?_;refine uAi rfl rfl rfl rfl (uAc rfl gU) ?_;refine uAi rfl rfl rfl rfl (uAF (j:=1) rfl rfl gU gU Tryz.underlying9 (by first | omega | (show _ < 16; omega) | (simp at hh ⊢; omega)) (fun hh=>by first | omega | (show _ < 16; omega) | (simp at hh ⊢; omega))) ?_;refine uAi rfl rfl rfl rfl (uAc rfl gU) ?_;refine uAi rfl rfl rfl rfl (uAc rfl gU) ?_;refine uAi rfl rfl rfl rfl (uAF (j:=j) rfl rfl gU gU Tryz.underlying9 (by first | omega | (show _ < 16; omega) | (simp at hh ⊢; omega)) (fun hh=>by first | omega | (show _ < 16; omega) | (simp at hh ⊢; omega))) ?_;refine uAi rfl rfl rfl rfl (uAm rfl rfl gU gU rfl) ?_;refine uA2 (by kernel_rfl) ?_;refine uAk (s:=⟨[(0,_,_),(6,_,_),(7,_,_),(8,_,_),(9,_,_),(48,_,_)],[],[],[]⟩) (uAj (⟨sx rfl,sx rfl,sx rfl,sx rfl,sx rfl,sx rfl,trivial⟩) trivial trivial) ?_;refine uAn rfl (fun hc5=>?_) (fun hc5=>?_)
     ·try simp only [nn] at hc5
      rw [if_pos (by have : ((s.getD 1 0).toNat : Int)=((hexs.getD j 0).toNat : Int):=hc5; omega)] at hi1
      refine uAb ?_;refine uAa rfl rfl rfl (uAc rfl gU) ?_;refine uAa rfl rfl rfl (uAd rfl gU) ?_;refine uAf ?_;refine uAe ?_;refine awp_drawn' (by kernel_rfl) ?_;refine uAi rfl rfl rfl rfl (uAc rfl gU) ?_;refine uAi rfl rfl rfl rfl (uAF (j:=2) rfl rfl gU gU Tryz.underlying9 (by first | omega | (show _ < 16; omega) | (simp at hh ⊢; omega)) (fun hh=>by first | omega | (show _ < 16; omega) | (simp at hh ⊢; omega))) ?_;refine uAi rfl rfl rfl rfl (uAc rfl gU) ?_;refine uAi rfl rfl rfl rfl (uAc rfl gU) ?_;refine uAi rfl rfl rfl rfl (uAF (j:=j) rfl rfl gU gU Tryz.underlying9 (by first | omega | (show _ < 16; omega) | (simp at hh ⊢; omega)) (fun hh=>by first | omega | (show _ < 16; omega) | (simp at hh ⊢; omega))) ?_;refine uAi rfl rfl rfl rfl (uAm rfl rfl gU gU rfl) ?_;refine uA2 (by kernel_rfl) ?_;refine uAk (s:=⟨[(0,_,_),(6,_,_),(7,_,_),(8,_,_),(9,_,_),(55,_,_)],[],[],[]⟩) (uAj (⟨sx rfl,sx rfl,sx rfl,sx rfl,sx rfl,sx rfl,trivial⟩) trivial trivial) ?_;refine uAn rfl (fun hc6=>?_) (fun hc6=>?_)
      ·try simp only [nn] at hc6
       rw [if_pos (by have : ((s.getD 2 0).toNat : Int)=((hexs.getD j 0).toNat : Int):=hc6; omega)] at hi2
       refine uAb ?_;refine uAa rfl rfl rfl (uAc rfl gU) ?_;refine uAa rfl rfl rfl (uAd rfl gU) ?_;refine uAf ?_;refine uAb ?_;refine uAa rfl rfl rfl (uAc rfl gU) ?_;refine uAa rfl rfl rfl (uAz rfl rfl gU gU rfl (IntWalk.i64_in _ (by omega))) ?_;refine uAa rfl rfl rfl (uAd rfl gU) ?_;refine uAf ?_;refine ⟨(j + 1,(j : Int),(j : Int)),?_,?_,uAj (⟨⟨_,rfl,?_⟩,⟨⟨_,rfl,?_⟩,⟨⟨_,rfl,?_⟩,⟨sx rfl,sx rfl,trivial⟩⟩⟩⟩) trivial trivial⟩
       all_goals (first | rfl | omega | (refine ⟨?_,?_,?_,?_,?_,hi1,hi2⟩ <;> (dsimp only; omega)))
      ·try simp only [nn] at hc6
       rw [if_neg (by intro q; exact hc6 (by show ((s.getD 2 0).toNat : Int)=((hexs.getD j 0).toNat : Int); rw [q]))] at hi2
       refine uAq ?_;refine uAb ?_;refine uAa rfl rfl rfl (uAc rfl gU) ?_;refine uAa rfl rfl rfl (uAz rfl rfl gU gU rfl (IntWalk.i64_in _ (by omega))) ?_;refine uAa rfl rfl rfl (uAd rfl gU) ?_;refine uAf ?_;refine ⟨(j + 1,(j : Int),b),?_,?_,uAj (⟨⟨_,rfl,?_⟩,⟨⟨_,rfl,?_⟩,⟨⟨_,rfl,?_⟩,⟨sx rfl,sx rfl,trivial⟩⟩⟩⟩) trivial trivial⟩
       all_goals (first | rfl | omega | (refine ⟨?_,?_,?_,?_,?_,hi1,hi2⟩ <;> (dsimp only; omega)))
     ·try simp only [nn] at hc5
      rw [if_neg (by intro q; exact hc5 (by show ((s.getD 1 0).toNat : Int)=((hexs.getD j 0).toNat : Int); rw [q]))] at hi1
      refine uAq ?_;refine uAe ?_;refine awp_drawn' (by kernel_rfl) ?_;refine uAi rfl rfl rfl rfl (uAc rfl gU) ?_;refine uAi rfl rfl rfl rfl (uAF (j:=2) rfl rfl gU gU Tryz.underlying9 (by first | omega | (show _ < 16; omega) | (simp at hh ⊢; omega)) (fun hh=>by first | omega | (show _ < 16; omega) | (simp at hh ⊢; omega))) ?_;refine uAi rfl rfl rfl rfl (uAc rfl gU) ?_;refine uAi rfl rfl rfl rfl (uAc rfl gU) ?_;refine uAi rfl rfl rfl rfl (uAF (j:=j) rfl rfl gU gU Tryz.underlying9 (by first | omega | (show _ < 16; omega) | (simp at hh ⊢; omega)) (fun hh=>by first | omega | (show _ < 16; omega) | (simp at hh ⊢; omega))) ?_;refine uAi rfl rfl rfl rfl (uAm rfl rfl gU gU rfl) ?_;refine uA2 (by kernel_rfl) ?_;refine uAk (s:=⟨[(0,_,_),(6,_,_),(7,_,_),(8,_,_),(9,_,_),(55,_,_)],[],[],[]⟩) (uAj (⟨sx rfl,sx rfl,sx rfl,sx rfl,sx rfl,sx rfl,trivial⟩) trivial trivial) ?_;refine uAn rfl (fun hc6=>?_) (fun hc6=>?_)
      ·try simp only [nn] at hc6
       rw [if_pos (by have : ((s.getD 2 0).toNat : Int)=((hexs.getD j 0).toNat : Int):=hc6; omega)] at hi2
       refine uAb ?_;refine uAa rfl rfl rfl (uAc rfl gU) ?_;refine uAa rfl rfl rfl (uAd rfl gU) ?_;refine uAf ?_;refine uAb ?_;refine uAa rfl rfl rfl (uAc rfl gU) ?_;refine uAa rfl rfl rfl (uAz rfl rfl gU gU rfl (IntWalk.i64_in _ (by omega))) ?_;refine uAa rfl rfl rfl (uAd rfl gU) ?_;refine uAf ?_;refine ⟨(j + 1,a,(j : Int)),?_,?_,uAj (⟨⟨_,rfl,?_⟩,⟨⟨_,rfl,?_⟩,⟨⟨_,rfl,?_⟩,⟨sx rfl,sx rfl,trivial⟩⟩⟩⟩) trivial trivial⟩
       all_goals (first | rfl | omega | (refine ⟨?_,?_,?_,?_,?_,hi1,hi2⟩ <;> (dsimp only; omega)))
      ·try simp only [nn] at hc6
       rw [if_neg (by intro q; exact hc6 (by show ((s.getD 2 0).toNat : Int)=((hexs.getD j 0).toNat : Int); rw [q]))] at hi2
       refine uAq ?_;refine uAb ?_;refine uAa rfl rfl rfl (uAc rfl gU) ?_;refine uAa rfl rfl rfl (uAz rfl rfl gU gU rfl (IntWalk.i64_in _ (by omega))) ?_;refine uAa rfl rfl rfl (uAd rfl gU) ?_;refine uAf ?_;refine ⟨(j + 1,a,b),?_,?_,uAj (⟨⟨_,rfl,?_⟩,⟨⟨_,rfl,?_⟩,⟨⟨_,rfl,?_⟩,⟨sx rfl,sx rfl,trivial⟩⟩⟩⟩) trivial trivial⟩
       all_goals (first | rfl | omega | (refine ⟨?_,?_,?_,?_,?_,hi1,hi2⟩ <;> (dsimp only; omega)))
    ·try simp only [nn] at hc4
     have hj2 : j=16:=by simp at hc4; omega
     rw [List.drop_of_length_le (by omega),uFA,uLp] at hi1 hi2
     refine uAQ ?_
     repeat (first | refine uAE ?_ | refine uAD ?_ | refine uAC rfl ?_)
     refine uAe ?_;refine uAe (uAb ?_);refine uAa rfl rfl rfl (uAc rfl gU) ?_;refine uAa rfl rfl rfl (uAm rfl rfl gU gU rfl) ?_;refine uAa rfl rfl rfl (uAc rfl gU) ?_;refine uAa rfl rfl rfl (uAc rfl gU) ?_;refine uAa rfl rfl rfl (uAm rfl rfl (fun hh=>hh) gU rfl) ?_;refine uAa rfl rfl rfl (uAJ rfl rfl gU (fun _ hi=>gP rfl hi)) ?_;refine uAf ?_;refine uAk (s:=⟨[(7,_,_),(8,_,_),(62,_,_)],[],[],[]⟩) (uAj (⟨sx rfl,sx rfl,sx rfl,trivial⟩) trivial trivial) ?_;refine uAn rfl (fun hc5=>?_) (fun hc5=>?_)
     ·try simp only [nn] at hc5
      rw [if_neg (by
       rintro ⟨-, -, q1,q2⟩
       have := uD9 q1
       have := uD9 q2
       rw [if_pos q1] at hi1
       rw [if_pos q2] at hi2
       omega)] at he
      rw [he]
      refine uAe (uAb ?_);refine uAa rfl rfl rfl (uAd rfl gU) ?_;refine uAa rfl rfl rfl (uAd rfl gU) ?_;refine uAf ?_;refine uAp ?_
      repeat (first | refine tR ?_ | refine bR ?_)
      refine uAv rfl ?_ trivial
      rfl
     ·try simp only [nn] at hc5
      have x1 : hexB (s.getD 1 0)=true:=by
       by_cases q : hexB (s.getD 1 0)=true
       ·exact q
       ·rw [if_neg q] at hi1; omega
      have x2 : hexB (s.getD 2 0)=true:=by
       by_cases q : hexB (s.getD 2 0)=true
       ·exact q
       ·rw [if_neg q] at hi2; omega
      have x3:=uD9 x1
      have x4:=uD9 x2
      rw [if_pos x1] at hi1
      rw [if_pos x2] at hi2
      rw [if_pos ⟨by omega,by omega,x1,x2⟩] at he
      rw [he]
      refine uAq ?_;refine uAe (uAb ?_);refine uAa rfl rfl rfl (uAc rfl gU) ?_;refine uAa rfl rfl rfl (uAz rfl rfl gU gU rfl (IntWalk.i64_in _ (by omega))) ?_;refine uAa rfl rfl rfl (uAc rfl gU) ?_;refine uAa rfl rfl rfl (uAz rfl rfl gU gU rfl (IntWalk.i64_in _ (by omega))) ?_;refine uAa rfl rfl rfl (uDx rfl gU ⟨_,Tryz.underlying3⟩ (Tryz.underlying5) (IntWalk.u8_in _ (by omega))) ?_;refine uAa rfl rfl rfl (uAd rfl gU) ?_;refine uAa rfl rfl rfl (uAd rfl gU) ?_;refine uAf ?_;refine uAp ?_
      repeat (first | refine tR ?_ | refine bR ?_)
      refine uAv rfl ?_ trivial
      (refine uOn ?_ rfl; exact uNj (by omega) (by omega))
theorem uMe (s : List UInt8) (k : Nat) (hs : s.length≤2000000) : Ctr sys 156 [xs ((s.take s.length).drop k)] [] (.tup [.c (.i .u8 ((escE (s.drop k)).1.toNat : Int)), .c (.i .i64 ((escE (s.drop k)).2 : Int))]) none []:=by
 rw [List.take_length]
 exact uJI _ (by simp; omega)
theorem uMC (s : List UInt8) (h : 0 < s.length) (hs : s.length≤2000000) : Ctr sys 126 [xs s] [] (xsn (litE s)) none []:=by
 refine uAA Tryz.func126 rfl rfl rfl rfl rfl rfl ?_;refine uAe (uAb ?_);refine uAa rfl rfl rfl (uAd rfl gU) ?_;refine uAa rfl rfl rfl (uAd rfl gU) ?_;refine uAf ?_;refine uAe (uAb ?_);refine uAr rfl (uBy (.inr rfl) rfl rfl) ?_;refine uAf ?_;refine uAe ?_;refine uAe (uAb ?_);refine uAa rfl rfl rfl (uAd rfl gU) ?_;refine uAf ?_;refine uAx ?_;refine uA6 (ι:=Nat × List UInt8) { t:=[(0,_,_)],bx:=[],ow:=[(.t 4,_)] } (fun p=>[(5,true,xi (p.1 : Int)),(4,true,xbs p.2)]) (fun p=>[]) (fun p=>p.1≤s.length∧p.2.length≤p.1 ∧ ∃ n,s.length < n + p.1∧litA n (s.drop p.1) p.1 p.2=litE s) (fun p=>s.length - p.1) ((1,[])) (⟨by dsimp only; omega,by simp,s.length + 1,by dsimp only; omega,rfl⟩) (uAj (⟨sx rfl,sx rfl,sx rfl,trivial⟩) trivial (⟨rfl,trivial⟩)) ?_
 intro p hok
 dsimp only [List.cons_append,List.nil_append] at *
 obtain ⟨k,out⟩:=p
 dsimp only at hok ⊢
 obtain ⟨hk,ho,n,hn,hi⟩:=hok
 obtain ⟨n,rfl⟩ : ∃ m,n=m + 1:=⟨n - 1,by omega⟩
 have hu:=(s.getD k 0).toNat_lt
 refine uAe ?_;refine uAe (uAb ?_);refine uAa rfl rfl rfl (uAc rfl gU) ?_;refine uAa rfl rfl rfl (uAc rfl gU) ?_;refine uBw rfl rfl rfl rfl rfl gU (Tryz.underlying9) ?_ (fun hh=>by simp at hh); intro hlen;refine uAa rfl rfl rfl (uAm rfl rfl gU gU rfl) ?_;refine uAf ?_;refine uAn rfl (fun hc=>?_) (fun hc=>?_)
 ·try simp only [nn] at hc
  rw [uH8 (by omega)] at hi
  have hle:=uIT (s.drop (k + 1))
  rw [List.length_drop] at hle
  refine uAq ?_;refine uAe ?_;refine uAx ?_;refine uAx ?_;refine uAe (uAb ?_);refine uAa rfl rfl rfl (uAc rfl gU) ?_;refine uAa rfl rfl rfl (uAc rfl gU) ?_;refine uAa rfl rfl rfl (uAF (j:=k) rfl rfl gU gU Tryz.underlying9 (by first | omega | (simp at hh ⊢; omega)) (fun hh=>by first | omega | (simp at hh ⊢; omega))) ?_;refine uAa rfl rfl rfl (uAm rfl rfl gU gU rfl) ?_;refine uAa rfl rfl rfl (uAd rfl gU) ?_;refine uAf ?_;refine uAk (s:=⟨[(0,_,_),(4,_,_),(5,_,_),(20,_,_)],[],[(.t 4,_)],[]⟩) (uAj (⟨sx rfl,sx rfl,sx rfl,sx rfl,trivial⟩) trivial (⟨rfl,trivial⟩)) ?_;refine uAn rfl (fun hc2=>?_) (fun hc2=>?_)
  ·try simp only [nn] at hc2
   rw [if_pos (by omega)] at hi
   refine uAe (uAb ?_);refine uAa rfl rfl rfl (uAc rfl gU) ?_;refine uAa rfl rfl rfl (uHU (l:=out) rfl (by rfl) gU Tryz.underlying45 Tryz.underlying5 Tryz.underlying9) ?_;refine uAa rfl rfl rfl (uAc rfl gU) ?_;refine uAa rfl rfl rfl (uAz rfl rfl gU gU rfl (IntWalk.i64_in _ (by omega))) ?_;refine uAa rfl rfl rfl (uAd rfl gU) ?_;refine uAa rfl rfl rfl (uAd rfl gU) ?_;refine uAf ?_;refine uAp ?_
   repeat (first | refine tR ?_ | refine bR ?_)
   refine uAv rfl ?_ trivial
   (rw [← hi]; rfl)
  ·try simp only [nn] at hc2
   rw [if_neg (by omega)] at hi
   refine uAe (uAb ?_);refine uAa rfl rfl rfl (uAc rfl gU) ?_;refine uAa rfl rfl rfl (uAc rfl gU) ?_;refine uAa rfl rfl rfl (uAF (j:=k) rfl rfl gU gU Tryz.underlying9 (by first | omega | (simp at hh ⊢; omega)) (fun hh=>by first | omega | (simp at hh ⊢; omega))) ?_;refine uAa rfl rfl rfl (uAm rfl rfl gU gU rfl) ?_;refine uAa rfl rfl rfl (uAd rfl gU) ?_;refine uAf ?_;refine uAk (s:=⟨[(0,_,_),(4,_,_),(5,_,_),(29,_,_)],[],[(.t 4,_)],[]⟩) (uAj (⟨sx rfl,sx rfl,sx rfl,sx rfl,trivial⟩) trivial (⟨rfl,trivial⟩)) ?_;refine uAn rfl (fun hc3=>?_) (fun hc3=>?_)
   ·try simp only [nn] at hc3
    rw [if_pos (by omega)] at hi
    refine uAe (uAb ?_);refine uAa rfl rfl rfl (uAc rfl gU) ?_;refine uAa rfl rfl rfl (uAc rfl gU) ?_;refine uAa rfl rfl rfl (uAz rfl rfl gU gU rfl (IntWalk.i64_in _ (by omega))) ?_;refine uAa rfl rfl rfl (uBr (l:=(k + 1)) rfl gU Tryz.underlying9 (fun _=>⟨_,_,_,rfl,gU,by first | omega | (simp at hh ⊢; omega)⟩) (fun _=>rfl) (fun hh=>by first | omega | (simp at hh ⊢; omega)) (fun hh=>by first | omega | (simp at hh ⊢; omega))) ?_;refine uAw rfl rfl rfl rfl rfl rfl gU gU (uMe s (k + 1) (by omega)) rfl ?_;refine uAa rfl rfl rfl (uAc rfl gU) ?_;refine uAa rfl rfl rfl (uAu rfl gU rfl) ?_;refine uAa rfl rfl rfl (uAu rfl gU rfl) ?_;refine uAa rfl rfl rfl (uAd rfl gU) ?_;refine uAa rfl rfl rfl (uAd rfl gU) ?_;refine uAf ?_;refine uAk (s:=⟨[(0,_,_),(4,_,_),(5,_,_),(6,_,_),(7,_,_)],[],[(.t 4,_)],[]⟩) (uAj (⟨sx rfl,sx rfl,sx rfl,sx rfl,sx rfl,trivial⟩) trivial (⟨rfl,trivial⟩)) ?_;refine uAe ?_;refine uAe (uAb ?_);refine uAa rfl rfl rfl (uAc rfl gU) ?_;refine uAa rfl rfl rfl (uAm rfl rfl gU gU rfl) ?_;refine uAf ?_;refine uAn rfl (fun hc4=>?_) (fun hc4=>?_)
    ·try simp only [nn] at hc4
     rw [if_pos (by omega)] at hi
     refine uAe (uAb ?_);refine uAa rfl rfl rfl (uAd rfl gU) ?_;refine uAa rfl rfl rfl (uAd rfl gU) ?_;refine uAf ?_;refine uAp ?_
     repeat (first | refine tR ?_ | refine bR ?_)
     refine uAv rfl ?_ trivial
     (rw [← hi]; rfl)
    ·try simp only [nn] at hc4
     rw [if_neg (by omega)] at hi
     refine uAq ?_;refine uAe (uAb ?_);refine uAr rfl (uAL (.inl rfl) rfl rfl rfl) ?_;refine uAa rfl rfl rfl (uAc rfl gU) ?_;refine uAH (xs:=[_]) rfl rfl rfl rfl rfl rfl rfl rfl rfl gU rfl ?_;refine uAr rfl (uA0 rfl rfl rfl rfl rfl rfl rfl (by first | omega | (simp only [List.length_append,List.length_singleton,uBN,uAh]; omega)) (by first | omega | (simp only [List.length_append,List.length_singleton,uBN,uAh]; omega))) ?_;refine uAr rfl (uAL (.inr rfl) rfl rfl rfl) ?_;refine uAf ?_;refine uAk (s:=⟨[(0,_,_),(4,_,_),(5,_,_),(7,_,_)],[],[(.t 4,_)],[]⟩) (uAj (⟨sx rfl,sx rfl,sx rfl,sx rfl,trivial⟩) trivial (⟨rfl,trivial⟩)) ?_;refine uAb ?_;refine uAa rfl rfl rfl (uAc rfl gU) ?_;refine uAa rfl rfl rfl (uAc rfl gU) ?_;refine uAa rfl rfl rfl (uAz rfl rfl gU gU rfl (IntWalk.i64_in _ (by omega))) ?_;refine uAa rfl rfl rfl (uAd rfl gU) ?_;refine uAf ?_;refine uAb ?_;refine uAa rfl rfl rfl (uAc rfl gU) ?_;refine uAa rfl rfl rfl (uAz rfl rfl gU gU rfl (IntWalk.i64_in _ (by omega))) ?_;refine uAa rfl rfl rfl (uAd rfl gU) ?_;refine uAf ?_;refine ⟨(k + 1 + (escE (s.drop (k + 1))).2,out++[(escE (s.drop (k + 1))).1]),?_,?_,uAj (⟨⟨_,rfl,?_⟩,⟨⟨_,rfl,?_⟩,⟨sx rfl,trivial⟩⟩⟩) trivial (⟨rfl,trivial⟩)⟩
     all_goals (first | rfl | omega | exact tx (uJK out (escE (s.drop (k + 1))).1 _ rfl) | exact tx (uBj (by omega)) | (refine ⟨?_,?_,n,?_,hi⟩ <;> (simp only [List.length_append,List.length_singleton]; omega)))
   ·try simp only [nn] at hc3
    rw [if_neg (by omega)] at hi
    refine uAe (uAb ?_);refine uAa rfl rfl rfl (uAc rfl gU) ?_;refine uAa rfl rfl rfl (uAc rfl gU) ?_;refine uAa rfl rfl rfl (uAF (j:=k) rfl rfl gU gU Tryz.underlying9 (by first | omega | (simp at hh ⊢; omega)) (fun hh=>by first | omega | (simp at hh ⊢; omega))) ?_;refine uAa rfl rfl rfl (uAm rfl rfl gU gU rfl) ?_;refine uAa rfl rfl rfl (uAc rfl gU) ?_;refine uAa rfl rfl rfl (uAc rfl gU) ?_;refine uAa rfl rfl rfl (uAc rfl gU) ?_;refine uAa rfl rfl rfl (uAF (j:=k) rfl rfl (fun hh=>hh) (fun hh=>hh) Tryz.underlying9 (by first | omega | (simp at hh ⊢; omega)) (fun hh=>by first | omega | (simp at hh ⊢; omega))) ?_;refine uAa rfl rfl rfl (uAm rfl rfl (fun hh=>hh) gU rfl) ?_;refine uAa rfl rfl rfl (uAJ rfl rfl gU (fun _ hi=>gP rfl hi)) ?_;refine uAa rfl rfl rfl (uAd rfl gU) ?_;refine uAf ?_;refine uAk (s:=⟨[(0,_,_),(4,_,_),(5,_,_),(51,_,_)],[],[(.t 4,_)],[]⟩) (uAj (⟨sx rfl,sx rfl,sx rfl,sx rfl,trivial⟩) trivial (⟨rfl,trivial⟩)) ?_;refine uAn rfl (fun hc4=>?_) (fun hc4=>?_)
    ·try simp only [nn] at hc4
     rw [if_pos (by omega)] at hi
     refine uAe (uAb ?_);refine uAa rfl rfl rfl (uAd rfl gU) ?_;refine uAa rfl rfl rfl (uAd rfl gU) ?_;refine uAf ?_;refine uAp ?_
     repeat (first | refine tR ?_ | refine bR ?_)
     refine uAv rfl ?_ trivial
     (rw [← hi]; rfl)
    ·try simp only [nn] at hc4
     rw [if_neg (by omega)] at hi
     refine uAb ?_;refine uAr rfl (uAL (.inl rfl) rfl rfl rfl) ?_;refine uAa rfl rfl rfl (uAc rfl gU) ?_;refine uAa rfl rfl rfl (uAc rfl gU) ?_;refine uAa rfl rfl rfl (uAF (j:=k) rfl rfl gU gU Tryz.underlying9 (by first | omega | (simp at hh ⊢; omega)) (fun hh=>by first | omega | (simp at hh ⊢; omega))) ?_;refine uAH (xs:=[_]) rfl rfl rfl rfl rfl rfl rfl rfl rfl gU rfl ?_;refine uAr rfl (uA0 rfl rfl rfl rfl rfl rfl rfl (by first | omega | (simp only [List.length_append,List.length_singleton,uBN,uAh]; omega)) (by first | omega | (simp only [List.length_append,List.length_singleton,uBN,uAh]; omega))) ?_;refine uAr rfl (uAL (.inr rfl) rfl rfl rfl) ?_;refine uAf ?_;refine uAk (s:=⟨[(0,_,_),(4,_,_),(5,_,_)],[],[(.t 4,_)],[]⟩) (uAj (⟨sx rfl,sx rfl,sx rfl,trivial⟩) trivial (⟨rfl,trivial⟩)) ?_;refine uAb ?_;refine uAa rfl rfl rfl (uAc rfl gU) ?_;refine uAa rfl rfl rfl (uAz rfl rfl gU gU rfl (IntWalk.i64_in _ (by omega))) ?_;refine uAa rfl rfl rfl (uAd rfl gU) ?_;refine uAf ?_;refine ⟨(k + 1,out++[s.getD k 0]),?_,?_,uAj (⟨⟨_,rfl,?_⟩,⟨⟨_,rfl,?_⟩,⟨sx rfl,trivial⟩⟩⟩) trivial (⟨rfl,trivial⟩)⟩
     all_goals (first | rfl | omega | exact tx (uJK out (s.getD k 0) _ rfl) | (refine ⟨?_,?_,n,?_,hi⟩ <;> (simp only [List.length_append,List.length_singleton]; omega)))
 ·try simp only [nn] at hc
  rw [uJn (List.drop_of_length_le (by omega))] at hi
  refine uAQ ?_
  repeat (first | refine uAE ?_ | refine uAD ?_ | refine uAC rfl ?_)
  refine uAe (uAb ?_);refine uAa rfl rfl rfl (uAd rfl gU) ?_;refine uAa rfl rfl rfl (uAd rfl gU) ?_;refine uAf ?_;refine uAp ?_
  repeat (first | refine tR ?_ | refine bR ?_)
  refine uAv rfl ?_ trivial
  (rw [← hi]; rfl)
end Go.Proofs.YtnjjdbapadkomaaGreatDoor
namespace Go.Proofs.YtnjjdbapadkomaaGreatDoor
open Go Go.Abs
abbrev xnum (s : List UInt8) (r : Bool × Nat × Int) : X:=.tup [.c (.s (s.take r.2.1)), .c (.i .i64 r.2.2), .c (.b r.1)]
theorem uIG (s : List UInt8) (hs : s.length≤2000000) : Ctr sys 125 [xs s] [] (xnum s (numA s 0 0)) none []:=by
 refine uAA Tryz.func125 rfl rfl rfl rfl rfl rfl ?_;refine uAe (uAb ?_);refine uAa rfl rfl rfl (uAd rfl gU) ?_;refine uAa rfl rfl rfl (uAd rfl gU) ?_;refine uAa rfl rfl rfl (uAd rfl gU) ?_;refine uAf ?_;refine uAe (uAb ?_);refine uAa rfl rfl rfl (uAd rfl gU) ?_;refine uAa rfl rfl rfl (uAd rfl gU) ?_;refine uAf ?_;refine uAk (s:=⟨[(0,_,_),(5,_,_),(6,_,_)],[],[],[]⟩) (uAj (⟨sx rfl,sx rfl,sx rfl,trivial⟩) trivial trivial) ?_;refine uAe ?_;refine uAx ?_;refine uA6 (ι:=Nat × Int) { t:=[(0,_,_)],bx:=[],ow:=[] } (fun p=>[(5,true,xi (p.1 : Int)),(6,true,xi p.2)]) (fun p=>[]) (fun p=>p.1≤s.length∧0≤p.2∧p.2≤9223372036854775807∧numA (s.drop p.1) p.1 p.2=numA s 0 0) (fun p=>s.length - p.1) ((0,0)) (⟨by simp,by simp,by simp,rfl⟩) (uAj (⟨sx rfl,sx rfl,sx rfl,trivial⟩) trivial trivial) ?_
 intro p hok
 dsimp only [List.cons_append,List.nil_append] at *
 obtain ⟨k,v⟩:=p
 dsimp only at hok ⊢
 obtain ⟨hk,hv0,hv1,hi⟩:=hok
 refine uAe ?_;refine uAe (uAb ?_);refine uAa rfl rfl rfl (uAc rfl gU) ?_;refine uAa rfl rfl rfl (uAc rfl gU) ?_;refine uBw rfl rfl rfl rfl rfl gU (Tryz.underlying9) ?_ (fun hh=>by simp at hh); intro hlen;refine uAa rfl rfl rfl (uAm rfl rfl gU gU rfl) ?_;refine uAa rfl rfl rfl (uAc rfl gU) ?_;refine uAa rfl rfl rfl (uAc rfl gU) ?_;refine uAa rfl rfl rfl (uAc rfl gU) ?_;refine uAa rfl rfl rfl (uAF (j:=k) rfl rfl (fun hh=>hh) (fun hh=>hh) Tryz.underlying9 (by first | omega | (simp at hh ⊢; omega)) (fun hh=>by first | omega | (simp at hh ⊢; omega))) ?_;refine uAw rfl rfl rfl rfl rfl rfl gU (fun hh=>gA ((fun hh=>hh) hh) (rfl)) (uDL _ _ rfl) rfl ?_;refine uAa rfl rfl rfl (uAm rfl rfl (fun hh=>hh) gU rfl) ?_;refine uAa rfl rfl rfl (uAV rfl rfl gU (fun _ hi=>gP rfl hi)) ?_;refine uAf ?_;refine uAk (s:=⟨[(0,_,_),(5,_,_),(6,_,_),(18,_,_)],[],[],[]⟩) (uAj (⟨sx rfl,sx rfl,sx rfl,sx rfl,trivial⟩) trivial trivial) ?_;refine uAn rfl (fun hc=>?_) (fun hc=>?_)
 ·try simp only [nn,uAh,Tk.rows_len] at hc
  have hd:=(uD6 (s.getD k 0)).2.1.1 hc.2
  have hd2:=uIA hd
  rw [uBi (by omega),numA,if_pos hd] at hi
  refine uAq ?_;refine uAx ?_;refine uAe (uAb ?_);refine uAa rfl rfl rfl (uAc rfl gU) ?_;refine uAa rfl rfl rfl (uAc rfl gU) ?_;refine uAa rfl rfl rfl (uAF (j:=k) rfl rfl gU gU Tryz.underlying9 (by first | omega | (simp at hh ⊢; omega)) (fun hh=>by first | omega | (simp at hh ⊢; omega))) ?_;refine uAa rfl rfl rfl (uAz rfl rfl gU gU rfl (IntWalk.u8_in _ (by omega))) ?_;refine uAa rfl rfl rfl (uDx rfl gU ⟨_,Tryz.underlying5⟩ (Tryz.underlying2) (IntWalk.i64_in _ (by omega))) ?_;refine uAa rfl rfl rfl (uAd rfl gU) ?_;refine uAf ?_;refine uAk (s:=⟨[(0,_,_),(5,_,_),(6,_,_),(7,_,_)],[],[],[]⟩) (uAj (⟨sx rfl,sx rfl,sx rfl,sx rfl,trivial⟩) trivial trivial) ?_;refine uAe ?_;refine uAe (uAb ?_);refine uAa rfl rfl rfl (uAc rfl gU) ?_;refine uAa rfl rfl rfl (uAc rfl gU) ?_;refine uAa rfl rfl rfl (uAz rfl rfl gU gU rfl (IntWalk.i64_in _ (by omega))) ?_;refine uAa rfl rfl rfl (uH1 rfl rfl gU gU (fun hh=>by first | omega | (simp at hh ⊢; omega)) (fun hh=>(congrArg IntKind.i64.wrap (Int.tdiv_eq_ediv_of_nonneg (by first | omega | (simp at hh ⊢; omega)))).trans (IntWalk.i64_in _ (by omega)))) ?_;refine uAa rfl rfl rfl (uAm rfl rfl gU gU rfl) ?_;refine uAf ?_;refine uAk (s:=⟨[(0,_,_),(5,_,_),(6,_,_),(7,_,_),(28,_,_)],[],[],[]⟩) (uAj (⟨sx rfl,sx rfl,sx rfl,sx rfl,sx rfl,trivial⟩) trivial trivial) ?_
  refine uAn rfl (fun hc2=>?_) (fun hc2=>?_)
  ·try simp only [nn,uAh,Tk.rows_len] at hc2
   rw [if_pos (by omega)] at hi
   refine uAe (uAb ?_);refine uAa rfl rfl rfl (uAd rfl gU) ?_;refine uAa rfl rfl rfl (uAd rfl gU) ?_;refine uAa rfl rfl rfl (uAd rfl gU) ?_;refine uAf ?_;refine uAp ?_
   repeat (first | refine tR ?_ | refine bR ?_)
   refine uAv rfl ?_ trivial
   (rw [← hi]; rfl)
  ·try simp only [nn,uAh,Tk.rows_len] at hc2
   rw [if_neg (by omega)] at hi
   refine uAq ?_;refine uAe (uAb ?_);refine uAa rfl rfl rfl (uAc rfl gU) ?_;refine uAa rfl rfl rfl (uAz rfl rfl gU gU rfl (IntWalk.i64_in _ (by omega))) ?_;refine uAa rfl rfl rfl (uAc rfl gU) ?_;refine uAa rfl rfl rfl (uAz rfl rfl gU gU rfl (IntWalk.i64_in _ (by omega))) ?_;refine uAa rfl rfl rfl (uAd rfl gU) ?_;refine uAf ?_;refine uAk (s:=⟨[(0,_,_),(5,_,_),(6,_,_)],[],[],[]⟩) (uAj (⟨sx rfl,sx rfl,sx rfl,trivial⟩) trivial trivial) ?_;refine uAb ?_;refine uAa rfl rfl rfl (uAc rfl gU) ?_;refine uAa rfl rfl rfl (uAz rfl rfl gU gU rfl (IntWalk.i64_in _ (by omega))) ?_;refine uAa rfl rfl rfl (uAd rfl gU) ?_;refine uAf ?_;refine ⟨(k + 1,10 * v + (((s.getD k 0).toNat : Int) - 48)),?_,?_,uAj (⟨⟨_,rfl,?_⟩,⟨⟨_,rfl,?_⟩,⟨sx rfl,trivial⟩⟩⟩) trivial trivial⟩
   all_goals (first | rfl | omega | exact ⟨by omega,by omega,by omega,hi⟩)
 ·try simp only [nn,uAh,Tk.rows_len] at hc
  have hn : numA (s.drop k) k v=(true,k,v):=by
   by_cases hlt : k < s.length
   ·rw [uBi hlt,numA,if_neg]
    intro q
    have := (uD6 (s.getD k 0)).2.1.2 q
    omega
   ·rw [List.drop_of_length_le (by omega)]; rfl
  rw [hn] at hi
  refine uAQ ?_
  repeat (first | refine uAE ?_ | refine uAD ?_ | refine uAC rfl ?_)
  refine uAe (uAb ?_);refine uAa rfl rfl rfl (uAc rfl gU) ?_;refine uAa rfl rfl rfl (uAc rfl gU) ?_;refine uAa rfl rfl rfl (uBr (h':=k) rfl gU Tryz.underlying9 (fun _=>rfl) (fun _=>⟨_,_,_,rfl,gU,by first | omega | (simp at hh ⊢; omega)⟩) (fun hh=>by first | omega | (simp at hh ⊢; omega)) (fun hh=>by first | omega | (simp at hh ⊢; omega))) ?_;refine uAa rfl rfl rfl (uAc rfl gU) ?_;refine uAa rfl rfl rfl (uAd rfl gU) ?_;refine uAa rfl rfl rfl (uAd rfl gU) ?_;refine uAa rfl rfl rfl (uAd rfl gU) ?_;refine uAf ?_;refine uAp ?_
  repeat (first | refine tR ?_ | refine bR ?_)
  refine uAv rfl ?_ trivial
  (rw [← hi]; rfl)
theorem uN9 (c : UInt8) : (uBo (c.toNat : Int)=true→clsE c=2)∧(uBK (c.toNat : Int)=true→clsE c=3)∧(c.toNat=34→clsE c=5)∧(uBo (c.toNat : Int)≠true→uBK (c.toNat : Int)≠true→c.toNat≠34→(symB c=true→clsE c=4∨clsE c=1)∧(symB c≠true→clsE c=0∨clsE c=1)):=by
 refine ⟨(uD6 c).1.2,(uD6 c).2.1.2,fun h=>?_,fun h1 h2 h3=>⟨fun h4=>?_,fun h4=>?_⟩⟩
 ·unfold clsE
  rw [if_neg (by simp [uCB]; omega),if_neg (by simp [uBo]; omega),if_neg (by simp [uBK]; omega),if_pos h]
 ·unfold clsE
  rw [if_neg h1,if_neg h2,if_neg h3,if_pos h4]
  split <;> simp
 ·unfold clsE
  rw [if_neg h1,if_neg h2,if_neg h3,if_neg h4]
  split <;> simp
theorem uOv {t u : Tk} {a b e : Int} (h : t=u) (h2 : a=b) : X.tup [.agg t.cells, .c (.i .i64 a), .c (.i .i64 e)]=X.tup [.agg u.cells, .c (.i .i64 b), .c (.i .i64 e)]:=by rw [h,h2]
theorem uK2 (s : List UInt8) (k ki : Int) (h : 0 < s.length) (hs : s.length≤2000000) (hk : ki=k) (hw : clsE (s.getD 0 0)≠1) : Ctr sys 74 [xs s,xi ki] [] (xnx (uBM s k)) none []:=by
 subst hk
 have h1:=uLd s
 have h2 : (s.take (wdN s)).length=wdN s:=by rw [List.length_take]; omega
 have h3:=uJf s h
 have h4:=uGH s 0 0 (by omega)
 have h5 : (s.take (numA s 0 0).2.1).length=(numA s 0 0).2.1:=by rw [List.length_take]; omega
 obtain ⟨c1,c2,c3,c4⟩:=uN9 (s.getD 0 0)
 obtain ⟨d1,d2,-⟩:=uD6 (s.getD 0 0)
 refine uAA Tryz.func74 rfl rfl rfl rfl rfl rfl ?_;refine uAe (uAb ?_);refine uAr rfl (uAG rfl rfl rfl) ?_;refine uAa rfl rfl rfl (uAd rfl gU) ?_;refine uAa rfl rfl rfl (uAd rfl gU) ?_;refine uAf ?_;refine uAe ?_;refine uAe (uAb ?_);refine uAa rfl rfl rfl (uAc rfl gU) ?_;refine uAa rfl rfl rfl (uAF (j:=0) rfl rfl gU gU Tryz.underlying9 (by first | omega | (simp at hh ⊢; omega)) (fun hh=>by first | omega | (simp at hh ⊢; omega))) ?_;refine uAw rfl rfl rfl rfl rfl rfl gU gU (uDL _ _ rfl) rfl ?_;refine uAf ?_;refine uAk (s:=⟨[(0,_,_),(1,_,_),(4,_,_),(15,_,_)],[(.l 4,_)],[],[]⟩) (uAj (⟨sx rfl,sx rfl,sx rfl,sx rfl,trivial⟩) (⟨sx rfl,trivial⟩) trivial) ?_;refine uAx ?_;refine uAe (uAb ?_);refine uAa rfl rfl rfl (uAm rfl rfl gU gU rfl) ?_;refine uAa rfl rfl rfl (uAd rfl gU) ?_;refine uAf ?_;refine uAn rfl (fun hc=>?_) (fun hc=>?_)
 ·try simp only [nn,uAh,Tk.rows_len] at hc
  rw [uBM,if_pos (d1.1 hc)]
  refine uAe (uAb ?_);refine uAa rfl rfl rfl (uAc rfl gU) ?_;refine uAw rfl rfl rfl rfl rfl rfl gU gU (uMN _ (by omega)) rfl ?_;refine uAa rfl rfl rfl (uAd rfl gU) ?_;refine uAf ?_;refine uAk (s:=⟨[(1,_,_),(4,_,_),(7,_,_)],[(.l 4,_)],[],[]⟩) (uAj (⟨sx rfl,sx rfl,sx rfl,trivial⟩) (⟨sx rfl,trivial⟩) trivial) ?_;refine uAe ?_;refine uAe (uAb ?_);refine uAa rfl rfl rfl (uAc rfl gU) ?_;refine uBw rfl rfl rfl rfl rfl gU (Tryz.underlying9) ?_ (fun hh=>by simp at hh); intro hlen;refine uAa rfl rfl rfl (uAm rfl rfl gU gU rfl) ?_;refine uAf ?_;refine uAn rfl (fun hc2=>?_) (fun hc2=>?_)
  ·try simp only [nn,uAh,Tk.rows_len] at hc2
   refine uAe (uAb ?_);refine uAa rfl rfl rfl (uAY rfl Tryz.underlying50 rfl gU) ?_;refine uAr rfl (uAt rfl rfl rfl rfl rfl rfl rfl) ?_;refine uAa rfl rfl rfl (uAd rfl gU) ?_;refine uAa rfl rfl rfl (uAd rfl gU) ?_;refine uAf ?_;refine uAp ?_
   repeat (first | refine tR ?_ | refine bR ?_)
   refine uAv rfl ?_ trivial
   (rw [if_pos (by omega)]; rfl)
  ·try simp only [nn,uAh,Tk.rows_len] at hc2
   refine uAq ?_;refine uAe (uAb ?_);refine uAa rfl rfl rfl (uAc rfl gU) ?_;refine uAa rfl rfl rfl (uAc rfl gU) ?_;refine uAa rfl rfl rfl (uAY rfl Tryz.underlying50 rfl gU) ?_;refine uAa rfl rfl rfl (uAc rfl gU) ?_;refine uBw rfl rfl rfl rfl rfl gU (Tryz.underlying9) ?_ (fun hh=>by simp at hh); intro hlen;refine uAr rfl (uAt rfl rfl rfl rfl rfl rfl rfl) ?_;refine uAa rfl rfl rfl (uAd rfl gU) ?_;refine uAa rfl rfl rfl (uAd rfl gU) ?_;refine uAf ?_;refine uAp ?_
   repeat (first | refine tR ?_ | refine bR ?_)
   refine uAv rfl ?_ trivial
   (rw [if_neg (by omega)]; exact uOv (t:=⟨1,s.take (wdN s),0,[],ki⟩) (u:=⟨1,s.take (wdN s),0,[],ki⟩) rfl (by dsimp only; omega))
 ·try simp only [nn,uAh,Tk.rows_len] at hc
  have e1 : ¬uBo ((s.getD 0 0).toNat : Int)=true:=fun q=>hc (c1 q)
  rw [uBM,if_neg e1]
  refine uAe (uAb ?_);refine uAa rfl rfl rfl (uAm rfl rfl gU gU rfl) ?_;refine uAa rfl rfl rfl (uAd rfl gU) ?_;refine uAf ?_;refine uAn rfl (fun hc2=>?_) (fun hc2=>?_)
  ·try simp only [nn,uAh,Tk.rows_len] at hc2
   rw [if_pos (d2.1 hc2)]
   refine uAe (uAb ?_);refine uAa rfl rfl rfl (uAc rfl gU) ?_;refine uAw rfl rfl rfl rfl rfl rfl gU gU (uIG _ (by omega)) rfl ?_;refine uAa rfl rfl rfl (uAc rfl gU) ?_;refine uAa rfl rfl rfl (uAu rfl gU rfl) ?_;refine uAa rfl rfl rfl (uAu rfl gU rfl) ?_;refine uAa rfl rfl rfl (uAu rfl gU rfl) ?_;refine uAa rfl rfl rfl (uAd rfl gU) ?_;refine uAa rfl rfl rfl (uAd rfl gU) ?_;refine uBq (s:=⟨[(1,_,_),(4,_,_),(8,_,_),(9,_,_),(36,_,_)],[(.l 4,_)],[],[]⟩) (uAj (⟨sx rfl,sx rfl,sx rfl,sx rfl,sx rfl,trivial⟩) (⟨sx rfl,trivial⟩) trivial) ?_;refine uAa rfl rfl rfl (uAd rfl gU) ?_;refine uAf ?_;refine uAe ?_;refine uAe (uAb ?_);refine uAa rfl rfl rfl (uAc rfl gU) ?_;refine uAa rfl rfl rfl (uAZ rfl gU) ?_;refine uAf ?_;refine uAn rfl (fun hc3=>?_) (fun hc3=>?_)
   ·try simp only [nn,uAh,Tk.rows_len] at hc3
    refine uAe (uAb ?_);refine uAa rfl rfl rfl (uAY rfl Tryz.underlying50 rfl gU) ?_;refine uAr rfl (uAt rfl rfl rfl rfl rfl rfl rfl) ?_;refine uAa rfl rfl rfl (uAd rfl gU) ?_;refine uAa rfl rfl rfl (uAd rfl gU) ?_;refine uAf ?_;refine uAp ?_
    repeat (first | refine tR ?_ | refine bR ?_)
    refine uAv rfl ?_ trivial
    (rw [if_neg (by rw [hc3]; exact Bool.false_ne_true)]; rfl)
   ·try simp only [nn,uAh,Tk.rows_len] at hc3
    refine uAq ?_;refine uAe (uAb ?_);refine uAa rfl rfl rfl (uAc rfl gU) ?_;refine uAa rfl rfl rfl (uAc rfl gU) ?_;refine uAa rfl rfl rfl (uAY rfl Tryz.underlying50 rfl gU) ?_;refine uAa rfl rfl rfl (uAc rfl gU) ?_;refine uBw rfl rfl rfl rfl rfl gU (Tryz.underlying9) ?_ (fun hh=>by simp at hh); intro hlen;refine uAr rfl (uAt rfl rfl rfl rfl rfl rfl rfl) ?_;refine uAa rfl rfl rfl (uAd rfl gU) ?_;refine uAa rfl rfl rfl (uAd rfl gU) ?_;refine uAf ?_;refine uAp ?_
    repeat (first | refine tR ?_ | refine bR ?_)
    refine uAv rfl ?_ trivial
    (rw [if_pos hc3]; exact uOv (t:=⟨2,[],(numA s 0 0).2.2,[],ki⟩) (u:=⟨2,[],(numA s 0 0).2.2,[],ki⟩) rfl (by dsimp only; omega))
  ·try simp only [nn,uAh,Tk.rows_len] at hc2
   have e2 : ¬uBK ((s.getD 0 0).toNat : Int)=true:=fun q=>hc2 (c2 q)
   rw [if_neg e2]
   refine uAe (uAb ?_);refine uAa rfl rfl rfl (uAm rfl rfl gU gU rfl) ?_;refine uAa rfl rfl rfl (uAd rfl gU) ?_;refine uAf ?_;refine uAk (s:=⟨[(0,_,_),(1,_,_),(4,_,_),(15,_,_),(45,_,_)],[(.l 4,_)],[],[]⟩) (uAj (⟨sx rfl,sx rfl,sx rfl,sx rfl,sx rfl,trivial⟩) (⟨sx rfl,trivial⟩) trivial) ?_;refine uAn rfl (fun hc3=>?_) (fun hc3=>?_)
   ·try simp only [nn,uAh,Tk.rows_len] at hc3
    have e3 : (s.getD 0 0).toNat=34:=by
     by_cases q : (s.getD 0 0).toNat=34
     ·exact q
     ·have := c4 e1 e2 q
      by_cases q2 : symB (s.getD 0 0)=true
      ·have := this.1 q2; omega
      ·have := this.2 q2; omega
    rw [if_pos e3]
    refine uAe (uAb ?_);refine uAa rfl rfl rfl (uAc rfl gU) ?_;refine uAw rfl rfl rfl rfl rfl rfl gU gU (uMC _ (by omega) (by omega)) rfl ?_;refine uAa rfl rfl rfl (uAc rfl gU) ?_;refine uAa rfl rfl rfl (uAu rfl gU rfl) ?_;refine uAa rfl rfl rfl (uAu rfl gU rfl) ?_;refine uAa rfl rfl rfl (uAd rfl gU) ?_;refine uAa rfl rfl rfl (uAd rfl gU) ?_;refine uAf ?_;refine uAk (s:=⟨[(1,_,_),(4,_,_),(11,_,_),(12,_,_)],[(.l 4,_)],[],[]⟩) (uAj (⟨sx rfl,sx rfl,sx rfl,sx rfl,trivial⟩) (⟨sx rfl,trivial⟩) trivial) ?_;refine uAe (uAb ?_);refine uAa rfl rfl rfl (uAc rfl gU) ?_;refine uAa rfl rfl rfl (uAm rfl rfl gU gU rfl) ?_;refine uAf ?_;refine uAn rfl (fun hc4=>?_) (fun hc4=>?_)
    ·try simp only [nn,uAh,Tk.rows_len] at hc4
     refine uAe (uAb ?_);refine uAa rfl rfl rfl (uAc rfl gU) ?_;refine uAa rfl rfl rfl (uAc rfl gU) ?_;refine uAa rfl rfl rfl (uAY rfl Tryz.underlying50 rfl gU) ?_;refine uAa rfl rfl rfl (uAc rfl gU) ?_;refine uAr rfl (uAt rfl rfl rfl rfl rfl rfl rfl) ?_;refine uAa rfl rfl rfl (uAd rfl gU) ?_;refine uAa rfl rfl rfl (uAd rfl gU) ?_;refine uAf ?_;refine uAp ?_
     repeat (first | refine tR ?_ | refine bR ?_)
     refine uAv rfl ?_ trivial
     (rw [if_neg (by omega)]; rfl)
    ·try simp only [nn,uAh,Tk.rows_len] at hc4
     refine uAq ?_;refine uAe (uAb ?_);refine uAa rfl rfl rfl (uAY rfl Tryz.underlying50 rfl gU) ?_;refine uAr rfl (uAt rfl rfl rfl rfl rfl rfl rfl) ?_;refine uAa rfl rfl rfl (uAd rfl gU) ?_;refine uAa rfl rfl rfl (uAd rfl gU) ?_;refine uAf ?_;refine uAp ?_
     repeat (first | refine tR ?_ | refine bR ?_)
     refine uAv rfl ?_ trivial
     (rw [if_pos (by omega)]; rfl)
   ·try simp only [nn,uAh,Tk.rows_len] at hc3
    have e3 : ¬(s.getD 0 0).toNat=34:=fun q=>hc3 (c3 q)
    rw [if_neg e3]
    refine uAe (uAb ?_);refine uAa rfl rfl rfl (uAm rfl rfl gU gU rfl) ?_;refine uAa rfl rfl rfl (uAd rfl gU) ?_;refine uAf ?_;refine uAn rfl (fun hc4=>?_) (fun hc4=>?_)
    ·try simp only [nn,uAh,Tk.rows_len] at hc4
     have e4 : symB (s.getD 0 0)=true:=by
      by_cases q2 : symB (s.getD 0 0)=true
      ·exact q2
      ·have := (c4 e1 e2 e3).2 q2; omega
     refine uAe (uAb ?_);refine uAa rfl rfl rfl (uAc rfl gU) ?_;refine uAa rfl rfl rfl (uBr (h':=1) rfl gU Tryz.underlying9 (fun _=>rfl) (fun _=>⟨_,_,_,rfl,gU,by first | omega | (simp at hh ⊢; omega)⟩) (fun hh=>by first | omega | (simp at hh ⊢; omega)) (fun hh=>by first | omega | (simp at hh ⊢; omega))) ?_;refine uAa rfl rfl rfl (uAc rfl gU) ?_;refine uAa rfl rfl rfl (uAY rfl Tryz.underlying50 rfl gU) ?_;refine uAr rfl (uAt rfl rfl rfl rfl rfl rfl rfl) ?_;refine uAa rfl rfl rfl (uAd rfl gU) ?_;refine uAa rfl rfl rfl (uAd rfl gU) ?_;refine uAf ?_;refine uAp ?_
     repeat (first | refine tR ?_ | refine bR ?_)
     refine uAv rfl ?_ trivial
     (rw [if_pos e4]; rfl)
    ·try simp only [nn,uAh,Tk.rows_len] at hc4
     have e4 : ¬symB (s.getD 0 0)=true:=by
      intro q2
      have := (c4 e1 e2 e3).1 q2
      omega
     refine uAq ?_;refine uAe (uAb ?_);refine uAa rfl rfl rfl (uAY rfl Tryz.underlying50 rfl gU) ?_;refine uAr rfl (uAt rfl rfl rfl rfl rfl rfl rfl) ?_;refine uAa rfl rfl rfl (uAd rfl gU) ?_;refine uAa rfl rfl rfl (uAd rfl gU) ?_;refine uAf ?_;refine uAp ?_
     repeat (first | refine tR ?_ | refine bR ?_)
     refine uAv rfl ?_ trivial
     (rw [if_neg e4]; rfl)
theorem uKo (s : List UInt8) (hs : s.length≤2000000) : Ctr sys 24 [xs s] [] (xss (lnsR s)) none []:=by
 refine uAA Tryz.func24 rfl rfl rfl rfl rfl rfl ?_;refine uAe (uAb ?_);refine uAr rfl (uBy (.inr rfl) rfl rfl) ?_;refine uAf ?_;refine uAe (uAb ?_);refine uAr rfl (uBy (.inr rfl) rfl rfl) ?_;refine uAf ?_;refine uAe (uAb ?_);refine uAa rfl rfl rfl (uAd rfl gU) ?_;refine uAf ?_;refine uAe ?_;refine uAe (uAb ?_);refine uAa rfl rfl rfl (uAd rfl gU) ?_;refine uAf ?_;refine uAx ?_;refine uA6 (ι:=Nat × List UInt8 × List (List UInt8)) { t:=[(0,_,_)],bx:=[],ow:=[(.t 3,_)] } (fun p=>[(5,true,xi (p.1 : Int)),(4,true,xs p.2.1),(3,true,xss p.2.2)]) (fun p=>[]) (fun p=>p.1≤s.length∧p.2.1.length≤p.1∧p.2.2.length≤p.1∧lnsA (s.drop p.1) p.2.1 p.2.2=lnsR s) (fun p=>s.length - p.1) ((0,[],[])) (⟨by simp,by simp,by simp,rfl⟩) (uAj (⟨sx rfl,sx rfl,sx rfl,sx rfl,trivial⟩) trivial (⟨rfl,trivial⟩)) ?_
 intro p hok
 dsimp only [List.cons_append,List.nil_append] at *
 obtain ⟨k,line,out⟩:=p
 dsimp only at hok ⊢
 obtain ⟨hk,hl,ho,hi⟩:=hok
 refine uAe ?_;refine uAe (uAb ?_);refine uAa rfl rfl rfl (uAc rfl gU) ?_;refine uAa rfl rfl rfl (uAc rfl gU) ?_;refine uBw rfl rfl rfl rfl rfl gU (Tryz.underlying9) ?_ (fun hh=>by simp at hh); intro hlen;refine uAa rfl rfl rfl (uAm rfl rfl gU gU rfl) ?_;refine uAf ?_;refine uAn rfl (fun hc=>?_) (fun hc=>?_)
 ·try simp only [nn,uAh,Tk.rows_len] at hc
  rw [uBi (by omega),lnsA] at hi
  refine uAq ?_;refine uAe ?_;refine uAx ?_;refine uAe ?_;refine uAe (uAb ?_);refine uAa rfl rfl rfl (uAc rfl gU) ?_;refine uAa rfl rfl rfl (uAc rfl gU) ?_;refine uAa rfl rfl rfl (uAF (j:=k) rfl rfl gU gU Tryz.underlying9 (by first | omega | (simp at hh ⊢; omega)) (fun hh=>by first | omega | (simp at hh ⊢; omega))) ?_;refine uAa rfl rfl rfl (uAm rfl rfl gU gU rfl) ?_;refine uAf ?_;refine uAk (s:=⟨[(0,_,_),(3,_,_),(4,_,_),(5,_,_),(15,_,_)],[],[(.t 3,_)],[]⟩) (uAj (⟨sx rfl,sx rfl,sx rfl,sx rfl,sx rfl,trivial⟩) trivial (⟨rfl,trivial⟩)) ?_;refine uAn rfl (fun hc2=>?_) (fun hc2=>?_)
  ·try simp only [nn,uAh,Tk.rows_len] at hc2
   rw [if_pos (by omega)] at hi
   refine uAe (uAb ?_);refine uAr rfl (uAL (.inl rfl) rfl rfl rfl) ?_;refine uAa rfl rfl rfl (uAc rfl gU) ?_;refine uAH (xs:=[_]) rfl rfl rfl rfl rfl rfl rfl rfl rfl gU rfl ?_;refine uAr rfl (uA0 rfl rfl rfl rfl rfl rfl rfl (by first | omega | (simp only [List.length_append,List.length_singleton,Tk.rows_len,uAh]; omega)) (by first | omega | (simp only [List.length_append,List.length_singleton,Tk.rows_len,uAh]; omega))) ?_;refine uAr rfl (uAL (.inr rfl) rfl rfl rfl) ?_;refine uAf ?_;refine uAk (s:=⟨[(0,_,_),(3,_,_),(5,_,_)],[],[(.t 3,_)],[]⟩) (uAj (⟨sx rfl,sx rfl,sx rfl,trivial⟩) trivial (⟨rfl,trivial⟩)) ?_;refine uAe (uAb ?_);refine uAa rfl rfl rfl (uAd rfl gU) ?_;refine uAf ?_;refine uAQ ?_
   repeat (first | refine uAE ?_ | refine uAD ?_ | refine uAC rfl ?_)
   refine uAb ?_;refine uAa rfl rfl rfl (uAc rfl gU) ?_;refine uAa rfl rfl rfl (uAz rfl rfl gU gU rfl (IntWalk.i64_in _ (by omega))) ?_;refine uAa rfl rfl rfl (uAd rfl gU) ?_;refine uAf ?_;refine ⟨(k + 1,[],out++[line]),?_,?_,uAj (⟨⟨_,rfl,?_⟩,⟨⟨_,rfl,?_⟩,⟨⟨_,rfl,?_⟩,⟨sx rfl,trivial⟩⟩⟩⟩) trivial (⟨rfl,trivial⟩)⟩
   all_goals (first | rfl | omega | exact tx (uCn out line) | (refine ⟨?_,?_,?_,hi⟩ <;> (simp <;> omega)))
  ·try simp only [nn,uAh,Tk.rows_len] at hc2
   rw [if_neg (by omega)] at hi
   have e1 : (s.take (k + 1)).drop k=[s.getD k 0]:=by
    rw [uBi (by simp; omega),List.drop_of_length_le (by simp; omega),uF4 _ _ (by omega)]
   refine uAq ?_;refine uAb ?_;refine uAa rfl rfl rfl (uAc rfl gU) ?_;refine uAa rfl rfl rfl (uAc rfl gU) ?_;refine uAa rfl rfl rfl (uAc rfl gU) ?_;refine uAa rfl rfl rfl (uAc rfl gU) ?_;refine uAa rfl rfl rfl (uAz rfl rfl gU gU rfl (IntWalk.i64_in _ (by omega))) ?_;refine uAa rfl rfl rfl (uBr (l:=k) (h':=(k + 1)) rfl gU Tryz.underlying9 (fun _=>⟨_,_,_,rfl,gU,by first | omega | (simp at hh ⊢; omega)⟩) (fun _=>⟨_,_,_,rfl,gU,by first | omega | (simp at hh ⊢; omega)⟩) (fun hh=>by first | omega | (simp at hh ⊢; omega)) (fun hh=>by first | omega | (simp at hh ⊢; omega))) ?_;refine uAa rfl rfl rfl (uAO rfl rfl gU gU (by first | omega | (simp only [List.length_append,List.length_drop,List.length_take]; omega))) ?_;refine uAa rfl rfl rfl (uAd rfl gU) ?_;refine uAf ?_;refine uAk (s:=⟨[(0,_,_),(3,_,_),(4,_,_),(5,_,_)],[],[(.t 3,_)],[]⟩) (uAj (⟨sx rfl,sx rfl,sx rfl,sx rfl,trivial⟩) trivial (⟨rfl,trivial⟩)) ?_;refine uAb ?_;refine uAa rfl rfl rfl (uAc rfl gU) ?_;refine uAa rfl rfl rfl (uAz rfl rfl gU gU rfl (IntWalk.i64_in _ (by omega))) ?_;refine uAa rfl rfl rfl (uAd rfl gU) ?_;refine uAf ?_;refine ⟨(k + 1,line++[s.getD k 0],out),?_,?_,uAj (⟨⟨_,rfl,?_⟩,⟨⟨_,rfl,?_⟩,⟨⟨_,rfl,?_⟩,⟨sx rfl,trivial⟩⟩⟩⟩) trivial (⟨rfl,trivial⟩)⟩
   all_goals (first | rfl | omega | exact tx (congrArg xs (by rw [e1])) | (refine ⟨?_,?_,?_,hi⟩ <;> (simp <;> omega)))
 ·try simp only [nn,uAh,Tk.rows_len] at hc
  rw [List.drop_of_length_le (by omega),lnsA] at hi
  refine uAQ ?_
  repeat (first | refine uAE ?_ | refine uAD ?_ | refine uAC rfl ?_)
  refine uAe ?_;refine uAe (uAb ?_);refine uAa rfl rfl rfl (uAc rfl gU) ?_;refine uAa rfl rfl rfl (uA9 rfl rfl gU gU rfl) ?_;refine uAf ?_;refine uAk (s:=⟨[(3,_,_),(4,_,_),(28,_,_)],[],[(.t 3,_)],[]⟩) (uAj (⟨sx rfl,sx rfl,sx rfl,trivial⟩) trivial (⟨rfl,trivial⟩)) ?_;refine uAn rfl (fun hc2=>?_) (fun hc2=>?_)
  ·try simp only [nn,uAh,Tk.rows_len] at hc2
   rw [if_neg hc2] at hi
   refine uAb ?_;refine uAr rfl (uAL (.inl rfl) rfl rfl rfl) ?_;refine uAa rfl rfl rfl (uAc rfl gU) ?_;refine uAH (xs:=[_]) rfl rfl rfl rfl rfl rfl rfl rfl rfl gU rfl ?_;refine uAr rfl (uA0 rfl rfl rfl rfl rfl rfl rfl (by first | omega | (simp only [List.length_append,List.length_singleton,Tk.rows_len,uAh]; omega)) (by first | omega | (simp only [List.length_append,List.length_singleton,Tk.rows_len,uAh]; omega))) ?_;refine uAr rfl (uAL (.inr rfl) rfl rfl rfl) ?_;refine uAf ?_;refine uAk (s:=⟨[(3,_,_)],[],[(.t 3,_)],[]⟩) (uAj (⟨sx rfl,trivial⟩) trivial (⟨rfl,trivial⟩)) ?_;refine uAe (uAb ?_);refine uAr rfl (uAL (.inl rfl) rfl rfl rfl) ?_;refine uAr rfl (uAL (.inr rfl) rfl rfl rfl) ?_;refine uAf ?_;refine uAp ?_
   repeat (first | refine tR ?_ | refine bR ?_)
   refine uAv rfl ?_ trivial
   (rw [← hi]; exact uCn out line)
  ·try simp only [nn,uAh,Tk.rows_len] at hc2
   rw [if_pos hc2] at hi
   refine uAq ?_;refine uAe (uAb ?_);refine uAr rfl (uAL (.inl rfl) rfl rfl rfl) ?_;refine uAr rfl (uAL (.inr rfl) rfl rfl rfl) ?_;refine uAf ?_;refine uAp ?_
   repeat (first | refine tR ?_ | refine bR ?_)
   refine uAv rfl ?_ trivial
   (rw [← hi]; rfl)
theorem uMx (s : List UInt8) : (uBh s).length≤s.length:=by unfold uBh; rw [List.length_take]; omega
theorem uFN (s : List UInt8) (hs : s.length≤9223372036854775807) : Ctr sys 22 [xs s] [] (uNx (tokR s)) none []:=by
 have hsl:=uNt s
 refine uAA Tryz.func22 rfl rfl rfl rfl rfl rfl ?_;refine uAe (uAb ?_);refine uAr rfl (uBy (.inr rfl) rfl rfl) ?_;refine uAa rfl rfl rfl (uAd rfl gU) ?_;refine uAa rfl rfl rfl (uAd rfl gU) ?_;refine uAf ?_;refine uAe ?_;refine uAe (uAb ?_);refine uAa rfl rfl rfl (uAc rfl gU) ?_;refine uBw rfl rfl rfl rfl rfl gU (Tryz.underlying9) ?_ (fun hh=>by simp at hh); intro hlen;refine uAa rfl rfl rfl (uAm rfl rfl gU gU rfl) ?_;refine uAf ?_;refine uAk (s:=⟨[(0,_,_),(14,_,_)],[],[],[]⟩) (uAj (⟨sx rfl,sx rfl,trivial⟩) trivial trivial) ?_;refine uAn rfl (fun hc=>?_) (fun hc=>?_)
 ·try simp only [nn,uAh,Tk.rows_len] at hc
  refine uAe (uAb ?_);refine uAr rfl (uBy (.inr rfl) rfl rfl) ?_;refine uAa rfl rfl rfl (uAd rfl gU) ?_;refine uAa rfl rfl rfl (uAd rfl gU) ?_;refine uAf ?_;refine uAp ?_
  repeat (first | refine tR ?_ | refine bR ?_)
  refine uAv rfl ?_ trivial
  (rw [tokR,if_pos (by omega)]; rfl)
 ·try simp only [nn,uAh,Tk.rows_len] at hc
  rw [tokR,if_neg (by omega)]
  refine uAq ?_;refine uAe (uAb ?_);refine uAr rfl (uBy (.inr rfl) rfl rfl) ?_;refine uAf ?_;refine uAe (uAb ?_);refine uAa rfl rfl rfl (uAc rfl gU) ?_;refine uAw rfl rfl rfl rfl rfl rfl gU gU (uKo _ (by omega)) rfl ?_;refine uAa rfl rfl rfl (uAd rfl gU) ?_;refine uAf ?_;refine uAe ?_;refine uAe (uAb ?_);refine uAa rfl rfl rfl (uAd rfl gU) ?_;refine uAf ?_;refine uAk (s:=⟨[(5,_,_),(6,_,_),(7,_,_)],[],[(.t 5,_)],[]⟩) (uAj (⟨sx rfl,sx rfl,sx rfl,trivial⟩) trivial (⟨rfl,trivial⟩)) ?_;refine uAx ?_;refine uA6 (ι:=Nat × List Tk) { t:=[(6,_,_)],bx:=[],ow:=[(.t 5,_)] } (fun p=>[(7,true,xi (p.1 : Int)),(5,true,xts p.2)]) (fun p=>[]) (fun p=>p.1≤(lnsR s).length∧p.2.length≤70000 * p.1∧uFP ((lnsR s).drop p.1) (p.1 + 1) p.2=uFP (lnsR s) 1 []) (fun p=>(lnsR s).length - p.1) ((0,[])) (⟨by simp,by simp,rfl⟩) (uAj (⟨sx rfl,sx rfl,sx rfl,trivial⟩) trivial (⟨rfl,trivial⟩)) ?_
  intro p hok
  dsimp only [List.cons_append,List.nil_append] at *
  obtain ⟨k,out⟩:=p
  dsimp only at hok ⊢
  obtain ⟨hk,ho,hi⟩:=hok
  have hL:=uNl s k
  have hB:=uMx ((lnsR s).getD k [])
  refine uAe ?_;refine uAe (uAb ?_);refine uAa rfl rfl rfl (uAc rfl gU) ?_;refine uAa rfl rfl rfl (uAc rfl gU) ?_;refine uAS rfl rfl rfl rfl rfl gU rfl rfl ?_ (fun hh=>by simp at hh); intro hlen;refine uAa rfl rfl rfl (uAm rfl rfl gU gU rfl) ?_;refine uAf ?_;refine uAn rfl (fun hc2=>?_) (fun hc2=>?_)
  ·try simp only [nn,uAh,Tk.rows_len] at hc2
   rw [uG0 (d:=[]) (by omega),uFP] at hi
   refine uAq ?_;refine uAe ?_;refine uAx ?_;refine uAe (uAb ?_);refine uAa rfl rfl rfl (uAc rfl gU) ?_;refine uAa rfl rfl rfl (uAc rfl gU) ?_;refine uAa rfl rfl rfl (uAy rfl rfl gU gU rfl rfl rfl (fun hh=>uC3 (by first | omega | (simp at hh ⊢; omega)))) ?_;refine uAa rfl rfl rfl (uAR rfl gU rfl rfl rfl) ?_;refine uAw rfl rfl rfl rfl rfl rfl gU gU (uMz _ (by omega)) rfl ?_;refine uAa rfl rfl rfl (uAd rfl gU) ?_;refine uAf ?_;refine uAk (s:=⟨[(5,_,_),(6,_,_),(7,_,_),(8,_,_)],[],[(.t 5,_)],[]⟩) (uAj (⟨sx rfl,sx rfl,sx rfl,sx rfl,trivial⟩) trivial (⟨rfl,trivial⟩)) ?_;refine uAx ?_;refine uA6 (ι:=List UInt8 × List Tk) { t:=[(6,_,_),(7,_,_)],bx:=[],ow:=[(.t 5,_)] } (fun q=>[(8,true,xs q.1),(5,true,xts q.2)]) (fun q=>[]) (fun q=>q.1.length≤(uBh ((lnsR s).getD k [])).length∧q.2.length + q.1.length≤out.length + (uBh ((lnsR s).getD k [])).length ∧ ∃ n,q.1.length < n∧uC0 n q.1 ((k + 1 : Nat) : Int) q.2=uC0 ((uBh ((lnsR s).getD k [])).length + 1) (uBh ((lnsR s).getD k [])) ((k + 1 : Nat) : Int) out) (fun q=>q.1.length) ((uBh ((lnsR s).getD k []),out)) (⟨by simp,by simp,_,by dsimp only; omega,rfl⟩) (uAj (⟨sx rfl,sx rfl,sx rfl,sx rfl,trivial⟩) trivial (⟨rfl,trivial⟩)) ?_
   intro q hokq
   dsimp only [List.cons_append,List.nil_append] at *
   obtain ⟨l,o2⟩:=q
   dsimp only at hokq ⊢
   obtain ⟨hl,ho2,n,hn,hi2⟩:=hokq
   obtain ⟨n,rfl⟩ : ∃ m,n=m + 1:=⟨n - 1,by omega⟩
   refine uAe ?_;refine uAe (uAb ?_);refine uAa rfl rfl rfl (uAc rfl gU) ?_;refine uBw rfl rfl rfl rfl rfl gU (Tryz.underlying9) ?_ (fun hh=>by simp at hh); intro hlen;refine uAa rfl rfl rfl (uAm rfl rfl gU gU rfl) ?_;refine uAf ?_;refine uAn rfl (fun hc3=>?_) (fun hc3=>?_)
   ·try simp only [nn,uAh,Tk.rows_len] at hc3
    have hne : 0 < l.length:=by omega
    have hcons : l=l.getD 0 0 :: l.drop 1 := by have := uBi hne; rwa [List.drop_zero] at this
    have hx : uC0 (n + 1) l ((k + 1 : Nat) : Int) o2=if uCB (l.getD 0 0)=true then uC0 n (l.drop 1) ((k + 1 : Nat) : Int) o2 else if (uBM l ((k + 1 : Nat) : Int)).2.2≠0 then ([],(uBM l ((k + 1 : Nat) : Int)).2.2)
      else uC0 n (l.drop (uBM l ((k + 1 : Nat) : Int)).2.1) ((k + 1 : Nat) : Int) (o2++[(uBM l ((k + 1 : Nat) : Int)).1]):=by
     generalize hg : l.getD 0 0=c at hcons ⊢
     generalize hg2 : l.drop 1=r at hcons ⊢
     subst hcons
     rw [uC0]
    rw [hx] at hi2
    refine uAq ?_;refine uAx ?_;refine uAe ?_;refine uAe (uAb ?_);refine uAa rfl rfl rfl (uAc rfl gU) ?_;refine uAa rfl rfl rfl (uAF (j:=0) rfl rfl gU gU Tryz.underlying9 (by first | omega | (simp at hh ⊢; omega)) (fun hh=>by first | omega | (simp at hh ⊢; omega))) ?_;refine uAw rfl rfl rfl rfl rfl rfl gU gU (uDL _ _ rfl) rfl ?_;refine uAa rfl rfl rfl (uAm rfl rfl gU gU rfl) ?_;refine uAf ?_;refine uAk (s:=⟨[(5,_,_),(6,_,_),(7,_,_),(8,_,_),(34,_,_)],[],[(.t 5,_)],[]⟩) (uAj (⟨sx rfl,sx rfl,sx rfl,sx rfl,sx rfl,trivial⟩) trivial (⟨rfl,trivial⟩)) ?_;refine uAn rfl (fun hc4=>?_) (fun hc4=>?_)
    ·try simp only [nn,uAh,Tk.rows_len] at hc4
     rw [if_pos ((uD6 _).2.2.1 hc4)] at hi2
     refine uAe (uAb ?_);refine uAa rfl rfl rfl (uAc rfl gU) ?_;refine uAa rfl rfl rfl (uBr (l:=1) rfl gU Tryz.underlying9 (fun _=>⟨_,_,_,rfl,gU,by first | omega | (simp at hh ⊢; omega)⟩) (fun _=>rfl) (fun hh=>by first | omega | (simp at hh ⊢; omega)) (fun hh=>by first | omega | (simp at hh ⊢; omega))) ?_;refine uAa rfl rfl rfl (uAd rfl gU) ?_;refine uAf ?_;refine uAQ ?_
     repeat (first | refine uAE ?_ | refine uAD ?_ | refine uAC rfl ?_)
     refine ⟨(l.drop 1,o2),?_,?_,uAj (⟨⟨_,rfl,?_⟩,⟨⟨_,rfl,?_⟩,⟨sx rfl,sx rfl,trivial⟩⟩⟩) trivial (⟨rfl,trivial⟩)⟩
     all_goals first | rfl | exact tx (congrArg xs (by rw [List.take_length])) | (simp only [List.take_length,List.length_drop]; omega) | (refine ⟨?_,?_,n,?_,hi2⟩ <;> (simp only [List.length_drop]; omega))
    ·try simp only [nn,uAh,Tk.rows_len] at hc4
     rw [if_neg (fun q=>hc4 ((uD6 _).2.2.2 q))] at hi2
     have hfl:=uMA (s:=l) (k:=((k + 1 : Nat) : Int)) hne
     refine uAq ?_;refine uAe (uAb ?_);refine uAa rfl rfl rfl (uAc rfl gU) ?_;refine uAa rfl rfl rfl (uAc rfl gU) ?_;refine uAa rfl rfl rfl (uAz rfl rfl gU gU rfl (IntWalk.i64_in _ (by omega))) ?_;refine uAw rfl rfl rfl rfl rfl rfl gU gU (uK2 _ ((k + 1 : Nat) : Int) _ hne (by omega) (by omega) hc4) rfl ?_;refine uAa rfl rfl rfl (uAc rfl gU) ?_;refine uAa rfl rfl rfl (uAu rfl gU rfl) ?_;refine uAa rfl rfl rfl (uAu rfl gU rfl) ?_;refine uAa rfl rfl rfl (uAu rfl gU rfl) ?_;refine uAr rfl (uAG rfl rfl rfl) ?_;refine uAr rfl (uAt rfl rfl rfl rfl rfl rfl rfl) ?_;refine uAa rfl rfl rfl (uAd rfl gU) ?_;refine uAa rfl rfl rfl (uAd rfl gU) ?_;refine uAf ?_;refine uAk (s:=⟨[(5,_,_),(6,_,_),(7,_,_),(8,_,_),(9,_,_),(10,_,_),(11,_,_)],[(.l 9,_)],[(.t 5,_)],[]⟩) (uAj (⟨sx rfl,sx rfl,sx rfl,sx rfl,sx rfl,sx rfl,sx rfl,trivial⟩) (⟨sx rfl,trivial⟩) (⟨rfl,trivial⟩)) ?_;refine uAe ?_;refine uAe (uAb ?_);refine uAa rfl rfl rfl (uAc rfl gU) ?_;refine uAa rfl rfl rfl (uAm rfl rfl gU gU rfl) ?_;refine uAf ?_;refine uAn rfl (fun hc5=>?_) (fun hc5=>?_)
     ·try simp only [nn,uAh,Tk.rows_len] at hc5
      rw [if_pos hc5] at hi2
      rw [← hi2,if_pos hc5] at hi
      refine uAe (uAb ?_);refine uAa rfl rfl rfl (uAc rfl gU) ?_;refine uAa rfl rfl rfl (uAz rfl rfl gU gU rfl (IntWalk.i64_in _ (by omega))) ?_;refine uAa rfl rfl rfl (uAc rfl gU) ?_;refine uAr rfl (uBy (.inr rfl) rfl rfl) ?_;refine uAa rfl rfl rfl (uAd rfl gU) ?_;refine uAa rfl rfl rfl (uAd rfl gU) ?_;refine uAf ?_;refine uAp ?_
      repeat (first | refine tR ?_ | refine bR ?_)
      refine uAv rfl ?_ trivial
      (rw [← hi]; rfl)
     ·try simp only [nn,uAh,Tk.rows_len] at hc5
      have h4:=hfl.2 hc5
      rw [if_neg (fun q=>q hc5)] at hi2
      refine uAq ?_;refine uAe (uAb ?_);refine uAr rfl (uAL (.inl rfl) rfl rfl rfl) ?_;refine uAa rfl rfl rfl (uAo rfl gU rfl rfl rfl rfl rfl) ?_;refine uAH (xs:=[_]) rfl rfl rfl rfl rfl rfl rfl rfl rfl gU rfl ?_;refine uAr rfl (uA0 rfl rfl rfl rfl rfl rfl rfl (by first | omega | (simp only [List.length_append,List.length_singleton,Tk.rows_len,uAh]; omega)) (by first | omega | (simp only [List.length_append,List.length_singleton,Tk.rows_len,uAh]; omega))) ?_;refine uAr rfl (uAL (.inr rfl) rfl rfl rfl) ?_;refine uAf ?_;refine uAk (s:=⟨[(5,_,_),(6,_,_),(7,_,_),(8,_,_),(10,_,_)],[],[(.t 5,_)],[]⟩) (uAj (⟨sx rfl,sx rfl,sx rfl,sx rfl,sx rfl,trivial⟩) trivial (⟨rfl,trivial⟩)) ?_;refine uAb ?_;refine uAa rfl rfl rfl (uAc rfl gU) ?_;refine uAa rfl rfl rfl (uAc rfl gU) ?_;refine uAa rfl rfl rfl (uBr (l:=(uBM l ((k + 1 : Nat) : Int)).2.1) rfl gU Tryz.underlying9 (fun _=>⟨_,_,_,rfl,gU,by first | omega | (simp at hh ⊢; omega)⟩) (fun _=>rfl) (fun hh=>by first | omega | (simp at hh ⊢; omega)) (fun hh=>by first | omega | (simp at hh ⊢; omega))) ?_;refine uAa rfl rfl rfl (uAd rfl gU) ?_;refine uAf ?_;refine ⟨(l.drop (uBM l ((k + 1 : Nat) : Int)).2.1,o2++[(uBM l ((k + 1 : Nat) : Int)).1]),?_,?_,uAj (⟨⟨_,rfl,?_⟩,⟨⟨_,rfl,?_⟩,⟨sx rfl,sx rfl,trivial⟩⟩⟩) trivial (⟨rfl,trivial⟩)⟩
      all_goals first | rfl | exact tx (uJt o2 (uBM l ((k + 1 : Nat) : Int)).1) | exact tx (congrArg xs (by rw [List.take_length])) | (simp only [List.take_length,List.length_drop,List.length_append,List.length_singleton]; omega) | (refine ⟨?_,?_,n,?_,hi2⟩ <;> (simp only [List.length_drop,List.length_append,List.length_singleton]; omega))
   ·try simp only [nn,uAh,Tk.rows_len] at hc3
    have hnil : l=[]:=List.eq_nil_of_length_eq_zero (by omega)
    subst hnil
    rw [uC0] at hi2
    rw [← hi2] at hi
    refine uAQ ?_
    repeat (first | refine uAE ?_ | refine uAD ?_ | refine uAC rfl ?_)
    refine uAb ?_;refine uAa rfl rfl rfl (uAc rfl gU) ?_;refine uAa rfl rfl rfl (uAz rfl rfl gU gU rfl (IntWalk.i64_in _ (by omega))) ?_;refine uAa rfl rfl rfl (uAd rfl gU) ?_;refine uAf ?_;refine ⟨(k + 1,o2),?_,?_,uAj (⟨⟨_,rfl,?_⟩,⟨⟨_,rfl,?_⟩,⟨sx rfl,trivial⟩⟩⟩) trivial (⟨rfl,trivial⟩)⟩
    all_goals first | rfl | omega | (refine ⟨by dsimp only; omega,by dsimp only; omega,?_⟩; exact hi)
  ·try simp only [nn,uAh,Tk.rows_len] at hc2
   rw [List.drop_of_length_le (by omega),uFP] at hi
   refine uAQ ?_
   repeat (first | refine uAE ?_ | refine uAD ?_ | refine uAC rfl ?_)
   refine uAe (uAb ?_);refine uAr rfl (uAL (.inl rfl) rfl rfl rfl) ?_;refine uAr rfl (uAL (.inr rfl) rfl rfl rfl) ?_;refine uAa rfl rfl rfl (uAd rfl gU) ?_;refine uAa rfl rfl rfl (uAd rfl gU) ?_;refine uAf ?_;refine uAp ?_
   repeat (first | refine tR ?_ | refine bR ?_)
   refine uAv rfl ?_ trivial
   (rw [← hi]; rfl)
end Go.Proofs.YtnjjdbapadkomaaGreatDoor
namespace Go.Proofs.YtnjjdbapadkomaaGreatDoor
open Go Go.Abs
theorem uFI (s : List UInt8) (hs : s.length≤9223372036854775807) : Ctr sys 103 [xs s] [] (xb (uAM s)) none []:=by
 refine uAA Tryz.func103 rfl rfl rfl rfl rfl rfl ?_;refine uAe (uAb ?_);refine uAa rfl rfl rfl (uAd rfl gU) ?_;refine uAf ?_;refine uAe (uAb ?_);refine uAa rfl rfl rfl (uAc rfl gU) ?_;refine uAa rfl rfl rfl (uA9 rfl rfl gU gU rfl) ?_;refine uAa rfl rfl rfl (uAc rfl gU) ?_;refine uAa rfl rfl rfl (uAc rfl gU) ?_;refine uAa rfl rfl rfl (uAF (j:=0) rfl rfl (fun hh=>hh) gU Tryz.underlying9 (by first | omega | (simp at hh ⊢; exact List.length_pos_iff.2 hh) | (simp at hh ⊢; omega)) (fun hh=>by first | omega | (simp at hh ⊢; exact List.length_pos_iff.2 hh) | (simp at hh ⊢; omega))) ?_;refine uAw rfl rfl rfl rfl rfl rfl gU (fun hh=>gA ((fun hh=>hh) hh) (rfl)) (uD5 _) rfl ?_;refine uAa rfl rfl rfl (uAV rfl rfl gU (fun _ hi=>gP rfl hi)) ?_;refine uAa rfl rfl rfl (uAc rfl gU) ?_;refine uAa rfl rfl rfl (uAc rfl gU) ?_;refine uAw rfl rfl rfl rfl rfl rfl gU (fun hh=>gA ((fun hh=>hh) hh) (rfl)) (uEo _ (by omega)) rfl ?_;refine uAa rfl rfl rfl (uAc rfl gU) ?_;refine uBq (s:=⟨[(0,_,_),(10,_,_),(12,_,_),(13,_,_)],[],[],[]⟩) (uAj (⟨sx rfl,sx rfl,sx rfl,sx rfl,trivial⟩) trivial trivial) ?_;refine uAa rfl rfl rfl (uCc rfl (fun hh=>hh) (Tryz.underlying9)) ?_;refine uAa rfl rfl rfl (uAm rfl rfl (fun hh=>hh) (fun hh=>hh) rfl) ?_;refine uAa rfl rfl rfl (uAV rfl rfl gU (fun _ hi=>gP rfl hi)) ?_
 refine uAa rfl rfl rfl (uAc rfl gU) ?_;refine uAa rfl rfl rfl (uAc rfl gU) ?_;refine uAa rfl rfl rfl (uCc rfl (fun hh=>hh) (Tryz.underlying9)) ?_;refine uAa rfl rfl rfl (uAm rfl rfl (fun hh=>hh) gU rfl) ?_;refine uAa rfl rfl rfl (uAV rfl rfl gU (fun _ hi=>gP rfl hi)) ?_;refine uAa rfl rfl rfl (uAd rfl gU) ?_;refine uAf ?_;refine uAp ?_
 repeat (first | refine tR ?_ | refine bR ?_)
 refine uAv rfl ?_ trivial;refine uCG ?_
 unfold uAM
 rw [Bool.eq_iff_iff]
 simp only [Bool.and_eq_true,decide_eq_true_eq,bne_iff_ne,ne_eq]
 constructor
 ·rintro ⟨⟨⟨a,b⟩,c⟩,d⟩
  refine ⟨⟨⟨?_,b⟩,?_⟩,?_⟩
  ·simpa using a
  ·have c':=c; simp at c'; omega
  ·omega
 ·rintro ⟨⟨⟨a,b⟩,c⟩,d⟩
  refine ⟨⟨⟨?_,b⟩,?_⟩,?_⟩
  ·simpa using a
  ·simp; omega
  ·omega
def lnsP (s : List UInt8) : List (List UInt8):=if (spl s).getD ((spl s).length - 1) []=[] then (spl s).take ((spl s).length - 1) else spl s
theorem uMM (l : List (List UInt8)) (k : Nat) : (strR l).take k=strR (l.take k):=by simp [strR,List.map_take]
theorem uJ0 (s : List UInt8) (hs : s.length≤2000000) : Ctr sys 36 [xs s] [] (xss (lnsP s)) none []:=by
 have h1:=uGI s
 have h2 : 0 < (spl s).length:=List.length_pos_iff.2 (uHb s)
 refine uAA Tryz.func36 rfl rfl rfl rfl rfl rfl ?_;refine uAe (uAb ?_);refine uAa rfl rfl rfl (uAd rfl gU) ?_;refine uAf ?_;refine uAe (uAb ?_);refine uAa rfl rfl rfl (uAc rfl gU) ?_;refine uAw rfl rfl rfl rfl rfl rfl gU gU (uHt _ (by omega)) rfl ?_;refine uAa rfl rfl rfl (uAd rfl gU) ?_;refine uAf ?_;refine uAe ?_;refine uAe (uAb ?_);refine uAa rfl rfl rfl (uAc rfl gU) ?_;refine uAa rfl rfl rfl (uAc rfl gU) ?_;refine uAS rfl rfl rfl rfl rfl gU rfl rfl ?_ (fun hh=>by simp at hh); intro hlen;refine uAa rfl rfl rfl (uAz rfl rfl gU gU rfl (IntWalk.i64_in _ (by omega))) ?_;refine uAa rfl rfl rfl (uAy (j:=((spl s).length - 1)) rfl rfl gU gU rfl rfl (by first | omega | (rw [uAh]; omega) | (simp only [uAh]; omega) | (simp at hh ⊢; omega)) (fun hh=>uC3 (by first | omega | (rw [uAh]; omega) | (simp only [uAh]; omega) | (simp at hh ⊢; omega)))) ?_;refine uAa rfl rfl rfl (uAR rfl gU rfl rfl rfl) ?_;refine uAa rfl rfl rfl (uA9 rfl rfl gU gU rfl) ?_;refine uAf ?_;refine uAk (s:=⟨[(3,_,_),(12,_,_)],[],[],[]⟩) (uAj (⟨sx rfl,sx rfl,trivial⟩) trivial trivial) ?_;refine uAn rfl (fun hc=>?_) (fun hc=>?_)
 ·try simp only [nn,uAh,Tk.rows_len] at hc
  refine uAb ?_;refine uAa rfl rfl rfl (uAc rfl gU) ?_;refine uAa rfl rfl rfl (uAc rfl gU) ?_;refine uAS rfl rfl rfl rfl rfl gU rfl rfl ?_ (fun hh=>by simp at hh); intro hlen;refine uAa rfl rfl rfl (uAz rfl rfl gU gU rfl (IntWalk.i64_in _ (by omega))) ?_;refine uAa rfl rfl rfl (uHh (h':=((spl s).length - 1)) rfl gU rfl rfl (fun _=>rfl) (fun _=>⟨_,_,_,rfl,gU,by first | omega | (rw [uAh]; omega) | (simp only [uAh]; omega) | (simp at hh ⊢; omega)⟩) (fun hh=>by first | omega | (rw [uAh]; omega) | (simp only [uAh]; omega) | (simp at hh ⊢; omega)) (fun hh=>by first | omega | (rw [uAh]; omega) | (simp only [uAh]; omega) | (simp at hh ⊢; omega))) ?_;refine uAa rfl rfl rfl (uAd rfl gU) ?_;refine uAf ?_;refine uAk (s:=⟨[(3,_,_)],[],[],[]⟩) (uAj (⟨sx rfl,trivial⟩) trivial trivial) ?_;refine uAe (uAb ?_);refine uAa rfl rfl rfl (uAc rfl gU) ?_;refine uAa rfl rfl rfl (uAd rfl gU) ?_;refine uAf ?_;refine uAp ?_
  repeat (first | refine tR ?_ | refine bR ?_)
  refine uAv rfl ?_ trivial
  (rw [lnsP,if_pos (by simpa using hc),xss,← uMM]; rfl)
 ·try simp only [nn,uAh,Tk.rows_len] at hc
  refine uAq ?_;refine uAe (uAb ?_);refine uAa rfl rfl rfl (uAc rfl gU) ?_;refine uAa rfl rfl rfl (uAd rfl gU) ?_;refine uAf ?_;refine uAp ?_
  repeat (first | refine tR ?_ | refine bR ?_)
  refine uAv rfl ?_ trivial
  (rw [lnsP,if_neg (by simpa using hc)]; rfl)
def uOx (a b : List (List UInt8)) : Bool:=decide (a=b)
theorem uE5 (a b : List (List UInt8)) : Ctr sys 64 [xss a,xss b] [] (xb (uOx a b)) none []:=by
 have la:=uAh a
 have lb:=uAh b
 refine uAA Tryz.func64 rfl rfl rfl rfl rfl rfl ?_;refine uAe (uAb ?_);refine uAa rfl rfl rfl (uAd rfl gU) ?_;refine uAf ?_;refine uAe ?_;refine uAe (uAb ?_);refine uAa rfl rfl rfl (uAc rfl gU) ?_;refine uAS rfl rfl rfl rfl rfl gU rfl rfl ?_ (fun hh=>by simp at hh); intro hlen;refine uAa rfl rfl rfl (uAc rfl gU) ?_;refine uAS rfl rfl rfl rfl rfl gU rfl rfl ?_ (fun hh=>by simp at hh); intro hlen;refine uAa rfl rfl rfl (uAm rfl rfl gU gU rfl) ?_;refine uAf ?_;refine uAk (s:=⟨[(0,_,_),(1,_,_),(10,_,_)],[],[],[]⟩) (uAj (⟨sx rfl,sx rfl,sx rfl,trivial⟩) trivial trivial) ?_;refine uAn rfl (fun hc=>?_) (fun hc=>?_)
 ·try simp only [nn,uAh,Tk.rows_len] at hc
  refine uAe (uAb ?_);refine uAa rfl rfl rfl (uAd rfl gU) ?_;refine uAf ?_;refine uAp ?_
  repeat (first | refine tR ?_ | refine bR ?_)
  refine uAv rfl ?_ trivial;exact uCG (by symm; exact decide_eq_false (by intro e; rw [e] at hc; exact hc rfl))
 ·try simp only [nn,uAh,Tk.rows_len] at hc
  have hl : a.length=b.length:=by omega
  refine uAq ?_;refine uAe ?_;refine uAe (uAb ?_);refine uAa rfl rfl rfl (uAd rfl gU) ?_;refine uAf ?_;refine uAx ?_;refine uA6 (ι:=Nat) { t:=[(0,_,_),(1,_,_)],bx:=[],ow:=[] } (fun k=>[(5,true,xi (k : Int))]) (fun k=>[]) (fun k=>k≤a.length ∧ ∀ j,j < k→a.getD j []=b.getD j []) (fun k=>a.length - k) (0) (by simp) (uAj (⟨sx rfl,sx rfl,sx rfl,trivial⟩) trivial trivial) ?_
  intro k hok
  dsimp only [List.cons_append,List.nil_append]
  obtain ⟨hk,hi⟩:=hok
  refine uAe ?_;refine uAe (uAb ?_);refine uAa rfl rfl rfl (uAc rfl gU) ?_;refine uAa rfl rfl rfl (uAc rfl gU) ?_;refine uAS rfl rfl rfl rfl rfl gU rfl rfl ?_ (fun hh=>by simp at hh); intro hlen;refine uAa rfl rfl rfl (uAm rfl rfl gU gU rfl) ?_;refine uAf ?_;refine uAn rfl (fun hc2=>?_) (fun hc2=>?_)
  ·try simp only [nn,uAh,Tk.rows_len] at hc2
   refine uAq ?_;refine uAe ?_;refine uAx ?_;refine uAe ?_;refine awp_drawn' (by kernel_rfl) ?_;refine uAi rfl rfl rfl rfl (uAc rfl gU) ?_;refine uAi rfl rfl rfl rfl (uAc rfl gU) ?_;refine uAi rfl rfl rfl rfl (uAy rfl rfl gU gU rfl rfl rfl (fun hh=>uC3 (by first | omega | (rw [uAh]; omega) | (simp only [uAh]; omega) | (simp at hh ⊢; omega)))) ?_;refine uAi rfl rfl rfl rfl (uAR rfl gU rfl rfl rfl) ?_;refine uAi rfl rfl rfl rfl (uAc rfl gU) ?_;refine uAi rfl rfl rfl rfl (uAc rfl gU) ?_;refine uAi rfl rfl rfl rfl (uAy rfl rfl gU gU rfl rfl rfl (fun hh=>uC3 (by first | omega | (rw [uAh]; omega) | (simp only [uAh]; omega) | (simp at hh ⊢; omega)))) ?_;refine uAi rfl rfl rfl rfl (uAR rfl gU rfl rfl rfl) ?_;refine uAi rfl rfl rfl rfl (uA9 rfl rfl gU gU rfl) ?_;refine uA2 (by kernel_rfl) ?_;refine uAk (s:=⟨[(0,_,_),(1,_,_),(5,_,_),(25,_,_)],[],[],[]⟩) (uAj (⟨sx rfl,sx rfl,sx rfl,sx rfl,trivial⟩) trivial trivial) ?_;refine uAn rfl (fun hc3=>?_) (fun hc3=>?_)
   ·try simp only [nn,uAh,Tk.rows_len] at hc3
    refine uAe (uAb ?_);refine uAa rfl rfl rfl (uAd rfl gU) ?_;refine uAf ?_;refine uAp ?_
    repeat (first | refine tR ?_ | refine bR ?_)
    refine uAv rfl ?_ trivial;exact uCG (by symm; exact decide_eq_false (by intro e; rw [e] at hc3; exact hc3 rfl))
   ·try simp only [nn,uAh,Tk.rows_len] at hc3
    refine uAq ?_;refine uAb ?_;refine uAa rfl rfl rfl (uAc rfl gU) ?_;refine uAa rfl rfl rfl (uAz rfl rfl gU gU rfl (IntWalk.i64_in _ (by omega))) ?_;refine uAa rfl rfl rfl (uAd rfl gU) ?_;refine uAf ?_;refine ⟨k + 1,?_,?_,uAj (⟨⟨_,rfl,?_⟩,⟨sx rfl,sx rfl,trivial⟩⟩) trivial trivial⟩
    all_goals (first | rfl | omega | (refine ⟨by omega,fun j hj=>?_⟩; by_cases q : j=k; { subst q; exact hc3 }; { exact hi j (by omega) }))
  ·try simp only [nn,uAh,Tk.rows_len] at hc2
   have he : a=b:=by
    apply List.ext_getElem?
    intro i
    by_cases hlt : i < a.length
    ·have := hi i (by omega)
     rw [List.getD_eq_getElem?_getD,List.getD_eq_getElem?_getD,List.getElem?_eq_getElem hlt,List.getElem?_eq_getElem (hl ▸ hlt)] at this
     rw [List.getElem?_eq_getElem hlt,List.getElem?_eq_getElem (hl ▸ hlt)]
     exact congrArg some this
    ·rw [List.getElem?_eq_none (by omega),List.getElem?_eq_none (by omega)]
   refine uAQ ?_
   repeat (first | refine uAE ?_ | refine uAD ?_ | refine uAC rfl ?_)
   refine uAe (uAb ?_);refine uAa rfl rfl rfl (uAd rfl gU) ?_;refine uAf ?_;refine uAp ?_
   repeat (first | refine tR ?_ | refine bR ?_)
   refine uAv rfl ?_ trivial;exact uCG (by symm; exact decide_eq_true he)
theorem uFL (s : List UInt8) (hs : s.length≤9223372036854775807) : Ctr sys 53 [xs s] [] (xb (rnmE s)) none []:=by
 have hr:=Tk.rows_len (tokR s).1
 refine uAA Tryz.func53 rfl rfl rfl rfl rfl rfl ?_;refine uAe (uAb ?_);refine uAa rfl rfl rfl (uAd rfl gU) ?_;refine uAf ?_;refine uAe (uAb ?_);refine uAa rfl rfl rfl (uAc rfl gU) ?_;refine uAw rfl rfl rfl rfl rfl rfl gU gU (uFN _ (by omega)) rfl ?_;refine uAa rfl rfl rfl (uAc rfl gU) ?_;refine uAa rfl rfl rfl (uAu rfl gU rfl) ?_;refine uAa rfl rfl rfl (uAu rfl gU rfl) ?_;refine uAa rfl rfl rfl (uAu rfl gU rfl) ?_;refine uAa rfl rfl rfl (uAd rfl gU) ?_;refine uAa rfl rfl rfl (uAd rfl gU) ?_;refine uAa rfl rfl rfl (uAd rfl gU) ?_;refine uAf ?_;refine uAk (s:=⟨[(0,_,_),(3,_,_),(5,_,_)],[],[],[]⟩) (uAj (⟨sx rfl,sx rfl,sx rfl,trivial⟩) trivial trivial) ?_;refine uAe (uAb ?_);refine uAa rfl rfl rfl (uAc rfl gU) ?_;refine uAa rfl rfl rfl (uAm rfl rfl gU gU rfl) ?_;refine uAa rfl rfl rfl (uAc rfl gU) ?_;refine uAa rfl rfl rfl (uAc rfl gU) ?_;refine uAa rfl rfl rfl (uBa rfl (fun hh=>hh) rfl rfl) ?_;refine uAa rfl rfl rfl (uAm rfl rfl (fun hh=>hh) gU rfl) ?_;refine uAa rfl rfl rfl (uAV rfl rfl gU (fun _ hi=>gP rfl hi)) ?_;refine uAa rfl rfl rfl (uAc rfl gU) ?_;refine uAa rfl rfl rfl (uAc rfl gU) ?_;refine uAa rfl rfl rfl (uAy (j:=0) rfl rfl (fun hh=>hh) gU rfl rfl (by first | omega | (simp at hh ⊢; omega) | (simp at hh; omega)) (fun hh=>Tk.rows_at (by first | omega | (simp at hh ⊢; omega) | (simp at hh; omega)))) ?_
 refine uAa rfl rfl rfl (uAT rfl (fun hh=>hh) rfl rfl) ?_;refine uAa rfl rfl rfl (uAR rfl (fun hh=>hh) rfl rfl rfl) ?_;refine uBq (s:=⟨[(0,_,_),(3,_,_),(19,_,_),(23,_,_)],[],[],[]⟩) (uAj (⟨sx rfl,sx rfl,sx rfl,sx rfl,trivial⟩) trivial trivial) ?_;refine uAa rfl rfl rfl (uAm rfl rfl (fun hh=>hh) gU rfl) ?_;refine uAa rfl rfl rfl (uAV rfl rfl gU (fun _ hi=>gP rfl hi)) ?_;refine uAa rfl rfl rfl (uAc rfl gU) ?_;refine uAa rfl rfl rfl (uAc rfl gU) ?_;refine uAa rfl rfl rfl (uAy (j:=0) rfl rfl (fun hh=>hh) gU rfl rfl (by first | omega | (simp at hh ⊢; omega) | (simp at hh; omega)) (fun hh=>Tk.rows_at (by first | omega | (simp at hh ⊢; omega) | (simp at hh; omega)))) ?_;refine uAa rfl rfl rfl (uAT rfl (fun hh=>hh) rfl rfl) ?_;refine uAa rfl rfl rfl (uAR rfl (fun hh=>hh) rfl rfl rfl) ?_;refine uAa rfl rfl rfl (uAc rfl gU) ?_;refine uAa rfl rfl rfl (uA9 rfl rfl (fun hh=>hh) (fun hh=>hh) rfl) ?_;refine uAa rfl rfl rfl (uAV rfl rfl gU (fun _ hi=>gP rfl hi)) ?_;refine uAa rfl rfl rfl (uAc rfl gU) ?_;refine uAa rfl rfl rfl (uAc rfl gU) ?_;refine uBq (s:=⟨[(34,_,_),(35,_,_)],[],[],[]⟩) (uAj (⟨sx rfl,sx rfl,trivial⟩) trivial trivial) ?_;refine uAw rfl rfl rfl rfl rfl rfl gU (fun hh=>gA ((fun hh=>hh) hh) (rfl)) (uGy _) rfl ?_
 refine uAa rfl rfl rfl (uAV rfl rfl gU (fun _ hi=>gP rfl hi)) ?_;refine uAa rfl rfl rfl (uAd rfl gU) ?_;refine uAf ?_;refine uAp ?_
 repeat (first | refine tR ?_ | refine bR ?_)
 refine uAv rfl ?_ trivial;refine uCG ?_
 unfold rnmE
 rw [Bool.eq_iff_iff]
 simp only [Bool.and_eq_true,decide_eq_true_eq,beq_iff_eq]
 constructor
 ·rintro ⟨⟨⟨⟨a,b⟩,c⟩,d⟩,e⟩
  exact ⟨⟨⟨⟨by simpa using a,by have := b; simp [Tk.rows_len] at this; omega⟩,by simpa using c⟩,by simpa using d⟩,e⟩
 ·rintro ⟨⟨⟨⟨a,b⟩,c⟩,d⟩,e⟩
  exact ⟨⟨⟨⟨by simpa using a,by simp [Tk.rows_len]; omega⟩,by simpa using c⟩,by simpa using d⟩,e⟩
theorem uD7 (s : List UInt8) : Ctr sys 103 [xs s] [] (xb (uAM s)) none []:=uHp (uG4 (uFI [] (by simp))) fun h=>uFI s h
theorem uKO (s : List UInt8) : Ctr sys 53 [xs s] [] (xb (rnmE s)) none []:=uHp (uG4 (uFL [] (by simp))) fun h=>uFL s h
theorem uO4 (s : List UInt8) : rnmE s=uAM s:=by
 by_cases h : s.length≤65536
 ·exact (uNv s h).symm
 ·have h1 : uAM s=false:=by
   unfold uAM
   have : decide (s.length≤24)=false:=decide_eq_false (by omega)
   rw [this,Bool.and_false]
  have h2 : uCZ s=false:=by
   unfold uCZ
   have : decide (s.length≤24)=false:=decide_eq_false (by omega)
   simp only [this,Bool.and_false,Bool.false_and]
  rw [h1]
  unfold rnmE
  rw [h2,Bool.and_false]
end Go.Proofs.YtnjjdbapadkomaaGreatDoor
namespace Go.Proofs.YtnjjdbapadkomaaGreatDoor
open Go Go.Abs
theorem uCy {α : Type} {f : α→Int} {l : List α} {d : α} {k : Nat} {e : Int} (h : k < l.length) (hi : errs f (l.drop k)=e) : (f (l.getD k d)≠0→e=f (l.getD k d))∧(f (l.getD k d)=0→errs f (l.drop (k + 1))=e):=by
 rw [uG0 (d:=d) h,errs] at hi
 refine ⟨fun q=>?_,fun q=>?_⟩
 ·rw [if_pos q] at hi; exact hi.symm
 ·rw [if_neg (by rw [q]; simp)] at hi; exact hi
theorem uDI {α : Type} {f : α→Int} {l : List α} {k : Nat} {e : Int} (h : l.length≤k) (hi : errs f (l.drop k)=e) : e=0:=by
 rw [List.drop_of_length_le h] at hi; exact hi.symm
theorem uNa : ∀ (n : Nat) (t : T),t.size≤n→n≤2000000→Ctr sys 118 [xm t] [] (xi (rawE uAM t)) none []:=by
 intro n
 induction n with
 | zero=>intro t h; have := t.size_pos; omega
 | succ n ih =>
  intro t ht hn
  have hse:=t.size_eq
  have hrl:=T.rows_len t.kids
  have hls:=T.len_sizes t.kids
  have he:=uLI uAM t
  rw [uFb] at he
  refine uAA Tryz.func118 rfl rfl rfl rfl rfl rfl ?_;refine uAe (uAb ?_);refine uAr rfl (uAX rfl rfl rfl rfl) ?_;refine uAa rfl rfl rfl (uAd rfl gU) ?_;refine uAf ?_;refine uAe ?_;refine uAe (uAb ?_);refine uAa rfl rfl rfl (uAg rfl gU rfl rfl) ?_;refine uAa rfl rfl rfl (uAl rfl gU rfl rfl rfl rfl) ?_;refine uAa rfl rfl rfl (uAm rfl rfl gU gU rfl) ?_;refine uAa rfl rfl rfl (uAc rfl gU) ?_;refine uAa rfl rfl rfl (uAg rfl gU rfl rfl) ?_;refine uAa rfl rfl rfl (uAl rfl (fun hh=>hh) rfl rfl rfl rfl) ?_;refine uAa rfl rfl rfl (uAm rfl rfl (fun hh=>hh) gU rfl) ?_;refine uAa rfl rfl rfl (uAJ rfl rfl gU (fun _ hi=>gP rfl hi)) ?_;refine uAf ?_;refine uAk (s:=⟨[(1,_,_),(13,_,_)],[(.l 1,_)],[],[]⟩) (uAj (⟨sx rfl,sx rfl,trivial⟩) (⟨sx rfl,trivial⟩) trivial) ?_;refine uAn rfl (fun hc=>?_) (fun hc=>?_)
  ·try simp only [nn,uAh,T.rows_len,Fs.rows_len,Sp.rows_len,Gl.rows_len] at hc
   refine uAe (uAb ?_);refine uAa rfl rfl rfl (uAd rfl gU) ?_;refine uAf ?_;refine uAp ?_
   repeat (first | refine tR ?_ | refine bR ?_)
   refine uAv rfl ?_ trivial
   (rw [he,if_pos (by grind)]; rfl)
  ·try simp only [nn,uAh,T.rows_len,Fs.rows_len,Sp.rows_len,Gl.rows_len] at hc
   rw [if_neg (by grind)] at he
   refine uAq ?_;refine uAe ?_;refine uAe (uAb ?_);refine uAa rfl rfl rfl (uAg rfl gU rfl rfl) ?_;refine uAa rfl rfl rfl (uAl rfl gU rfl rfl rfl rfl) ?_;refine uAw rfl rfl rfl rfl rfl rfl gU gU (uD7 _) rfl ?_;refine uAa rfl rfl rfl (uAZ rfl gU) ?_;refine uAf ?_;refine uAn rfl (fun hc2=>?_) (fun hc2=>?_)
   ·try simp only [nn,uAh,T.rows_len,Fs.rows_len,Sp.rows_len,Gl.rows_len] at hc2
    refine uAe (uAb ?_);refine uAa rfl rfl rfl (uAd rfl gU) ?_;refine uAf ?_;refine uAp ?_
    repeat (first | refine tR ?_ | refine bR ?_)
    refine uAv rfl ?_ trivial
    (rw [he,if_pos hc2]; rfl)
   ·try simp only [nn,uAh,T.rows_len,Fs.rows_len,Sp.rows_len,Gl.rows_len] at hc2
    rw [if_neg (by rw [hc2]; simp)] at he
    refine uAq ?_;refine uAe ?_;refine uAe (uAb ?_);refine uAa rfl rfl rfl (uAg rfl gU rfl rfl) ?_;refine uAa rfl rfl rfl (uAl rfl gU rfl rfl rfl rfl) ?_;refine uAS rfl rfl rfl rfl rfl gU rfl rfl ?_ (fun hh=>by simp at hh); intro hlen;refine uAa rfl rfl rfl (uAc rfl gU) ?_;refine uAf ?_;refine uAk (s:=⟨[(19,_,_),(20,_,_),(21,_,_)],[],[],[]⟩) (uAj (⟨sx rfl,sx rfl,sx rfl,trivial⟩) trivial trivial) ?_;refine uAx ?_;refine uA6 (ι:=Nat) { t:=[(19,_,_),(20,_,_)],bx:=[],ow:=[] } (fun k=>[(21,true,xi (k : Int))]) (fun k=>[]) (fun k=>k≤t.kids.length∧errs (rawE uAM) (t.kids.drop k)=rawE uAM t) (fun k=>t.kids.length - k) (0) (⟨by simp,by rw [he]; rfl⟩) (uAj (⟨sx rfl,sx rfl,sx rfl,trivial⟩) trivial trivial) ?_
    intro k hok
    dsimp only [List.cons_append,List.nil_append]
    obtain ⟨hk,hi⟩:=hok
    refine uAe (uAb ?_);refine uAa rfl rfl rfl (uAm rfl rfl gU gU rfl) ?_;refine uAf ?_;refine uAe ?_;refine uAn rfl (fun hc3=>?_) (fun hc3=>?_)
    ·try simp only [nn,uAh,T.rows_len,Fs.rows_len,Sp.rows_len,Gl.rows_len] at hc3
     have hlt : k < t.kids.length:=by omega
     have h2:=T.getD_size hlt
     have hd:=uCy (d:=default) hlt hi
     refine uAq ?_;refine uAe ?_;refine uAx ?_;refine uAe (uAb ?_);refine uAa rfl rfl rfl (uAy rfl rfl gU gU rfl rfl rfl (fun hh=>T.rows_at (by first | omega | (simp at hh ⊢; omega)))) ?_;refine uAa rfl rfl rfl (uAP rfl gU rfl rfl rfl rfl) ?_;refine uAr rfl (uAG rfl rfl rfl) ?_;refine uAr rfl (uAt rfl rfl rfl rfl rfl rfl rfl) ?_;refine uAf ?_;refine uAe (uAb ?_);refine uAa rfl rfl rfl (uAo rfl gU rfl rfl rfl rfl rfl) ?_;refine uAw rfl rfl rfl rfl rfl rfl gU gU (ih (t.kids.getD k default) (by omega) (by omega)) rfl ?_;refine uAa rfl rfl rfl (uAd rfl gU) ?_;refine uAf ?_;refine uAk (s:=⟨[(5,_,_),(19,_,_),(20,_,_),(21,_,_)],[],[],[]⟩) (uAj (⟨sx rfl,sx rfl,sx rfl,sx rfl,trivial⟩) trivial trivial) ?_;refine uAe (uAb ?_);refine uAa rfl rfl rfl (uAc rfl gU) ?_;refine uAa rfl rfl rfl (uAm rfl rfl gU gU rfl) ?_;refine uAf ?_;refine uAn rfl (fun hc1=>?_) (fun hc1=>?_)
     ·try simp only [nn,uAh,T.rows_len,Fs.rows_len,Sp.rows_len,Gl.rows_len] at hc1
      refine uAe (uAb ?_);refine uAa rfl rfl rfl (uAc rfl gU) ?_;refine uAa rfl rfl rfl (uAd rfl gU) ?_;refine uAf ?_;refine uAp ?_
      repeat (first | refine tR ?_ | refine bR ?_)
      refine uAv rfl ?_ trivial;exact uBj (hd.1 (by assumption)).symm
     ·try simp only [nn,uAh,T.rows_len,Fs.rows_len,Sp.rows_len,Gl.rows_len] at hc1
      refine uAq ?_;refine uAb ?_;refine uAa rfl rfl rfl (uAz rfl rfl gU gU rfl (IntWalk.i64_in _ (by omega))) ?_;refine uAa rfl rfl rfl (uAc rfl gU) ?_;refine uAf ?_;refine ⟨k + 1,?_,?_,uAj (⟨⟨_,rfl,?_⟩,⟨sx rfl,sx rfl,trivial⟩⟩) trivial trivial⟩
      all_goals (first | rfl | omega | exact ⟨by omega,hd.2 (by assumption)⟩)
    ·try simp only [nn,uAh,T.rows_len,Fs.rows_len,Sp.rows_len,Gl.rows_len] at hc3
     refine uAQ ?_
     repeat (first | refine uAE ?_ | refine uAD ?_ | refine uAC rfl ?_)
     refine uAe (uAb ?_);refine uAa rfl rfl rfl (uAd rfl gU) ?_;refine uAf ?_;refine uAp ?_
     repeat (first | refine tR ?_ | refine bR ?_)
     refine uAv rfl ?_ trivial;exact uBj (uDI (by omega) hi).symm
theorem uEi (t : T) (ht : t.size≤900000) : Ctr sys 67 [xm t] [] (xi (uDG uAM t)) none []:=by
 refine uAA Tryz.func67 rfl rfl rfl rfl rfl rfl ?_;refine uAe (uAb ?_);refine uAr rfl (uAX rfl rfl rfl rfl) ?_;refine uAa rfl rfl rfl (uAd rfl gU) ?_;refine uAf ?_;refine uAe ?_;refine uAe (uAb ?_);refine uAa rfl rfl rfl (uAo rfl gU rfl rfl rfl rfl rfl) ?_;refine uAw rfl rfl rfl rfl rfl rfl gU gU (uJg _ (by omega)) rfl ?_;refine uAa rfl rfl rfl (uAd rfl gU) ?_;refine uAf ?_;refine uAk (s:=⟨[(1,_,_),(3,_,_)],[(.l 1,_)],[],[]⟩) (uAj (⟨sx rfl,sx rfl,trivial⟩) (⟨sx rfl,trivial⟩) trivial) ?_;refine uAe (uAb ?_);refine uAa rfl rfl rfl (uAc rfl gU) ?_;refine uAa rfl rfl rfl (uAm rfl rfl gU gU rfl) ?_;refine uAf ?_;refine uAn rfl (fun hc=>?_) (fun hc=>?_)
 ·try simp only [nn,uAh,T.rows_len,Fs.rows_len,Sp.rows_len,Gl.rows_len] at hc
  refine uAe (uAb ?_);refine uAa rfl rfl rfl (uAc rfl gU) ?_;refine uAa rfl rfl rfl (uAd rfl gU) ?_;refine uAf ?_;refine uAp ?_
  repeat (first | refine tR ?_ | refine bR ?_)
  refine uAv rfl ?_ trivial
  (rw [uDG,if_pos hc]; rfl)
 ·try simp only [nn,uAh,T.rows_len,Fs.rows_len,Sp.rows_len,Gl.rows_len] at hc
  refine uAq ?_;refine uAe (uAb ?_);refine uAa rfl rfl rfl (uAo rfl gU rfl rfl rfl rfl rfl) ?_;refine uAw rfl rfl rfl rfl rfl rfl gU gU (uNa _ _ (Nat.le_refl _) (by omega)) rfl ?_;refine uAa rfl rfl rfl (uAd rfl gU) ?_;refine uAf ?_;refine uAp ?_
  repeat (first | refine tR ?_ | refine bR ?_)
  refine uAv rfl ?_ trivial
  (rw [uDG,if_neg (by simpa using hc)]; rfl)
theorem uFJ (t : T) (ht : t.size≤900000) : Ctr sys 51 [xm t] [] (xi (msgE uAM t)) none []:=by
 refine uAA Tryz.func51 rfl rfl rfl rfl rfl rfl ?_;refine uAe (uAb ?_);refine uAr rfl (uAX rfl rfl rfl rfl) ?_;refine uAa rfl rfl rfl (uAd rfl gU) ?_;refine uAf ?_;refine uAe ?_;refine uAe (uAb ?_);refine uAa rfl rfl rfl (uAo rfl gU rfl rfl rfl rfl rfl) ?_;refine uAw rfl rfl rfl rfl rfl rfl gU gU (uEi _ (by omega)) rfl ?_;refine uAa rfl rfl rfl (uAd rfl gU) ?_;refine uAf ?_;refine uAk (s:=⟨[(1,_,_),(3,_,_)],[(.l 1,_)],[],[]⟩) (uAj (⟨sx rfl,sx rfl,trivial⟩) (⟨sx rfl,trivial⟩) trivial) ?_;refine uAe (uAb ?_);refine uAa rfl rfl rfl (uAc rfl gU) ?_;refine uAa rfl rfl rfl (uAm rfl rfl gU gU rfl) ?_;refine uAf ?_;refine uAn rfl (fun hc=>?_) (fun hc=>?_)
 ·try simp only [nn,uAh,T.rows_len,Fs.rows_len,Sp.rows_len,Gl.rows_len] at hc
  refine uAe (uAb ?_);refine uAa rfl rfl rfl (uAc rfl gU) ?_;refine uAa rfl rfl rfl (uAd rfl gU) ?_;refine uAf ?_;refine uAp ?_
  repeat (first | refine tR ?_ | refine bR ?_)
  refine uAv rfl ?_ trivial
  (rw [msgE,if_pos hc]; rfl)
 ·try simp only [nn,uAh,T.rows_len,Fs.rows_len,Sp.rows_len,Gl.rows_len] at hc
  refine uAq ?_;refine uAe ?_;refine uAe (uAb ?_);refine uAa rfl rfl rfl (uAo rfl gU rfl rfl rfl rfl rfl) ?_;refine uAw rfl rfl rfl rfl rfl rfl gU gU (uLj _ _ (Nat.le_refl _) (by omega)) rfl ?_;refine uAa rfl rfl rfl (uAm rfl rfl gU gU rfl) ?_;refine uAf ?_;refine uAk (s:=⟨[(11,_,_)],[],[],[]⟩) (uAj (⟨sx rfl,trivial⟩) trivial trivial) ?_;refine uAn rfl (fun hc2=>?_) (fun hc2=>?_)
  ·try simp only [nn,uAh,T.rows_len,Fs.rows_len,Sp.rows_len,Gl.rows_len] at hc2
   refine uAe (uAb ?_);refine uAa rfl rfl rfl (uAd rfl gU) ?_;refine uAf ?_;refine uAp ?_
   repeat (first | refine tR ?_ | refine bR ?_)
   refine uAv rfl ?_ trivial
   (rw [msgE,if_neg (by simpa using hc),if_pos (by omega)]; rfl)
  ·try simp only [nn,uAh,T.rows_len,Fs.rows_len,Sp.rows_len,Gl.rows_len] at hc2
   refine uAq ?_;refine uAe (uAb ?_);refine uAa rfl rfl rfl (uAd rfl gU) ?_;refine uAf ?_;refine uAp ?_
   repeat (first | refine tR ?_ | refine bR ?_)
   refine uAv rfl ?_ trivial
   (rw [msgE,if_neg (by simpa using hc),if_neg (by omega)]; rfl)
theorem uCe (g : Gl) : Ctr sys 96 [xg g] [] (xb (uBE g.kind)) none []:=by
 refine uAA Tryz.func96 rfl rfl rfl rfl rfl rfl ?_;refine uAe (uAb ?_);refine uAr rfl (uAX rfl rfl rfl rfl) ?_;refine uAa rfl rfl rfl (uAd rfl gU) ?_;refine uAf ?_;refine uAe (uAb ?_);refine uAa rfl rfl rfl (uAg rfl gU rfl rfl) ?_;refine uAa rfl rfl rfl (uAl rfl gU rfl rfl rfl rfl) ?_;refine uAa rfl rfl rfl (uAm rfl rfl gU gU rfl) ?_;refine uAa rfl rfl rfl (uAc rfl gU) ?_;refine uAa rfl rfl rfl (uAg rfl gU rfl rfl) ?_;refine uAa rfl rfl rfl (uAl rfl (fun hh=>hh) rfl rfl rfl rfl) ?_;refine uAa rfl rfl rfl (uAm rfl rfl (fun hh=>hh) gU rfl) ?_;refine uAa rfl rfl rfl (uAJ rfl rfl gU (fun _ hi=>gP rfl hi)) ?_;refine uAa rfl rfl rfl (uAd rfl gU) ?_;refine uAf ?_;refine uAp ?_
 repeat (first | refine tR ?_ | refine bR ?_)
 refine uAv rfl ?_ trivial
 rfl
theorem uDb (s : List UInt8) : Ctr sys 50 [xs s] [] (xb (!uAM s)) none []:=by
 refine uAA Tryz.func50 rfl rfl rfl rfl rfl rfl ?_;refine uAe (uAb ?_);refine uAa rfl rfl rfl (uAd rfl gU) ?_;refine uAf ?_;refine uAe (uAb ?_);refine uAa rfl rfl rfl (uAc rfl gU) ?_;refine uAw rfl rfl rfl rfl rfl rfl gU gU (uD7 _) rfl ?_;refine uAa rfl rfl rfl (uAZ rfl gU) ?_;refine uAa rfl rfl rfl (uAd rfl gU) ?_;refine uAf ?_;refine uAp ?_
 repeat (first | refine tR ?_ | refine bR ?_)
 refine uAv rfl ?_ trivial
 rfl
theorem uMv (g : Gl) (hg : T.sizes g.data≤900000) : Ctr sys 52 [xg g] [] (xi (uCr uAM g)) none []:=by
 have hls:=T.len_sizes g.data
 have hrl:=T.rows_len g.data
 refine uAA Tryz.func52 rfl rfl rfl rfl rfl rfl ?_;refine uAe (uAb ?_);refine uAr rfl (uAX rfl rfl rfl rfl) ?_;refine uAa rfl rfl rfl (uAd rfl gU) ?_;refine uAf ?_;refine uAe (uAb ?_);refine uAa rfl rfl rfl (uAg rfl gU rfl rfl) ?_;refine uAa rfl rfl rfl (uAl rfl gU rfl rfl rfl rfl) ?_;refine uAS rfl rfl rfl rfl rfl gU rfl rfl ?_ (fun hh=>by simp at hh); intro hlen;refine uAa rfl rfl rfl (uAd rfl gU) ?_;refine uAf ?_;refine uAk (s:=⟨[(1,_,_),(3,_,_)],[(.l 1,_)],[],[]⟩) (uAj (⟨sx rfl,sx rfl,trivial⟩) (⟨sx rfl,trivial⟩) trivial) ?_;refine uAe ?_;refine uAx ?_;refine uAe (uAb ?_);refine uAa rfl rfl rfl (uAg rfl gU rfl rfl) ?_;refine uAa rfl rfl rfl (uAl rfl gU rfl rfl rfl rfl) ?_;refine uAa rfl rfl rfl (uAm rfl rfl gU gU rfl) ?_;refine uAa rfl rfl rfl (uAc rfl gU) ?_;refine uAa rfl rfl rfl (uAg rfl gU rfl rfl) ?_;refine uAa rfl rfl rfl (uAl rfl (fun hh=>hh) rfl rfl rfl rfl) ?_;refine uAa rfl rfl rfl (uAm rfl rfl (fun hh=>hh) gU rfl) ?_;refine uAa rfl rfl rfl (uAJ rfl rfl gU (fun _ hi=>gP rfl hi)) ?_;refine uAa rfl rfl rfl (uAd rfl gU) ?_;refine uAf ?_;refine uAk (s:=⟨[(1,_,_),(3,_,_),(10,_,_)],[(.l 1,_)],[],[]⟩) (uAj (⟨sx rfl,sx rfl,sx rfl,trivial⟩) (⟨sx rfl,trivial⟩) trivial) ?_
 refine uAn rfl (fun hc=>?_) (fun hc=>?_)
 ·try simp only [nn,uAh,T.rows_len,Fs.rows_len,Sp.rows_len,Gl.rows_len] at hc
  refine uAe (uAb ?_);refine uAa rfl rfl rfl (uAd rfl gU) ?_;refine uAf ?_;refine uAp ?_
  repeat (first | refine tR ?_ | refine bR ?_)
  refine uAv rfl ?_ trivial
  (rw [uCr,if_pos (by grind)]; rfl)
 ·try simp only [nn,uAh,T.rows_len,Fs.rows_len,Sp.rows_len,Gl.rows_len] at hc
  refine uAe (uAb ?_);refine uAa rfl rfl rfl (uAg rfl gU rfl rfl) ?_;refine uAa rfl rfl rfl (uAl rfl gU rfl rfl rfl rfl) ?_;refine uAw rfl rfl rfl rfl rfl rfl gU gU (uD7 _) rfl ?_;refine uAa rfl rfl rfl (uAZ rfl gU) ?_;refine uAa rfl rfl rfl (uAc rfl gU) ?_;refine uAa rfl rfl rfl (uAo rfl gU rfl rfl rfl rfl rfl) ?_;refine uAw rfl rfl rfl rfl rfl rfl gU (fun hh=>gA ((fun hh=>hh) hh) (rfl)) (uCe _) rfl ?_;refine uAa rfl rfl rfl (uAc rfl (fun hh=>hh)) ?_;refine uAa rfl rfl rfl (uAg rfl gU rfl rfl) ?_;refine uAa rfl rfl rfl (uAl rfl (fun hh=>hh) rfl rfl rfl rfl) ?_;refine uAw rfl rfl rfl rfl rfl rfl gU (fun hh=>gA ((fun hh=>hh) hh) (rfl)) (uD7 _) rfl ?_;refine uAa rfl rfl rfl (uAZ rfl (fun hh=>hh)) ?_;refine uBq (s:=⟨[(1,_,_),(3,_,_),(24,_,_),(27,_,_),(31,_,_)],[(.l 1,_)],[],[]⟩) (uAj (⟨sx rfl,sx rfl,sx rfl,sx rfl,sx rfl,trivial⟩) (⟨sx rfl,trivial⟩) trivial) ?_;refine uAa rfl rfl rfl (uAV rfl rfl (fun hh=>hh) (fun hh hi=>gP hh hi)) ?_;refine uAa rfl rfl rfl (uAJ rfl rfl gU (fun _ hi=>gP rfl hi)) ?_;refine uAa rfl rfl rfl (uAd rfl gU) ?_;refine uAf ?_;refine uAn rfl (fun hc2=>?_) (fun hc2=>?_)
  ·try simp only [nn,uAh,T.rows_len,Fs.rows_len,Sp.rows_len,Gl.rows_len] at hc2
   refine uAe (uAb ?_);refine uAa rfl rfl rfl (uAd rfl gU) ?_;refine uAf ?_;refine uAp ?_
   repeat (first | refine tR ?_ | refine bR ?_)
   refine uAv rfl ?_ trivial
   (rw [uCr,if_neg (by grind),if_pos (by grind)]; rfl)
  ·try simp only [nn,uAh,T.rows_len,Fs.rows_len,Sp.rows_len,Gl.rows_len] at hc2
   refine uAe (uAb ?_);refine uAa rfl rfl rfl (uAo rfl gU rfl rfl rfl rfl rfl) ?_;refine uAw rfl rfl rfl rfl rfl rfl gU gU (uCe _) rfl ?_;refine uAa rfl rfl rfl (uAZ rfl gU) ?_;refine uAa rfl rfl rfl (uAc rfl gU) ?_;refine uAa rfl rfl rfl (uAg rfl gU rfl rfl) ?_;refine uAa rfl rfl rfl (uAl rfl (fun hh=>hh) rfl rfl rfl rfl) ?_;refine uAa rfl rfl rfl (uA9 rfl rfl (fun hh=>hh) gU rfl) ?_;refine uAa rfl rfl rfl (uAV rfl rfl gU (fun _ hi=>gP rfl hi)) ?_;refine uAa rfl rfl rfl (uAd rfl gU) ?_;refine uAf ?_;refine uAk (s:=⟨[(1,_,_),(3,_,_),(34,_,_)],[(.l 1,_)],[],[]⟩) (uAj (⟨sx rfl,sx rfl,sx rfl,trivial⟩) (⟨sx rfl,trivial⟩) trivial) ?_;refine uAn rfl (fun hc3=>?_) (fun hc3=>?_)
   ·try simp only [nn,uAh,T.rows_len,Fs.rows_len,Sp.rows_len,Gl.rows_len] at hc3
    refine uAe (uAb ?_);refine uAa rfl rfl rfl (uAd rfl gU) ?_;refine uAf ?_;refine uAp ?_
    repeat (first | refine tR ?_ | refine bR ?_)
    refine uAv rfl ?_ trivial
    (rw [uCr,if_neg (by grind),if_neg (by grind),if_pos (by grind)]; rfl)
   ·try simp only [nn,uAh,T.rows_len,Fs.rows_len,Sp.rows_len,Gl.rows_len] at hc3
    refine uAe (uAb ?_);refine uAa rfl rfl rfl (uAo rfl gU rfl rfl rfl rfl rfl) ?_;refine uAw rfl rfl rfl rfl rfl rfl gU gU (uCe _) rfl ?_;refine uAa rfl rfl rfl (uAc rfl gU) ?_;refine uAa rfl rfl rfl (uAc rfl gU) ?_;refine uAa rfl rfl rfl (uAm rfl rfl (fun hh=>hh) gU rfl) ?_;refine uAa rfl rfl rfl (uAc rfl (fun hh=>hh)) ?_;refine uAa rfl rfl rfl (uAc rfl gU) ?_;refine uAa rfl rfl rfl (uAm rfl rfl (fun hh=>hh) gU rfl) ?_;refine uAa rfl rfl rfl (uAJ rfl rfl (fun hh=>hh) (fun hh hi=>gP hh hi)) ?_;refine uAa rfl rfl rfl (uAV rfl rfl gU (fun _ hi=>gP rfl hi)) ?_;refine uAa rfl rfl rfl (uAc rfl gU) ?_;refine uAa rfl rfl rfl (uAo rfl gU rfl rfl rfl rfl rfl) ?_;refine uBq (s:=⟨[(1,_,_),(3,_,_),(54,_,_),(55,_,_)],[(.l 1,_)],[],[]⟩) (uAj (⟨sx rfl,sx rfl,sx rfl,sx rfl,trivial⟩) (⟨sx rfl,trivial⟩) trivial) ?_;refine uAw rfl rfl rfl rfl rfl rfl gU (fun hh=>gA ((fun hh=>hh) hh) (rfl)) (uCe _) rfl ?_;refine uAa rfl rfl rfl (uAZ rfl (fun hh=>hh)) ?_;refine uAa rfl rfl rfl (uAc rfl (fun hh=>hh)) ?_;refine uAa rfl rfl rfl (uAc rfl gU) ?_;refine uAa rfl rfl rfl (uAm rfl rfl (fun hh=>hh) gU rfl) ?_;refine uAa rfl rfl rfl (uAV rfl rfl (fun hh=>hh) (fun hh hi=>gP hh hi)) ?_;refine uAa rfl rfl rfl (uAJ rfl rfl gU (fun _ hi=>gP rfl hi)) ?_
    refine uAa rfl rfl rfl (uAd rfl gU) ?_;refine uAf ?_;refine uAk (s:=⟨[(1,_,_),(43,_,_)],[(.l 1,_)],[],[]⟩) (uAj (⟨sx rfl,sx rfl,trivial⟩) (⟨sx rfl,trivial⟩) trivial) ?_;refine uAn rfl (fun hc4=>?_) (fun hc4=>?_)
    ·try simp only [nn,uAh,T.rows_len,Fs.rows_len,Sp.rows_len,Gl.rows_len] at hc4
     refine uAe (uAb ?_);refine uAa rfl rfl rfl (uAd rfl gU) ?_;refine uAf ?_;refine uAp ?_
     repeat (first | refine tR ?_ | refine bR ?_)
     refine uAv rfl ?_ trivial
     (rw [uCr,if_neg (by grind),if_neg (by grind),if_neg (by grind),if_pos (by grind)]; rfl)
    ·try simp only [nn,uAh,T.rows_len,Fs.rows_len,Sp.rows_len,Gl.rows_len] at hc4
     have he : uCr uAM g=errs (msgE uAM) g.data:=by rw [uCr,if_neg (by grind),if_neg (by grind),if_neg (by grind),if_neg (by grind)]
     refine uAq ?_;refine uAe ?_;refine uAe (uAb ?_);refine uAa rfl rfl rfl (uAg rfl gU rfl rfl) ?_;refine uAa rfl rfl rfl (uAl rfl gU rfl rfl rfl rfl) ?_;refine uAS rfl rfl rfl rfl rfl gU rfl rfl ?_ (fun hh=>by simp at hh); intro hlen;refine uAa rfl rfl rfl (uAc rfl gU) ?_;refine uAf ?_;refine uAx ?_;refine uA6 (ι:=Nat) { t:=[(64,_,_),(65,_,_)],bx:=[],ow:=[] } (fun k=>[(66,true,xi (k : Int))]) (fun k=>[]) (fun k=>k≤g.data.length∧errs (msgE uAM) (g.data.drop k)=uCr uAM g) (fun k=>g.data.length - k) (0) (⟨by simp,by rw [he]; rfl⟩) (uAj (⟨sx rfl,sx rfl,sx rfl,trivial⟩) trivial trivial) ?_
     intro k hok
     dsimp only [List.cons_append,List.nil_append]
     obtain ⟨hk,hi⟩:=hok
     refine uAe (uAb ?_);refine uAa rfl rfl rfl (uAm rfl rfl gU gU rfl) ?_;refine uAf ?_;refine uAe ?_;refine uAn rfl (fun hc5=>?_) (fun hc5=>?_)
     ·try simp only [nn,uAh,T.rows_len,Fs.rows_len,Sp.rows_len,Gl.rows_len] at hc5
      have hlt : k < g.data.length:=by omega
      have h2:=T.getD_size hlt
      have hd:=uCy (d:=default) hlt hi
      refine uAq ?_;refine uAe ?_;refine uAx ?_;refine uAe (uAb ?_);refine uAa rfl rfl rfl (uAy rfl rfl gU gU rfl rfl rfl (fun hh=>T.rows_at (by first | omega | (simp at hh ⊢; omega)))) ?_;refine uAa rfl rfl rfl (uAP rfl gU rfl rfl rfl rfl) ?_;refine uAr rfl (uAG rfl rfl rfl) ?_;refine uAr rfl (uAt rfl rfl rfl rfl rfl rfl rfl) ?_;refine uAf ?_;refine uAe (uAb ?_);refine uAa rfl rfl rfl (uAo rfl gU rfl rfl rfl rfl rfl) ?_;refine uAw rfl rfl rfl rfl rfl rfl gU gU (uFJ _ (by omega)) rfl ?_;refine uAa rfl rfl rfl (uAd rfl gU) ?_;refine uAf ?_;refine uAk (s:=⟨[(6,_,_),(64,_,_),(65,_,_),(66,_,_)],[],[],[]⟩) (uAj (⟨sx rfl,sx rfl,sx rfl,sx rfl,trivial⟩) trivial trivial) ?_;refine uAe (uAb ?_);refine uAa rfl rfl rfl (uAc rfl gU) ?_;refine uAa rfl rfl rfl (uAm rfl rfl gU gU rfl) ?_;refine uAf ?_;refine uAn rfl (fun hc1=>?_) (fun hc1=>?_)
      ·try simp only [nn,uAh,T.rows_len,Fs.rows_len,Sp.rows_len,Gl.rows_len] at hc1
       refine uAe (uAb ?_);refine uAa rfl rfl rfl (uAc rfl gU) ?_;refine uAa rfl rfl rfl (uAd rfl gU) ?_;refine uAf ?_;refine uAp ?_
       repeat (first | refine tR ?_ | refine bR ?_)
       refine uAv rfl ?_ trivial;exact uBj (hd.1 (by assumption)).symm
      ·try simp only [nn,uAh,T.rows_len,Fs.rows_len,Sp.rows_len,Gl.rows_len] at hc1
       refine uAq ?_;refine uAb ?_;refine uAa rfl rfl rfl (uAz rfl rfl gU gU rfl (IntWalk.i64_in _ (by omega))) ?_;refine uAa rfl rfl rfl (uAc rfl gU) ?_;refine uAf ?_;refine ⟨k + 1,?_,?_,uAj (⟨⟨_,rfl,?_⟩,⟨sx rfl,sx rfl,trivial⟩⟩) trivial trivial⟩
       all_goals (first | rfl | omega | exact ⟨by omega,hd.2 (by assumption)⟩)
     ·try simp only [nn,uAh,T.rows_len,Fs.rows_len,Sp.rows_len,Gl.rows_len] at hc5
      refine uAQ ?_
      repeat (first | refine uAE ?_ | refine uAD ?_ | refine uAC rfl ?_)
      refine uAe (uAb ?_);refine uAa rfl rfl rfl (uAd rfl gU) ?_;refine uAf ?_;refine uAp ?_
      repeat (first | refine tR ?_ | refine bR ?_)
      refine uAv rfl ?_ trivial;exact uBj (uDI (by omega) hi).symm
end Go.Proofs.YtnjjdbapadkomaaGreatDoor
namespace Go.Proofs.YtnjjdbapadkomaaGreatDoor
open Go Go.Abs
def idxF (p : List UInt8→Bool) : List (List UInt8)→Int
 | []=>-1
 | x :: r=>if p x=true then 0 else if idxF p r < 0 then -1 else idxF p r + 1
theorem uIx {p : List UInt8→Bool} {l : List (List UInt8)} {k : Nat} {e : Int} (h : k < l.length) (hi : (if idxF p (l.drop k) < 0 then -1 else idxF p (l.drop k) + k)=e) :
  (p (l.getD k [])=true→e=k)∧(p (l.getD k [])=false→(if idxF p (l.drop (k + 1)) < 0 then -1 else idxF p (l.drop (k + 1)) + (k + 1 : Nat))=e):=by
 rw [uG0 (d:=[]) h,idxF] at hi
 refine ⟨fun q=>?_,fun q=>?_⟩
 ·rw [if_pos q] at hi; simp at hi; omega
 ·rw [q] at hi
  simp only [Bool.false_eq_true,if_false] at hi
  generalize idxF p (List.drop (k + 1) l)=x at hi ⊢
  rw [← hi]
  by_cases hx : x < 0
  ·rw [if_pos hx,if_pos hx]; simp
  ·rw [if_neg hx,if_neg hx,if_neg (by omega)]; push_cast; omega
theorem uCC {α : Type} {l : List α} {d : α} {k : Nat} (h : k < l.length) : l.getD k d ∈ l:=by
 rw [List.getD_eq_getElem?_getD,List.getElem?_eq_getElem h]
 exact List.getElem_mem h
theorem uJF {p : List UInt8→Bool} {l : List (List UInt8)} {k : Nat} {e : Int} (h : l.length≤k) (hi : (if idxF p (l.drop k) < 0 then -1 else idxF p (l.drop k) + k)=e) : e = -1:=by
 rw [List.drop_of_length_le h] at hi; simpa [idxF] using hi.symm
theorem uHH (p : List UInt8→Bool) (l : List (List UInt8)) : (if idxF p (l.drop 0) < 0 then -1 else idxF p (l.drop 0) + ((0 : Nat) : Int))=if idxF p l < 0 then -1 else idxF p l:=by simp
theorem uIV (p : List UInt8→Bool) : ∀ l : List (List UInt8),-1≤idxF p l
 | []=>by simp [idxF]
 | x :: r=>by have := uIV p r; rw [idxF]; split; omega; split <;> omega
theorem uHV (p : List UInt8→Bool) (l : List (List UInt8)) : (if idxF p l < 0 then -1 else idxF p l)=idxF p l := by have := uIV p l; split <;> omega
theorem uHa (p : List UInt8→Bool) : ∀ l : List (List UInt8),decide (idxF p l ≥ 0)=l.any p
 | []=>by simp [idxF]
 | x :: r=>by
  have ih:=uHa p r
  rw [idxF,List.any_cons,← ih]
  by_cases h : p x=true
  ·rw [if_pos h,h]; simp
  ·rw [if_neg h]
   have h' : p x=false:=by simpa using h
   rw [h',Bool.false_or]
   split
   ·rename_i h1; simp; omega
   ·rename_i h1; rw [Bool.eq_iff_iff]; simp; omega
theorem uHM (l : List (List UInt8)) : Ctr sys 140 [xss l, .fn 50 []] [] (xi (idxF (fun s=>!uAM s) l)) none []:=by
 have hrl:=uAh l
 refine uAA Tryz.func140 rfl rfl rfl rfl rfl rfl ?_;refine uAe (uAb ?_);refine uAa rfl rfl rfl (uAd rfl gU) ?_;refine uAf ?_;refine uAe ?_;refine uAe (uAb ?_);refine uAa rfl rfl rfl (uAc rfl gU) ?_;refine uAS rfl rfl rfl rfl rfl gU rfl rfl ?_ (fun hh=>by simp at hh); intro hlen;refine uAa rfl rfl rfl (uAc rfl gU) ?_;refine uAf ?_;refine uAx ?_;refine uA6 (ι:=Nat) { t:=[(0,_,_),(1,_,_),(7,_,_)],bx:=[],ow:=[] } (fun k=>[(8,true,xi (k : Int))]) (fun k=>[]) (fun k=>k≤l.length∧(if idxF (fun s=>!uAM s) (l.drop k) < 0 then -1 else idxF (fun s=>!uAM s) (l.drop k) + k)=idxF (fun s=>!uAM s) l) (fun k=>l.length - k) (0) (⟨by simp,(uHH _ _).trans (uHV _ _)⟩) (uAj (⟨sx rfl,sx rfl,sx rfl,sx rfl,trivial⟩) trivial trivial) ?_
 intro k hok
 dsimp only [List.cons_append,List.nil_append]
 obtain ⟨hk,hi⟩:=hok
 refine uAe (uAb ?_);refine uAa rfl rfl rfl (uAm rfl rfl gU gU rfl) ?_;refine uAf ?_;refine uAe ?_;refine uAn rfl (fun hc=>?_) (fun hc=>?_)
 ·try simp only [nn,uAh,T.rows_len,Fs.rows_len,Sp.rows_len,Gl.rows_len] at hc
  have hd:=uIx (k:=k) (l:=l) (by omega) hi
  refine uAq ?_;refine uAe ?_;refine uAx ?_;refine uAe (uAb ?_);refine uAa rfl rfl rfl (uAc rfl gU) ?_;refine uAa rfl rfl rfl (uAd rfl gU) ?_;refine uAf ?_;refine uAe (uAb ?_);refine uAa rfl rfl rfl (uAc rfl gU) ?_;refine uAa rfl rfl rfl (uAc rfl gU) ?_;refine uAa rfl rfl rfl (uAc rfl gU) ?_;refine uAa rfl rfl rfl (uAy rfl rfl gU gU rfl rfl rfl (fun hh=>uC3 (by first | omega | (simp at hh ⊢; omega)))) ?_;refine uAa rfl rfl rfl (uAR rfl gU rfl rfl rfl) ?_;refine uAw rfl rfl rfl rfl rfl rfl gU gU (uDb _) rfl ?_;refine uAf ?_;refine uAk (s:=⟨[(0,_,_),(1,_,_),(5,_,_),(7,_,_),(8,_,_),(16,_,_)],[],[],[]⟩) (uAj (⟨sx rfl,sx rfl,sx rfl,sx rfl,sx rfl,sx rfl,trivial⟩) trivial trivial) ?_;refine uAn rfl (fun hc2=>?_) (fun hc2=>?_)
  ·try simp only [nn,uAh,T.rows_len,Fs.rows_len,Sp.rows_len,Gl.rows_len] at hc2
   refine uAe (uAb ?_);refine uAa rfl rfl rfl (uAc rfl gU) ?_;refine uAa rfl rfl rfl (uAd rfl gU) ?_;refine uAf ?_;refine uAp ?_
   repeat (first | refine tR ?_ | refine bR ?_)
   refine uAv rfl ?_ trivial;exact uBj (hd.1 (by simpa using hc2)).symm
  ·try simp only [nn,uAh,T.rows_len,Fs.rows_len,Sp.rows_len,Gl.rows_len] at hc2
   refine uAq ?_;refine uAb ?_;refine uAa rfl rfl rfl (uAz rfl rfl gU gU rfl (IntWalk.i64_in _ (by omega))) ?_;refine uAa rfl rfl rfl (uAc rfl gU) ?_;refine uAf ?_;refine ⟨k + 1,?_,?_,uAj (⟨⟨_,rfl,?_⟩,⟨sx rfl,sx rfl,sx rfl,trivial⟩⟩) trivial trivial⟩
   all_goals (first | rfl | omega | exact ⟨by omega,hd.2 (by simpa using hc2)⟩)
 ·try simp only [nn,uAh,T.rows_len,Fs.rows_len,Sp.rows_len,Gl.rows_len] at hc
  refine uAQ ?_
  repeat (first | refine uAE ?_ | refine uAD ?_ | refine uAC rfl ?_)
  refine uAe (uAb ?_);refine uAa rfl rfl rfl (uAd rfl gU) ?_;refine uAf ?_;refine uAp ?_
  repeat (first | refine tR ?_ | refine bR ?_)
  refine uAv rfl ?_ trivial;exact uBj (uJF (by omega) hi).symm
theorem uE3 (l : List (List UInt8)) : Ctr sys 102 [xss l, .fn 50 []] [] (xb (l.any fun s=>!uAM s)) none []:=by
 refine uAA Tryz.func102 rfl rfl rfl rfl rfl rfl ?_;refine uAe (uAb ?_);refine uAa rfl rfl rfl (uAd rfl gU) ?_;refine uAf ?_;refine uAe (uAb ?_);refine uAa rfl rfl rfl (uAc rfl gU) ?_;refine uAa rfl rfl rfl (uAc rfl gU) ?_;refine uAw rfl rfl rfl rfl rfl rfl gU gU (uHM _) rfl ?_;refine uAa rfl rfl rfl (uAm rfl rfl gU gU rfl) ?_;refine uAa rfl rfl rfl (uAd rfl gU) ?_;refine uAf ?_;refine uAp ?_
 repeat (first | refine tR ?_ | refine bR ?_)
 refine uAv rfl ?_ trivial;exact uCG (uHa _ l)
theorem uGF (l : List (List UInt8)) : (l.any fun s=>!uAM s) = !(l.all uAM):=by
 induction l with
 | nil=>rfl
 | cons x r ih=>rw [List.any_cons,List.all_cons,ih,Bool.not_and]
theorem uL4 (n : Nar) : Ctr sys 49 [xn n] [] (xi (uDY uAM n)) none []:=by
 have h1:=uAh n.roles
 have h2:=uAh n.tags
 have h3:=Fs.rows_len n.fresh
 have h4:=Sp.rows_len n.steps
 have h5:=Gl.rows_len n.goals
 refine uAA Tryz.func49 rfl rfl rfl rfl rfl rfl ?_;refine uAe (uAb ?_);refine uAr rfl (uAX rfl rfl rfl rfl) ?_;refine uAa rfl rfl rfl (uAd rfl gU) ?_;refine uAf ?_;refine uAe ?_;refine uAx ?_;refine uAe (uAb ?_);refine uAa rfl rfl rfl (uAg rfl gU rfl rfl) ?_;refine uAa rfl rfl rfl (uAl rfl gU rfl rfl rfl rfl) ?_;refine uAw rfl rfl rfl rfl rfl rfl gU gU (uDb _) rfl ?_;refine uAa rfl rfl rfl (uAd rfl gU) ?_;refine uAf ?_;refine uAk (s:=⟨[(1,_,_),(5,_,_)],[(.l 1,_)],[],[]⟩) (uAj (⟨sx rfl,sx rfl,trivial⟩) (⟨sx rfl,trivial⟩) trivial) ?_;refine uAn rfl (fun hc=>?_) (fun hc=>?_)
 ·try simp only [nn,uAh,T.rows_len,Fs.rows_len,Sp.rows_len,Gl.rows_len] at hc
  refine uAe (uAb ?_);refine uAa rfl rfl rfl (uAd rfl gU) ?_;refine uAf ?_;refine uAp ?_
  repeat (first | refine tR ?_ | refine bR ?_)
  refine uAv rfl ?_ trivial
  (rw [uDY,if_pos (by simpa using hc)]; rfl)
 ·try simp only [nn,uAh,T.rows_len,Fs.rows_len,Sp.rows_len,Gl.rows_len] at hc
  have hn : uAM n.name=true:=by simpa using hc
  have e1 : uDY uAM n=if cntE n≠0 then cntE n else if n.roles.all uAM=false then 2 else if errs (frE uAM) n.fresh≠0 then errs (frE uAM) n.fresh else if n.tags.all uAM=false then 2 else 0:=by rw [uDY,if_neg (by rw [hn]; simp)]
  refine uAe (uAb ?_);refine uAa rfl rfl rfl (uAg rfl gU rfl rfl) ?_;refine uAa rfl rfl rfl (uAl rfl gU rfl rfl rfl rfl) ?_;refine uAS rfl rfl rfl rfl rfl gU rfl rfl ?_ (fun hh=>by simp at hh); intro hlen;refine uAa rfl rfl rfl (uAm rfl rfl gU gU rfl) ?_;refine uAa rfl rfl rfl (uAd rfl gU) ?_;refine uAf ?_;refine uAk (s:=⟨[(1,_,_),(9,_,_)],[(.l 1,_)],[],[]⟩) (uAj (⟨sx rfl,sx rfl,trivial⟩) (⟨sx rfl,trivial⟩) trivial) ?_;refine uAn rfl (fun hc2=>?_) (fun hc2=>?_)
  ·try simp only [nn,uAh,T.rows_len,Fs.rows_len,Sp.rows_len,Gl.rows_len] at hc2
   have : cntE n=8:=by rw [cntE,if_pos (by omega)]
   refine uAe (uAb ?_);refine uAa rfl rfl rfl (uAd rfl gU) ?_;refine uAf ?_;refine uAp ?_
   repeat (first | refine tR ?_ | refine bR ?_)
   refine uAv rfl ?_ trivial
   (rw [e1,this]; rfl)
  ·try simp only [nn,uAh,T.rows_len,Fs.rows_len,Sp.rows_len,Gl.rows_len] at hc2
   refine uAe (uAb ?_);refine uAa rfl rfl rfl (uAg rfl gU rfl rfl) ?_;refine uAa rfl rfl rfl (uAl rfl gU rfl rfl rfl rfl) ?_;refine uAS rfl rfl rfl rfl rfl gU rfl rfl ?_ (fun hh=>by simp at hh); intro hlen;refine uAa rfl rfl rfl (uAm rfl rfl gU gU rfl) ?_;refine uAa rfl rfl rfl (uAc rfl gU) ?_;refine uAa rfl rfl rfl (uAg rfl gU rfl rfl) ?_;refine uAa rfl rfl rfl (uAl rfl (fun hh=>hh) rfl rfl rfl rfl) ?_;refine uAa rfl rfl rfl (uBa rfl (fun hh=>hh) rfl rfl) ?_;refine uAa rfl rfl rfl (uAm rfl rfl (fun hh=>hh) gU rfl) ?_;refine uAa rfl rfl rfl (uAJ rfl rfl gU (fun _ hi=>gP rfl hi)) ?_;refine uAa rfl rfl rfl (uAc rfl gU) ?_;refine uAa rfl rfl rfl (uAg rfl gU rfl rfl) ?_;refine uBq (s:=⟨[(1,_,_),(25,_,_),(26,_,_)],[(.l 1,_)],[],[]⟩) (uAj (⟨sx rfl,sx rfl,sx rfl,trivial⟩) (⟨sx rfl,trivial⟩) trivial) ?_;refine uAa rfl rfl rfl (uAl rfl (fun hh=>hh) rfl rfl rfl rfl) ?_;refine uAa rfl rfl rfl (uBa rfl (fun hh=>hh) rfl rfl) ?_;refine uAa rfl rfl rfl (uAm rfl rfl (fun hh=>hh) gU rfl) ?_;refine uAa rfl rfl rfl (uAJ rfl rfl gU (fun _ hi=>gP rfl hi)) ?_;refine uAa rfl rfl rfl (uAd rfl gU) ?_;refine uAf ?_;refine uAk (s:=⟨[(1,_,_),(14,_,_)],[(.l 1,_)],[],[]⟩) (uAj (⟨sx rfl,sx rfl,trivial⟩) (⟨sx rfl,trivial⟩) trivial) ?_
   refine uAn rfl (fun hc3=>?_) (fun hc3=>?_)
   ·try simp only [nn,uAh,T.rows_len,Fs.rows_len,Sp.rows_len,Gl.rows_len] at hc3
    have : cntE n=3:=by rw [cntE,if_neg (by omega),if_pos (by omega)]
    refine uAe (uAb ?_);refine uAa rfl rfl rfl (uAd rfl gU) ?_;refine uAf ?_;refine uAp ?_
    repeat (first | refine tR ?_ | refine bR ?_)
    refine uAv rfl ?_ trivial
    (rw [e1,this]; rfl)
   ·try simp only [nn,uAh,T.rows_len,Fs.rows_len,Sp.rows_len,Gl.rows_len] at hc3
    refine uAe (uAb ?_);refine uAa rfl rfl rfl (uAg rfl gU rfl rfl) ?_;refine uAa rfl rfl rfl (uAl rfl gU rfl rfl rfl rfl) ?_;refine uAS rfl rfl rfl rfl rfl gU rfl rfl ?_ (fun hh=>by simp at hh); intro hlen;refine uAa rfl rfl rfl (uAm rfl rfl gU gU rfl) ?_;refine uAa rfl rfl rfl (uAd rfl gU) ?_;refine uAf ?_;refine uAk (s:=⟨[(1,_,_),(31,_,_)],[(.l 1,_)],[],[]⟩) (uAj (⟨sx rfl,sx rfl,trivial⟩) (⟨sx rfl,trivial⟩) trivial) ?_;refine uAn rfl (fun hc4=>?_) (fun hc4=>?_)
    ·try simp only [nn,uAh,T.rows_len,Fs.rows_len,Sp.rows_len,Gl.rows_len] at hc4
     have : cntE n=8:=by rw [cntE,if_neg (by omega),if_neg (by omega),if_pos (by omega)]
     refine uAe (uAb ?_);refine uAa rfl rfl rfl (uAd rfl gU) ?_;refine uAf ?_;refine uAp ?_
     repeat (first | refine tR ?_ | refine bR ?_)
     refine uAv rfl ?_ trivial
     (rw [e1,this]; rfl)
    ·try simp only [nn,uAh,T.rows_len,Fs.rows_len,Sp.rows_len,Gl.rows_len] at hc4
     refine uAe (uAb ?_);refine uAa rfl rfl rfl (uAg rfl gU rfl rfl) ?_;refine uAa rfl rfl rfl (uAl rfl gU rfl rfl rfl rfl) ?_;refine uAS rfl rfl rfl rfl rfl gU rfl rfl ?_ (fun hh=>by simp at hh); intro hlen;refine uAa rfl rfl rfl (uAm rfl rfl gU gU rfl) ?_;refine uAa rfl rfl rfl (uAc rfl gU) ?_;refine uAa rfl rfl rfl (uAg rfl gU rfl rfl) ?_;refine uAa rfl rfl rfl (uAl rfl (fun hh=>hh) rfl rfl rfl rfl) ?_;refine uAa rfl rfl rfl (uBa rfl (fun hh=>hh) rfl rfl) ?_;refine uAa rfl rfl rfl (uAm rfl rfl (fun hh=>hh) gU rfl) ?_;refine uAa rfl rfl rfl (uAJ rfl rfl gU (fun _ hi=>gP rfl hi)) ?_;refine uAa rfl rfl rfl (uAd rfl gU) ?_;refine uAf ?_;refine uAk (s:=⟨[(1,_,_),(36,_,_)],[(.l 1,_)],[],[]⟩) (uAj (⟨sx rfl,sx rfl,trivial⟩) (⟨sx rfl,trivial⟩) trivial) ?_;refine uAn rfl (fun hc5=>?_) (fun hc5=>?_)
     ·try simp only [nn,uAh,T.rows_len,Fs.rows_len,Sp.rows_len,Gl.rows_len] at hc5
      have : cntE n=3:=by rw [cntE,if_neg (by omega),if_neg (by omega),if_neg (by omega),if_pos (by omega)]
      refine uAe (uAb ?_);refine uAa rfl rfl rfl (uAd rfl gU) ?_;refine uAf ?_;refine uAp ?_
      repeat (first | refine tR ?_ | refine bR ?_)
      refine uAv rfl ?_ trivial
      (rw [e1,this]; rfl)
     ·try simp only [nn,uAh,T.rows_len,Fs.rows_len,Sp.rows_len,Gl.rows_len] at hc5
      have : cntE n=0:=by rw [cntE,if_neg (by omega),if_neg (by omega),if_neg (by omega),if_neg (by omega)]
      rw [if_neg (by rw [this]; simp)] at e1
      refine uAe (uAb ?_);refine uAa rfl rfl rfl (uAg rfl gU rfl rfl) ?_;refine uAa rfl rfl rfl (uAl rfl gU rfl rfl rfl rfl) ?_;refine uAw rfl rfl rfl rfl rfl rfl gU gU (uE3 _) rfl ?_;refine uAa rfl rfl rfl (uAd rfl gU) ?_;refine uAf ?_;refine uAn rfl (fun hc6=>?_) (fun hc6=>?_)
      ·rw [uGF] at hc6
       refine uAe (uAb ?_);refine uAa rfl rfl rfl (uAd rfl gU) ?_;refine uAf ?_;refine uAp ?_
       repeat (first | refine tR ?_ | refine bR ?_)
       refine uAv rfl ?_ trivial
       (rw [e1,if_pos (by simpa using hc6)]; rfl)
      ·rw [uGF] at hc6
       rw [if_neg (by simpa using hc6)] at e1
       refine uAq ?_;refine uAe ?_;refine uAe (uAb ?_);refine uAa rfl rfl rfl (uAg rfl gU rfl rfl) ?_;refine uAa rfl rfl rfl (uAl rfl gU rfl rfl rfl rfl) ?_;refine uAS rfl rfl rfl rfl rfl gU rfl rfl ?_ (fun hh=>by simp at hh); intro hlen;refine uAa rfl rfl rfl (uAc rfl gU) ?_;refine uAf ?_;refine uAk (s:=⟨[(1,_,_),(52,_,_),(53,_,_),(54,_,_)],[(.l 1,_)],[],[]⟩) (uAj (⟨sx rfl,sx rfl,sx rfl,sx rfl,trivial⟩) (⟨sx rfl,trivial⟩) trivial) ?_;refine uAx ?_;refine uA6 (ι:=Nat) { t:=[(1,_,_),(52,_,_),(53,_,_)],bx:=[(.l 1,_)],ow:=[] } (fun k=>[(54,true,xi (k : Int))]) (fun k=>[]) (fun k=>k≤n.fresh.length∧errs (frE uAM) (n.fresh.drop k)=errs (frE uAM) n.fresh) (fun k=>n.fresh.length - k) (0) (by simp) (uAj (⟨sx rfl,sx rfl,sx rfl,sx rfl,trivial⟩) (⟨sx rfl,trivial⟩) trivial) ?_
       intro k hok
       dsimp only [List.cons_append,List.nil_append]
       obtain ⟨hk,hi⟩:=hok
       refine uAe (uAb ?_);refine uAa rfl rfl rfl (uAm rfl rfl gU gU rfl) ?_;refine uAf ?_;refine uAe ?_;refine uAn rfl (fun hc7=>?_) (fun hc7=>?_)
       ·try simp only [nn,uAh,T.rows_len,Fs.rows_len,Sp.rows_len,Gl.rows_len] at hc7
        have hd:=uCy (d:=default) (k:=k) (l:=n.fresh) (by omega) hi
        have hf : frE uAM (n.fresh.getD k default)=if uAM (n.fresh.getD k default).role=false∨uAM (n.fresh.getD k default).name=false then 2 else if (n.fresh.getD k default).sort < 2∨4 < (n.fresh.getD k default).sort then 10 else 0:=rfl
        refine uAq ?_;refine uAe ?_;refine uAx ?_;refine uAe (uAb ?_);refine uAa rfl rfl rfl (uAy rfl rfl gU gU rfl rfl rfl (fun hh=>Fs.rows_at (by first | omega | (simp at hh ⊢; omega)))) ?_;refine uAa rfl rfl rfl (uAP rfl gU rfl rfl rfl rfl) ?_;refine uAr rfl (uAG rfl rfl rfl) ?_;refine uAr rfl (uAt rfl rfl rfl rfl rfl rfl rfl) ?_;refine uAf ?_;refine uAx ?_;refine uAe (uAb ?_);refine uAa rfl rfl rfl (uAg rfl gU rfl rfl) ?_;refine uAa rfl rfl rfl (uAl rfl gU rfl rfl rfl rfl) ?_;refine uAw rfl rfl rfl rfl rfl rfl gU gU (uDb _) rfl ?_;refine uAa rfl rfl rfl (uAc rfl gU) ?_;refine uAa rfl rfl rfl (uAg rfl gU rfl rfl) ?_;refine uAa rfl rfl rfl (uAl rfl (fun hh=>hh) rfl rfl rfl rfl) ?_;refine uAw rfl rfl rfl rfl rfl rfl gU (fun hh=>gA ((fun hh=>hh) hh) (rfl)) (uDb _) rfl ?_;refine uAa rfl rfl rfl (uAJ rfl rfl gU (fun _ hi=>gP rfl hi)) ?_;refine uBq (s:=⟨[(1,_,_),(4,_,_),(52,_,_),(53,_,_),(54,_,_),(66,_,_)],[(.l 1,_),(.l 4,_)],[],[]⟩) (uAj (⟨sx rfl,sx rfl,sx rfl,sx rfl,sx rfl,sx rfl,trivial⟩) (⟨sx rfl,sx rfl,trivial⟩) trivial) ?_;refine uAa rfl rfl rfl (uAd rfl gU) ?_;refine uAf ?_;refine uAn rfl (fun hc8=>?_) (fun hc8=>?_)
        ·try simp only [nn,uAh,T.rows_len,Fs.rows_len,Sp.rows_len,Gl.rows_len] at hc8
         rw [if_pos (by grind)] at hf
         have := hd.1 (by rw [hf]; simp)
         refine uAe (uAb ?_);refine uAa rfl rfl rfl (uAd rfl gU) ?_;refine uAf ?_;refine uAp ?_
         repeat (first | refine tR ?_ | refine bR ?_)
         refine uAv rfl ?_ trivial
         (rw [e1,this,hf]; rfl)
        ·try simp only [nn,uAh,T.rows_len,Fs.rows_len,Sp.rows_len,Gl.rows_len] at hc8
         rw [if_neg (by grind)] at hf
         refine uAe (uAb ?_);refine uAa rfl rfl rfl (uAg rfl gU rfl rfl) ?_;refine uAa rfl rfl rfl (uAl rfl gU rfl rfl rfl rfl) ?_;refine uAa rfl rfl rfl (uAm rfl rfl gU gU rfl) ?_;refine uAa rfl rfl rfl (uAc rfl gU) ?_;refine uAa rfl rfl rfl (uAg rfl gU rfl rfl) ?_;refine uAa rfl rfl rfl (uAl rfl (fun hh=>hh) rfl rfl rfl rfl) ?_;refine uAa rfl rfl rfl (uAm rfl rfl (fun hh=>hh) gU rfl) ?_;refine uAa rfl rfl rfl (uAJ rfl rfl gU (fun _ hi=>gP rfl hi)) ?_;refine uAa rfl rfl rfl (uAd rfl gU) ?_;refine uAf ?_;refine uAk (s:=⟨[(1,_,_),(52,_,_),(53,_,_),(54,_,_),(67,_,_)],[(.l 1,_)],[],[]⟩) (uAj (⟨sx rfl,sx rfl,sx rfl,sx rfl,sx rfl,trivial⟩) (⟨sx rfl,trivial⟩) trivial) ?_;refine uAn rfl (fun hc9=>?_) (fun hc9=>?_)
         ·try simp only [nn,uAh,T.rows_len,Fs.rows_len,Sp.rows_len,Gl.rows_len] at hc9
          rw [if_pos (by omega)] at hf
          have := hd.1 (by rw [hf]; simp)
          refine uAe (uAb ?_);refine uAa rfl rfl rfl (uAd rfl gU) ?_;refine uAf ?_;refine uAp ?_
          repeat (first | refine tR ?_ | refine bR ?_)
          refine uAv rfl ?_ trivial
          (rw [e1,this,hf]; rfl)
         ·try simp only [nn,uAh,T.rows_len,Fs.rows_len,Sp.rows_len,Gl.rows_len] at hc9
          rw [if_neg (by omega)] at hf
          refine uAq ?_;refine uAb ?_;refine uAa rfl rfl rfl (uAz rfl rfl gU gU rfl (IntWalk.i64_in _ (by omega))) ?_;refine uAa rfl rfl rfl (uAc rfl gU) ?_;refine uAf ?_;refine ⟨k + 1,?_,?_,uAj (⟨⟨_,rfl,?_⟩,⟨sx rfl,sx rfl,sx rfl,trivial⟩⟩) (⟨sx rfl,trivial⟩) trivial⟩
          all_goals (first | rfl | omega | exact ⟨by omega,hd.2 hf⟩)
       ·try simp only [nn,uAh,T.rows_len,Fs.rows_len,Sp.rows_len,Gl.rows_len] at hc7
        have hz:=uDI (by omega) hi
        rw [hz] at e1
        rw [if_neg (by simp)] at e1
        refine uAQ ?_
        repeat (first | refine uAE ?_ | refine uAD ?_ | refine uAC rfl ?_)
        refine uAe ?_;refine uAe (uAb ?_);refine uAa rfl rfl rfl (uAg rfl gU rfl rfl) ?_;refine uAa rfl rfl rfl (uAl rfl gU rfl rfl rfl rfl) ?_;refine uAw rfl rfl rfl rfl rfl rfl gU gU (uE3 _) rfl ?_;refine uAf ?_;refine uAn rfl (fun hc8=>?_) (fun hc8=>?_)
        ·rw [uGF] at hc8
         refine uAe (uAb ?_);refine uAa rfl rfl rfl (uAd rfl gU) ?_;refine uAf ?_;refine uAp ?_
         repeat (first | refine tR ?_ | refine bR ?_)
         refine uAv rfl ?_ trivial
         (rw [e1,if_pos (by simpa using hc8)]; rfl)
        ·rw [uGF] at hc8
         refine uAq ?_;refine uAe (uAb ?_);refine uAa rfl rfl rfl (uAd rfl gU) ?_;refine uAf ?_;refine uAp ?_
         repeat (first | refine tR ?_ | refine bR ?_)
         refine uAv rfl ?_ trivial
         (rw [e1,if_neg (by simpa using hc8)]; rfl)
theorem uFa (n : Nar) (hs : ∀ s ∈ n.steps,s.msg.size≤900000) (hg : ∀ g ∈ n.goals,T.sizes g.data≤900000) : Ctr sys 14 [xn n] [] (xi (narE uAM n)) none []:=by
 have h4:=Sp.rows_len n.steps
 have h5:=Gl.rows_len n.goals
 refine uAA Tryz.func14 rfl rfl rfl rfl rfl rfl ?_;refine uAe (uAb ?_);refine uAr rfl (uAX rfl rfl rfl rfl) ?_;refine uAa rfl rfl rfl (uAd rfl gU) ?_;refine uAf ?_;refine uAe ?_;refine uAe (uAb ?_);refine uAa rfl rfl rfl (uAo rfl gU rfl rfl rfl rfl rfl) ?_;refine uAw rfl rfl rfl rfl rfl rfl gU gU (uL4 _) rfl ?_;refine uAa rfl rfl rfl (uAd rfl gU) ?_;refine uAf ?_;refine uAk (s:=⟨[(1,_,_),(3,_,_)],[(.l 1,_)],[],[]⟩) (uAj (⟨sx rfl,sx rfl,trivial⟩) (⟨sx rfl,trivial⟩) trivial) ?_;refine uAe (uAb ?_);refine uAa rfl rfl rfl (uAc rfl gU) ?_;refine uAa rfl rfl rfl (uAm rfl rfl gU gU rfl) ?_;refine uAf ?_;refine uAn rfl (fun hc=>?_) (fun hc=>?_)
 ·try simp only [nn,uAh,T.rows_len,Fs.rows_len,Sp.rows_len,Gl.rows_len] at hc
  refine uAe (uAb ?_);refine uAa rfl rfl rfl (uAc rfl gU) ?_;refine uAa rfl rfl rfl (uAd rfl gU) ?_;refine uAf ?_;refine uAp ?_
  repeat (first | refine tR ?_ | refine bR ?_)
  refine uAv rfl ?_ trivial
  (rw [narE,if_pos hc]; rfl)
 ·try simp only [nn,uAh,T.rows_len,Fs.rows_len,Sp.rows_len,Gl.rows_len] at hc
  have e1 : narE uAM n=if errs (spE uAM) n.steps≠0 then errs (spE uAM) n.steps else errs (uCr uAM) n.goals:=by rw [narE,if_neg (by simpa using hc)]
  refine uAq ?_;refine uAe ?_;refine uAe (uAb ?_);refine uAa rfl rfl rfl (uAg rfl gU rfl rfl) ?_;refine uAa rfl rfl rfl (uAl rfl gU rfl rfl rfl rfl) ?_;refine uAS rfl rfl rfl rfl rfl gU rfl rfl ?_ (fun hh=>by simp at hh); intro hlen;refine uAa rfl rfl rfl (uAc rfl gU) ?_;refine uAf ?_;refine uAk (s:=⟨[(1,_,_),(16,_,_),(17,_,_),(18,_,_)],[(.l 1,_)],[],[]⟩) (uAj (⟨sx rfl,sx rfl,sx rfl,sx rfl,trivial⟩) (⟨sx rfl,trivial⟩) trivial) ?_;refine uAx ?_;refine uA6 (ι:=Nat) { t:=[(1,_,_),(16,_,_),(17,_,_)],bx:=[(.l 1,_)],ow:=[] } (fun k=>[(18,true,xi (k : Int))]) (fun k=>[]) (fun k=>k≤n.steps.length∧errs (spE uAM) (n.steps.drop k)=errs (spE uAM) n.steps) (fun k=>n.steps.length - k) (0) (by simp) (uAj (⟨sx rfl,sx rfl,sx rfl,sx rfl,trivial⟩) (⟨sx rfl,trivial⟩) trivial) ?_
  intro k hok
  dsimp only [List.cons_append,List.nil_append]
  obtain ⟨hk,hi⟩:=hok
  refine uAe (uAb ?_);refine uAa rfl rfl rfl (uAm rfl rfl gU gU rfl) ?_;refine uAf ?_;refine uAe ?_;refine uAn rfl (fun hc2=>?_) (fun hc2=>?_)
  ·try simp only [nn,uAh,T.rows_len,Fs.rows_len,Sp.rows_len,Gl.rows_len] at hc2
   have hlt : k < n.steps.length:=by omega
   have hd:=uCy (d:=default) (k:=k) (l:=n.steps) (by omega) hi
   have hm:=hs _ (uCC (d:=default) hlt)
   have hf : spE uAM (n.steps.getD k default)=if uAM (n.steps.getD k default).frm=false∨uAM (n.steps.getD k default).dst=false then 2 else msgE uAM (n.steps.getD k default).msg:=rfl
   refine uAq ?_;refine uAe ?_;refine uAx ?_;refine uAe (uAb ?_);refine uAa rfl rfl rfl (uAy rfl rfl gU gU rfl rfl rfl (fun hh=>Sp.rows_at (by first | omega | (simp at hh ⊢; omega)))) ?_;refine uAa rfl rfl rfl (uAP rfl gU rfl rfl rfl rfl) ?_;refine uAr rfl (uAG rfl rfl rfl) ?_;refine uAr rfl (uAt rfl rfl rfl rfl rfl rfl rfl) ?_;refine uAf ?_;refine uAe ?_;refine uAe (uAb ?_);refine uAa rfl rfl rfl (uAg rfl gU rfl rfl) ?_;refine uAa rfl rfl rfl (uAl rfl gU rfl rfl rfl rfl) ?_;refine uAw rfl rfl rfl rfl rfl rfl gU gU (uDb _) rfl ?_;refine uAa rfl rfl rfl (uAc rfl gU) ?_;refine uAa rfl rfl rfl (uAg rfl gU rfl rfl) ?_;refine uAa rfl rfl rfl (uAl rfl (fun hh=>hh) rfl rfl rfl rfl) ?_;refine uAw rfl rfl rfl rfl rfl rfl gU (fun hh=>gA ((fun hh=>hh) hh) (rfl)) (uDb _) rfl ?_;refine uAa rfl rfl rfl (uAJ rfl rfl gU (fun _ hi=>gP rfl hi)) ?_;refine uAf ?_;refine uAk (s:=⟨[(1,_,_),(5,_,_),(16,_,_),(17,_,_),(18,_,_),(29,_,_)],[(.l 1,_),(.l 5,_)],[],[]⟩) (uAj (⟨sx rfl,sx rfl,sx rfl,sx rfl,sx rfl,sx rfl,trivial⟩) (⟨sx rfl,sx rfl,trivial⟩) trivial) ?_;refine uAn rfl (fun hc3=>?_) (fun hc3=>?_)
   ·try simp only [nn,uAh,T.rows_len,Fs.rows_len,Sp.rows_len,Gl.rows_len] at hc3
    rw [if_pos (by grind)] at hf
    have := hd.1 (by rw [hf]; simp)
    refine uAe (uAb ?_);refine uAa rfl rfl rfl (uAd rfl gU) ?_;refine uAf ?_;refine uAp ?_
    repeat (first | refine tR ?_ | refine bR ?_)
    refine uAv rfl ?_ trivial
    (rw [e1,this,hf]; rfl)
   ·try simp only [nn,uAh,T.rows_len,Fs.rows_len,Sp.rows_len,Gl.rows_len] at hc3
    rw [if_neg (by grind)] at hf
    refine uAq ?_;refine uAe (uAb ?_);refine uAa rfl rfl rfl (uAg rfl gU rfl rfl) ?_;refine uAa rfl rfl rfl (uAo rfl gU rfl rfl rfl rfl rfl) ?_;refine uAw rfl rfl rfl rfl rfl rfl gU gU (uFJ (n.steps.getD k default).msg hm) rfl ?_;refine uAa rfl rfl rfl (uAd rfl gU) ?_;refine uAf ?_;refine uAe (uAb ?_);refine uAa rfl rfl rfl (uAc rfl gU) ?_;refine uAa rfl rfl rfl (uAm rfl rfl gU gU rfl) ?_;refine uAf ?_;refine uAk (s:=⟨[(1,_,_),(6,_,_),(16,_,_),(17,_,_),(18,_,_),(34,_,_)],[(.l 1,_)],[],[]⟩) (uAj (⟨sx rfl,sx rfl,sx rfl,sx rfl,sx rfl,sx rfl,trivial⟩) (⟨sx rfl,trivial⟩) trivial) ?_;refine uAn rfl (fun hc4=>?_) (fun hc4=>?_)
    ·try simp only [nn,uAh,T.rows_len,Fs.rows_len,Sp.rows_len,Gl.rows_len] at hc4
     have := hd.1 (by rw [hf]; exact hc4)
     refine uAe (uAb ?_);refine uAa rfl rfl rfl (uAc rfl gU) ?_;refine uAa rfl rfl rfl (uAd rfl gU) ?_;refine uAf ?_;refine uAp ?_
     repeat (first | refine tR ?_ | refine bR ?_)
     refine uAv rfl ?_ trivial
     (rw [e1,this,hf,if_pos hc4]; rfl)
    ·try simp only [nn,uAh,T.rows_len,Fs.rows_len,Sp.rows_len,Gl.rows_len] at hc4
     refine uAq ?_;refine uAb ?_;refine uAa rfl rfl rfl (uAz rfl rfl gU gU rfl (IntWalk.i64_in _ (by omega))) ?_;refine uAa rfl rfl rfl (uAc rfl gU) ?_;refine uAf ?_;refine ⟨k + 1,?_,?_,uAj (⟨⟨_,rfl,?_⟩,⟨sx rfl,sx rfl,sx rfl,trivial⟩⟩) (⟨sx rfl,trivial⟩) trivial⟩
     all_goals (first | rfl | omega | exact ⟨by omega,hd.2 (by rw [hf]; simpa using hc4)⟩)
  ·try simp only [nn,uAh,T.rows_len,Fs.rows_len,Sp.rows_len,Gl.rows_len] at hc2
   have hz:=uDI (by omega) hi
   rw [hz,if_neg (by simp)] at e1
   refine uAQ ?_
   repeat (first | refine uAE ?_ | refine uAD ?_ | refine uAC rfl ?_)
   refine uAe ?_;refine uAe (uAb ?_);refine uAa rfl rfl rfl (uAg rfl gU rfl rfl) ?_;refine uAa rfl rfl rfl (uAl rfl gU rfl rfl rfl rfl) ?_;refine uAS rfl rfl rfl rfl rfl gU rfl rfl ?_ (fun hh=>by simp at hh); intro hlen;refine uAa rfl rfl rfl (uAc rfl gU) ?_;refine uAf ?_;refine uAk (s:=⟨[(38,_,_),(39,_,_),(40,_,_)],[],[],[]⟩) (uAj (⟨sx rfl,sx rfl,sx rfl,trivial⟩) trivial trivial) ?_;refine uAx ?_;refine uA6 (ι:=Nat) { t:=[(38,_,_),(39,_,_)],bx:=[],ow:=[] } (fun k=>[(40,true,xi (k : Int))]) (fun k=>[]) (fun k=>k≤n.goals.length∧errs (uCr uAM) (n.goals.drop k)=errs (uCr uAM) n.goals) (fun k=>n.goals.length - k) (0) (by simp) (uAj (⟨sx rfl,sx rfl,sx rfl,trivial⟩) trivial trivial) ?_
   intro k hok2
   dsimp only [List.cons_append,List.nil_append]
   obtain ⟨hk2,hi2⟩:=hok2
   refine uAe (uAb ?_);refine uAa rfl rfl rfl (uAm rfl rfl gU gU rfl) ?_;refine uAf ?_;refine uAe ?_;refine uAn rfl (fun hc5=>?_) (fun hc5=>?_)
   ·try simp only [nn,uAh,T.rows_len,Fs.rows_len,Sp.rows_len,Gl.rows_len] at hc5
    have hlt : k < n.goals.length:=by omega
    have hd:=uCy (d:=default) (k:=k) (l:=n.goals) (by omega) hi2
    have hm:=hg _ (uCC (d:=default) hlt)
    refine uAq ?_;refine uAe ?_;refine uAx ?_;refine uAe (uAb ?_);refine uAa rfl rfl rfl (uAy rfl rfl gU gU rfl rfl rfl (fun hh=>Gl.rows_at (by first | omega | (simp at hh ⊢; omega)))) ?_;refine uAa rfl rfl rfl (uAP rfl gU rfl rfl rfl rfl) ?_;refine uAr rfl (uAG rfl rfl rfl) ?_;refine uAr rfl (uAt rfl rfl rfl rfl rfl rfl rfl) ?_;refine uAf ?_;refine uAe (uAb ?_);refine uAa rfl rfl rfl (uAo rfl gU rfl rfl rfl rfl rfl) ?_;refine uAw rfl rfl rfl rfl rfl rfl gU gU (uMv (n.goals.getD k default) hm) rfl ?_;refine uAa rfl rfl rfl (uAd rfl gU) ?_;refine uAf ?_;refine uAk (s:=⟨[(9,_,_),(38,_,_),(39,_,_),(40,_,_)],[],[],[]⟩) (uAj (⟨sx rfl,sx rfl,sx rfl,sx rfl,trivial⟩) trivial trivial) ?_;refine uAe (uAb ?_);refine uAa rfl rfl rfl (uAc rfl gU) ?_;refine uAa rfl rfl rfl (uAm rfl rfl gU gU rfl) ?_;refine uAf ?_;refine uAn rfl (fun hc6=>?_) (fun hc6=>?_)
    ·try simp only [nn,uAh,T.rows_len,Fs.rows_len,Sp.rows_len,Gl.rows_len] at hc6
     have := hd.1 hc6
     refine uAe (uAb ?_);refine uAa rfl rfl rfl (uAc rfl gU) ?_;refine uAa rfl rfl rfl (uAd rfl gU) ?_;refine uAf ?_;refine uAp ?_
     repeat (first | refine tR ?_ | refine bR ?_)
     refine uAv rfl ?_ trivial
     (rw [e1,this]; rfl)
    ·try simp only [nn,uAh,T.rows_len,Fs.rows_len,Sp.rows_len,Gl.rows_len] at hc6
     refine uAq ?_;refine uAb ?_;refine uAa rfl rfl rfl (uAz rfl rfl gU gU rfl (IntWalk.i64_in _ (by omega))) ?_;refine uAa rfl rfl rfl (uAc rfl gU) ?_;refine uAf ?_;refine ⟨k + 1,?_,?_,uAj (⟨⟨_,rfl,?_⟩,⟨sx rfl,sx rfl,trivial⟩⟩) trivial trivial⟩
     all_goals (first | rfl | omega | exact ⟨by omega,hd.2 (by simpa using hc6)⟩)
   ·try simp only [nn,uAh,T.rows_len,Fs.rows_len,Sp.rows_len,Gl.rows_len] at hc5
    have hz2:=uDI (by omega) hi2
    refine uAQ ?_
    repeat (first | refine uAE ?_ | refine uAD ?_ | refine uAC rfl ?_)
    refine uAe (uAb ?_);refine uAa rfl rfl rfl (uAd rfl gU) ?_;refine uAf ?_;refine uAp ?_
    repeat (first | refine tR ?_ | refine bR ?_)
    refine uAv rfl ?_ trivial
    (rw [e1,hz2]; rfl)
end Go.Proofs.YtnjjdbapadkomaaGreatDoor
namespace Go.Proofs.YtnjjdbapadkomaaGreatDoor
open Go Go.Abs
open Go.RowKit (Below)
theorem uJ7 : ∀ (L : List (List UInt8)),(L.map fun s : List UInt8=>(⟨s.toArray⟩ : ByteArray)).map (·.data.toList)=L
 | []=>rfl
 | s :: L=>by rw [List.map_cons,List.map_cons,uJ7 L]
theorem uD0 (L : List (List UInt8)) (sep : List UInt8) (hL : L.length≤2000000) (hsl : sep.length≤1000) (hj : (Lib.join L sep).length≤140737488355328) : Ctr sys 40 [xss L,xs sep] [] (xs (Lib.join L sep)) none []:=by
 refine uIa (v:=.string ⟨(Lib.join L sep).toArray⟩) ⟨_,Tryz.func40,by kernel_rfl,by kernel_rfl⟩ (fun w G vs hv hwf hgl=>?_) (fun w G=>CRep.s _ (by omega))
 match vs,hv with
 | [u,v],⟨h1,h2,_⟩ =>
  rw [XRep.str h2]
  have h1 : CRep w G.S (.sl 1 (strR L)) u:=h1
  have hnone : ∀ (a : Option Addr) (c : Nat),L=[]→Calls Tryz.prog 40 #[.slice a 0 c, .string ⟨sep.toArray⟩] w fun e w'=>e = .returned (.string ⟨(Lib.join L sep).toArray⟩)∧Below w.heap.size w w':=by
   intro a c hnil
   subst hnil
   refine (Any.strings_Join_none uLX uEn a c ⟨sep.toArray⟩ w).mono ?_
   rintro e w' ⟨he,hw⟩
   subst hw
   exact ⟨he,Below.refl _ _⟩
  generalize hes : strR L=es at h1
  cases h1 with
  | emp sz a=>exact hnone a 0 (by simpa [strR] using hes)
  | sl sz es blk off len cap vals hl hc hm hsz hcell hrep =>
   by_cases hnil : L=[]
   ·have : len=0:=by rw [← hl,← hes,hnil]; rfl
    subst this
    exact hnone _ cap hnil
   ·have hlen : len=L.length:=by rw [← hl,← hes,uAh]
    subst hlen
    have hpos : 0 < L.length:=List.length_pos_iff.2 hnil
    have hx : (L.map fun s : List UInt8=>(⟨s.toArray⟩ : ByteArray)).map (·.data.toList)=L:=uJ7 L
    have key:=Any.strings_Join uLX uEn blk off cap (L.map fun s : List UInt8=>(⟨s.toArray⟩ : ByteArray)) ⟨sep.toArray⟩ w (fun j x hj=>by
      rw [List.getElem?_map,Option.map_eq_some_iff] at hj
      obtain ⟨s,hs,rfl⟩:=hj
      have hjl:=(List.getElem?_eq_some_iff.1 hs).1
      obtain ⟨_,h5⟩:=hcell j 0 (by omega) (by omega)
      have hrow : es[j]? = some [.s s]:=by rw [← hes,strR,List.getElem?_map,hs]; rfl
      have h6:=hrep j _ 0 (.s s) hrow rfl
      have h7 : vals j 0 = .string ⟨s.toArray⟩:=XRep.str (G:=G) (w:=w) h6
      rw [show off + j=off + j * 1 + 0 by omega,h5,h7]) (by
      obtain ⟨_,h5⟩:=hcell 0 0 (by omega) (by omega)
      exact World.block_lt_of_cell? (a:=⟨blk,off + 0 * 1 + 0,none⟩) w h5) (by rw [List.length_map]; omega) (by rw [List.length_map]; omega) (by rw [hx]; exact hj)
    rw [hx,List.length_map] at key
    exact key
theorem uOq (t : T) (s : List UInt8) : Ctr sys 137 [xm t,xs s] [] (xb (decide (t.kind=3) && decide (t.name=s))) none []:=by
 refine uAA Tryz.func137 rfl rfl rfl rfl rfl rfl ?_;refine uAe (uAb ?_);refine uAr rfl (uAX rfl rfl rfl rfl) ?_;refine uAa rfl rfl rfl (uAd rfl gU) ?_;refine uAf ?_;refine uAe (uAb ?_);refine uAa rfl rfl rfl (uAg rfl gU rfl rfl) ?_;refine uAa rfl rfl rfl (uAl rfl gU rfl rfl rfl rfl) ?_;refine uAa rfl rfl rfl (uAm rfl rfl gU gU rfl) ?_;refine uAa rfl rfl rfl (uAc rfl gU) ?_;refine uAa rfl rfl rfl (uAg rfl gU rfl rfl) ?_;refine uAa rfl rfl rfl (uAl rfl (fun hh=>hh) rfl rfl rfl rfl) ?_;refine uAa rfl rfl rfl (uAc rfl gU) ?_;refine uAa rfl rfl rfl (uA9 rfl rfl (fun hh=>hh) (fun hh=>hh) rfl) ?_;refine uAa rfl rfl rfl (uAV rfl rfl gU (fun _ hi=>gP rfl hi)) ?_;refine uAa rfl rfl rfl (uAd rfl gU) ?_;refine uAf ?_;refine uAp ?_
 repeat (first | refine tR ?_ | refine bR ?_)
 refine uAv rfl ?_ trivial;refine uCG ?_
 rw [Bool.eq_iff_iff]; simp
theorem uEO (l : List T) (t : T) : X.v (.c (.sl 4 (T.rows l++[t.cells])))=xl (l++[t]):=by simp [xl,T.rows_eq]
theorem uIL (t : T) (h : t.size≤900000) : Ctr sys 94 [xm t] [] (xl (untE t)) none []:=by
 refine uAA Tryz.func94 rfl rfl rfl rfl rfl rfl ?_;refine uAe (uAb ?_);refine uAr rfl (uAX rfl rfl rfl rfl) ?_;refine uAr rfl (uBy (.inr rfl) rfl rfl) ?_;refine uAf ?_;refine uAe (uAb ?_);refine uAr rfl (uBy (.inr rfl) rfl rfl) ?_;refine uAf ?_;refine uAe ?_;refine uAx ?_;refine uA6 (ι:=List T × T) { t:=[(1,_,_)],bx:=[],ow:=[(.t 3,_)] } (fun p=>[(3,true,xl p.1)]) (fun p=>[((.l 1),p.2.cells)]) (fun p=>p.1++untE p.2=untE t∧p.1.length + p.2.size≤t.size) (fun p=>p.2.size) (([],t)) (⟨rfl,by simp⟩) (uAj (⟨sx rfl,sx rfl,trivial⟩) (⟨sx rfl,trivial⟩) (⟨rfl,trivial⟩)) ?_
 intro p hok
 dsimp only [List.cons_append,List.nil_append] at *
 obtain ⟨l,u⟩:=p
 dsimp only at hok ⊢
 obtain ⟨hi,hl⟩:=hok
 have hrl:=T.rows_len l
 have hrk:=T.rows_len u.kids
 have hu:=uIK u
 refine uAe ?_;refine uAe (uAb ?_);refine uAa rfl rfl rfl (uAo rfl gU rfl rfl rfl rfl rfl) ?_;refine uAw rfl rfl rfl rfl rfl rfl gU gU (uOq _ _) rfl ?_;refine uAa rfl rfl rfl (uAc rfl gU) ?_;refine uAa rfl rfl rfl (uAg rfl gU rfl rfl) ?_;refine uAa rfl rfl rfl (uAl rfl (fun hh=>hh) rfl rfl rfl rfl) ?_;refine uAa rfl rfl rfl (uBa rfl (fun hh=>hh) rfl rfl) ?_;refine uAa rfl rfl rfl (uAm rfl rfl (fun hh=>hh) gU rfl) ?_;refine uAa rfl rfl rfl (uAV rfl rfl gU (fun _ hi=>gP rfl hi)) ?_;refine uAf ?_;refine uAk (s:=⟨[(1,_,_),(3,_,_),(11,_,_)],[(.l 1,_)],[(.t 3,_)],[]⟩) (uAj (⟨sx rfl,sx rfl,sx rfl,trivial⟩) (⟨sx rfl,trivial⟩) (⟨rfl,trivial⟩)) ?_;refine uAn rfl (fun hc=>?_) (fun hc=>?_)
 ·try simp only [nn,uAh,T.rows_len,Fs.rows_len,Sp.rows_len,Gl.rows_len] at hc
  have hp : uDp u=true:=by simp only [uDp]; grind [wPair]
  have hps:=uCX hp
  have h0:=(u.kids.getD 0 default).size_pos
  have h1:=(u.kids.getD 1 default).size_pos
  have hk : u.kids.length=2:=by grind
  rw [if_pos hp] at hu
  refine uAq ?_;refine uAx ?_;refine uAe (uAb ?_);refine uAr rfl (uAL (.inl rfl) rfl rfl rfl) ?_;refine uAa rfl rfl rfl (uAg rfl gU rfl rfl) ?_;refine uAa rfl rfl rfl (uAl rfl gU rfl rfl rfl rfl) ?_;refine uAa rfl rfl rfl (uAy (j:=0) rfl rfl gU gU rfl rfl (by first | omega | (simp at hh ⊢; omega)) (fun hh=>T.rows_at (by first | omega | (simp at hh ⊢; omega)))) ?_;refine uAa rfl rfl rfl (uAP rfl gU rfl rfl rfl rfl) ?_;refine uAw rfl rfl rfl rfl rfl rfl gU gU (uGr (u.kids.getD 0 default) (by omega)) rfl ?_;refine uAH (xs:=[_]) rfl rfl rfl rfl rfl rfl rfl rfl rfl gU rfl ?_;refine uAr rfl (uA0 rfl rfl rfl rfl rfl rfl rfl (by first | omega | (simp only [List.length_append,List.length_singleton,T.rows_len]; omega)) (by first | omega | (simp only [List.length_append,List.length_singleton,T.rows_len]; omega))) ?_;refine uAr rfl (uAL (.inr rfl) rfl rfl rfl) ?_;refine uAf ?_;refine uAk (s:=⟨[(1,_,_),(3,_,_)],[(.l 1,_)],[(.t 3,_)],[]⟩) (uAj (⟨sx rfl,sx rfl,trivial⟩) (⟨sx rfl,trivial⟩) (⟨rfl,trivial⟩)) ?_;refine uAb ?_;refine uAa rfl rfl rfl (uAg rfl gU rfl rfl) ?_;refine uAa rfl rfl rfl (uAl rfl gU rfl rfl rfl rfl) ?_;refine uAa rfl rfl rfl (uAy (j:=1) rfl rfl gU gU rfl rfl (by first | omega | (simp at hh ⊢; omega)) (fun hh=>T.rows_at (by first | omega | (simp at hh ⊢; omega)))) ?_
  refine uAa rfl rfl rfl (uAP rfl gU rfl rfl rfl rfl) ?_;refine uAr rfl (uAt rfl rfl rfl rfl rfl rfl rfl) ?_;refine uAf ?_;refine ⟨(l++[u.kids.getD 0 default],u.kids.getD 1 default),?_,?_,uAj (⟨⟨_,rfl,?_⟩,⟨sx rfl,trivial⟩⟩) (⟨⟨_,rfl,?_⟩,trivial⟩) (⟨rfl,trivial⟩)⟩
  ·refine ⟨?_,?_⟩
   ·dsimp only; rw [← hi,hu]; simp
   ·simp only [List.length_append,List.length_singleton]; omega
  ·dsimp only; omega
  ·exact tx (uEO _ _)
  ·rfl
 ·try simp only [nn,uAh,T.rows_len,Fs.rows_len,Sp.rows_len,Gl.rows_len] at hc
  have hp : ¬uDp u=true:=by simp only [uDp]; grind [wPair]
  rw [if_neg hp] at hu
  have hus:=u.size_pos
  refine uAQ ?_
  repeat (first | refine uAE ?_ | refine uAD ?_ | refine uAC rfl ?_)
  refine uAe (uAb ?_);refine uAr rfl (uAL (.inl rfl) rfl rfl rfl) ?_;refine uAa rfl rfl rfl (uAo rfl gU rfl rfl rfl rfl rfl) ?_;refine uAw rfl rfl rfl rfl rfl rfl gU gU (uGr u (by omega)) rfl ?_;refine uAH (xs:=[_]) rfl rfl rfl rfl rfl rfl rfl rfl rfl gU rfl ?_;refine uAr rfl (uA0 rfl rfl rfl rfl rfl rfl rfl (by first | omega | (simp only [List.length_append,List.length_singleton,T.rows_len]; omega)) (by first | omega | (simp only [List.length_append,List.length_singleton,T.rows_len]; omega))) ?_;refine uAr rfl (uAL (.inr rfl) rfl rfl rfl) ?_;refine uAf ?_;refine uAp ?_
  repeat (first | refine tR ?_ | refine bR ?_)
  refine uAv rfl ?_ trivial
  (rw [← hi,hu]; exact uEO _ _)
theorem uJP {l : List T} {k : Nat} (h : k < l.length) : (l.take (k + 1)).map uCz=(l.take k).map uCz++[uCz (l.getD k default)]:=by rw [uER (d:=default) h,List.map_append]; rfl
theorem uGS (n : Nat) (ih : ∀ t : T,t.size≤n→okB t=true→Ctr sys 43 [xm t] [] (xs (uCz t)) none []) (l : List T) (hl : ∀ x ∈ l,x.size≤n) (ho : ∀ x ∈ l,okB x=true) (hs : T.sizes l≤900000) :
  Ctr sys 93 [xl l] [] (xs (uCS l)) none []:=by
 have hrl:=T.rows_len l
 have hls:=T.len_sizes l
 have hte:=uKb ho
 refine uAA Tryz.func93 rfl rfl rfl rfl rfl rfl ?_;refine uAe (uAb ?_);refine uAa rfl rfl rfl (uAd rfl gU) ?_;refine uAf ?_;refine uAe (uAb ?_);refine uAr rfl (uBy (.inr rfl) rfl rfl) ?_;refine uAf ?_;refine uAe ?_;refine uAe (uAb ?_);refine uAa rfl rfl rfl (uAc rfl gU) ?_;refine uAS rfl rfl rfl rfl rfl gU rfl rfl ?_ (fun hh=>by simp at hh); intro hlen;refine uAa rfl rfl rfl (uAc rfl gU) ?_;refine uAf ?_;refine uAk (s:=⟨[(3,_,_),(6,_,_),(7,_,_),(8,_,_)],[],[(.t 3,_)],[]⟩) (uAj (⟨sx rfl,sx rfl,sx rfl,sx rfl,trivial⟩) trivial (⟨rfl,trivial⟩)) ?_;refine uAx ?_;refine uA6 (ι:=Nat) { t:=[(6,_,_),(7,_,_)],bx:=[],ow:=[(.t 3,_)] } (fun k=>[(8,true,xi (k : Int)),(3,true,xss ((l.take k).map uCz))]) (fun k=>[]) (fun k=>k≤l.length) (fun k=>l.length - k) (0) (by simp) (uAj (⟨sx rfl,sx rfl,sx rfl,sx rfl,trivial⟩) trivial (⟨rfl,trivial⟩)) ?_
 intro k hok
 dsimp only [List.cons_append,List.nil_append]
 refine uAe (uAb ?_);refine uAa rfl rfl rfl (uAm rfl rfl gU gU rfl) ?_;refine uAf ?_;refine uAe ?_;refine uAn rfl (fun hc=>?_) (fun hc=>?_)
 ·try simp only [nn,uAh,T.rows_len,Fs.rows_len,Sp.rows_len,Gl.rows_len] at hc
  have hlt : k < l.length:=by omega
  refine uAq ?_;refine uAe ?_;refine uAx ?_;refine uAe (uAb ?_);refine uAa rfl rfl rfl (uAy rfl rfl gU gU rfl rfl rfl (fun hh=>T.rows_at (by first | omega | (simp at hh ⊢; omega)))) ?_;refine uAa rfl rfl rfl (uAP rfl gU rfl rfl rfl rfl) ?_;refine uAr rfl (uAG rfl rfl rfl) ?_;refine uAr rfl (uAt rfl rfl rfl rfl rfl rfl rfl) ?_;refine uAf ?_;refine uAb ?_;refine uAr rfl (uAL (.inl rfl) rfl rfl rfl) ?_;refine uAa rfl rfl rfl (uAo rfl gU rfl rfl rfl rfl rfl) ?_;refine uAw rfl rfl rfl rfl rfl rfl gU gU (ih (l.getD k default) (hl _ (uCC hlt)) (ho _ (uCC hlt))) rfl ?_;refine uAH (xs:=[_]) rfl rfl rfl rfl rfl rfl rfl rfl rfl gU rfl ?_;refine uAr rfl (uA0 rfl rfl rfl rfl rfl rfl rfl (by first | omega | (simp only [List.length_append,List.length_singleton,uAh,List.length_map,List.length_take]; omega)) (by first | omega | (simp only [List.length_append,List.length_singleton,uAh,List.length_map,List.length_take]; omega))) ?_;refine uAr rfl (uAL (.inr rfl) rfl rfl rfl) ?_;refine uAf ?_;refine uAk (s:=⟨[(3,_,_),(6,_,_),(7,_,_),(8,_,_)],[],[(.t 3,_)],[]⟩) (uAj (⟨sx rfl,sx rfl,sx rfl,sx rfl,trivial⟩) trivial (⟨rfl,trivial⟩)) ?_;refine uAb ?_;refine uAa rfl rfl rfl (uAz rfl rfl gU gU rfl (IntWalk.i64_in _ (by omega))) ?_;refine uAa rfl rfl rfl (uAc rfl gU) ?_
  refine uAf ?_;refine ⟨k + 1,?_,?_,uAj (⟨⟨_,rfl,?_⟩,⟨⟨_,rfl,?_⟩,⟨sx rfl,sx rfl,trivial⟩⟩⟩) trivial (⟨rfl,trivial⟩)⟩
  all_goals first | rfl | omega | exact tx ((uCn _ _).trans (by rw [uJP hlt]))
 ·try simp only [nn,uAh,T.rows_len,Fs.rows_len,Sp.rows_len,Gl.rows_len] at hc
  have : k=l.length:=by omega
  subst this
  rw [List.take_length]
  refine uAQ ?_
  repeat (first | refine uAE ?_ | refine uAD ?_ | refine uAC rfl ?_)
  refine uAe (uAb ?_);refine uAa rfl rfl rfl (uAc rfl gU) ?_;refine uAw rfl rfl rfl rfl rfl rfl gU gU (uD0 _ [44,32] (by rw [List.length_map]; omega) (by decide) (by show (uCS l).length≤_; omega)) rfl ?_;refine uAa rfl rfl rfl (uAd rfl gU) ?_;refine uAf ?_;refine uAp ?_
  repeat (first | refine tR ?_ | refine bR ?_)
  refine uAv rfl ?_ trivial
  rfl
theorem uMa : ∀ (n : Nat) (t : T),t.size≤n→n≤900000→okB t=true→Ctr sys 43 [xm t] [] (xs (uCz t)) none []:=by
 intro n
 induction n with
 | zero=>intro t h; have := t.size_pos; omega
 | succ n ih =>
  intro t ht hn ho
  have hse:=t.size_eq
  have hrl:=T.rows_len t.kids
  have hls:=T.len_sizes t.kids
  have hk:=(uG5 ho).1
  have hnl:=(uG5 ho).2
  have he:=uKk t
  have hle:=uI4 ho
  have ihh:=fun (x : T) (hx : x.size≤n) (hxo : okB x=true)=>ih x hx (by omega) hxo
  refine uAA Tryz.func43 rfl rfl rfl rfl rfl rfl ?_;refine uAe (uAb ?_);refine uAr rfl (uAX rfl rfl rfl rfl) ?_;refine uAa rfl rfl rfl (uAd rfl gU) ?_;refine uAf ?_;refine uAe ?_;refine uAe (uAb ?_);refine uAa rfl rfl rfl (uAg rfl gU rfl rfl) ?_;refine uAa rfl rfl rfl (uAl rfl gU rfl rfl rfl rfl) ?_;refine uAa rfl rfl rfl (uAm rfl rfl gU gU rfl) ?_;refine uAf ?_;refine uAk (s:=⟨[(1,_,_),(5,_,_)],[(.l 1,_)],[],[]⟩) (uAj (⟨sx rfl,sx rfl,trivial⟩) (⟨sx rfl,trivial⟩) trivial) ?_;refine uAn rfl (fun hc=>?_) (fun hc=>?_)
  ·try simp only [nn,uAh,T.rows_len,Fs.rows_len,Sp.rows_len,Gl.rows_len] at hc
   refine uAe (uAb ?_);refine uAa rfl rfl rfl (uAg rfl gU rfl rfl) ?_;refine uAa rfl rfl rfl (uAl rfl gU rfl rfl rfl rfl) ?_;refine uAa rfl rfl rfl (uAd rfl gU) ?_;refine uAf ?_;refine uAp ?_
   repeat (first | refine tR ?_ | refine bR ?_)
   refine uAv rfl ?_ trivial
   (rw [he,if_pos hc]; rfl)
  ·try simp only [nn,uAh,T.rows_len,Fs.rows_len,Sp.rows_len,Gl.rows_len] at hc
   rw [if_neg hc] at he
   refine uAq ?_;refine uAe ?_;refine uAe (uAb ?_);refine uAa rfl rfl rfl (uAg rfl gU rfl rfl) ?_;refine uAa rfl rfl rfl (uAl rfl gU rfl rfl rfl rfl) ?_;refine uAa rfl rfl rfl (uA9 rfl rfl gU gU rfl) ?_;refine uAa rfl rfl rfl (uAc rfl gU) ?_;refine uAa rfl rfl rfl (uAg rfl gU rfl rfl) ?_;refine uAa rfl rfl rfl (uAl rfl (fun hh=>hh) rfl rfl rfl rfl) ?_;refine uAa rfl rfl rfl (uBa rfl (fun hh=>hh) rfl rfl) ?_;refine uAa rfl rfl rfl (uAm rfl rfl (fun hh=>hh) gU rfl) ?_;refine uAa rfl rfl rfl (uAV rfl rfl gU (fun _ hi=>gP rfl hi)) ?_;refine uAf ?_;refine uAk (s:=⟨[(1,_,_),(16,_,_)],[(.l 1,_)],[],[]⟩) (uAj (⟨sx rfl,sx rfl,trivial⟩) (⟨sx rfl,trivial⟩) trivial) ?_;refine uAn rfl (fun hc2=>?_) (fun hc2=>?_)
   ·try simp only [nn,uAh,T.rows_len,Fs.rows_len,Sp.rows_len,Gl.rows_len] at hc2
    have hp : uDp t=true:=by simp only [uDp]; grind [wPair]
    rw [if_pos hp] at he
    have hus:=uFz hp
    have htl : (uCS (untE t)).length≤28 * t.size:=by rw [he] at hle; simp only [List.length_append,List.length_cons,List.length_nil] at hle; omega
    have htx := uGS n ihh (untE t) (fun x hx=>by have := uIN hp hx; omega) (uJb _ ho) (by omega)
    refine uAe (uAb ?_);refine uAa rfl rfl rfl (uAo rfl gU rfl rfl rfl rfl rfl) ?_;refine uAw rfl rfl rfl rfl rfl rfl gU gU (uIL _ (by omega)) rfl ?_;refine uAw rfl rfl rfl rfl rfl rfl gU gU (htx) rfl ?_;refine uAa rfl rfl rfl (uAO rfl rfl gU gU (by first | omega | (simp only [List.length_append,List.length_cons,List.length_nil]; omega))) ?_;refine uAa rfl rfl rfl (uAO rfl rfl gU gU (by first | omega | (simp only [List.length_append,List.length_cons,List.length_nil]; omega))) ?_;refine uAa rfl rfl rfl (uAd rfl gU) ?_;refine uAf ?_;refine uAp ?_
    repeat (first | refine tR ?_ | refine bR ?_)
    refine uAv rfl ?_ trivial
    (rw [he]; rfl)
   ·try simp only [nn,uAh,T.rows_len,Fs.rows_len,Sp.rows_len,Gl.rows_len] at hc2
    have hp : ¬uDp t=true:=by simp only [uDp]; grind [wPair]
    rw [if_neg hp] at he
    have htl : (uCS t.kids).length≤28 * t.size:=by rw [he] at hle; simp only [List.length_append,List.length_cons,List.length_nil] at hle; omega
    have htx := uGS n ihh t.kids (fun x hx=>by have := uFM hx; omega) (uJd ho) (by omega)
    refine uAq ?_;refine uAe ?_;refine awp_drawn' (by kernel_rfl) ?_;refine uAi rfl rfl rfl rfl (uAg rfl gU rfl rfl) ?_;refine uA3 rfl rfl rfl rfl rfl rfl rfl gU rfl rfl rfl rfl ?_;refine uAi rfl rfl rfl rfl (uAO rfl rfl gU gU (by first | omega | (simp only [List.length_append,List.length_cons,List.length_nil]; omega))) ?_;refine uAi rfl rfl rfl rfl (uAg rfl gU rfl rfl) ?_;refine uA3 rfl rfl rfl rfl rfl rfl rfl gU rfl rfl rfl rfl ?_;refine uAW rfl rfl rfl rfl rfl rfl rfl gU gU (htx) rfl ?_;refine uAi rfl rfl rfl rfl (uAO rfl rfl gU gU (by first | omega | (simp only [List.length_append,List.length_cons,List.length_nil]; omega))) ?_;refine uAi rfl rfl rfl rfl (uAO rfl rfl gU gU (by first | omega | (simp only [List.length_append,List.length_cons,List.length_nil]; omega))) ?_;refine uAi rfl rfl rfl rfl (uAd rfl gU) ?_;refine uA2 (by kernel_rfl) ?_;refine uAp ?_
    repeat (first | refine tR ?_ | refine bR ?_)
    refine uAv rfl ?_ trivial
    (rw [he]; rfl)
theorem uEf (t : T) (ht : t.size≤900000) (ho : okB t=true) : Ctr sys 43 [xm t] [] (xs (uCz t)) none []:=uMa _ t (Nat.le_refl _) ht ho
theorem uHr (l : List T) (hs : T.sizes l≤900000) (ho : ∀ x ∈ l,okB x=true) : Ctr sys 93 [xl l] [] (xs (uCS l)) none [] :=
 uGS 900000 (fun t h o=>uEf t h o) l (fun x hx=>by have := uG2 hx; omega) ho hs
def ftE (t : T) : List UInt8 × Int:=if uDG uAM t≠0 then ([],uDG uAM t) else (uCz t,0)
theorem uGC (t : T) (ht : t.size≤900000) : Ctr sys 21 [xm t] [] (xse (ftE t)) none []:=by
 refine uAA Tryz.func21 rfl rfl rfl rfl rfl rfl ?_;refine uAe (uAb ?_);refine uAr rfl (uAX rfl rfl rfl rfl) ?_;refine uAa rfl rfl rfl (uAd rfl gU) ?_;refine uAa rfl rfl rfl (uAd rfl gU) ?_;refine uAf ?_;refine uAe ?_;refine uAe (uAb ?_);refine uAa rfl rfl rfl (uAo rfl gU rfl rfl rfl rfl rfl) ?_;refine uAw rfl rfl rfl rfl rfl rfl gU gU (uEi _ (by omega)) rfl ?_;refine uAa rfl rfl rfl (uAd rfl gU) ?_;refine uAf ?_;refine uAk (s:=⟨[(1,_,_),(4,_,_)],[(.l 1,_)],[],[]⟩) (uAj (⟨sx rfl,sx rfl,trivial⟩) (⟨sx rfl,trivial⟩) trivial) ?_;refine uAe (uAb ?_);refine uAa rfl rfl rfl (uAc rfl gU) ?_;refine uAa rfl rfl rfl (uAm rfl rfl gU gU rfl) ?_;refine uAf ?_;refine uAn rfl (fun hc=>?_) (fun hc=>?_)
 ·try simp only [nn,uAh,T.rows_len,Fs.rows_len,Sp.rows_len,Gl.rows_len] at hc
  refine uAe (uAb ?_);refine uAa rfl rfl rfl (uAc rfl gU) ?_;refine uAa rfl rfl rfl (uAd rfl gU) ?_;refine uAa rfl rfl rfl (uAd rfl gU) ?_;refine uAf ?_;refine uAp ?_
  repeat (first | refine tR ?_ | refine bR ?_)
  refine uAv rfl ?_ trivial
  (rw [ftE,if_pos hc]; rfl)
 ·try simp only [nn,uAh,T.rows_len,Fs.rows_len,Sp.rows_len,Gl.rows_len] at hc
  have ho:=(uNP hc).1
  refine uAq ?_;refine uAe (uAb ?_);refine uAa rfl rfl rfl (uAo rfl gU rfl rfl rfl rfl rfl) ?_;refine uAw rfl rfl rfl rfl rfl rfl gU gU (uEf t ht ho) rfl ?_;refine uAa rfl rfl rfl (uAd rfl gU) ?_;refine uAa rfl rfl rfl (uAd rfl gU) ?_;refine uAf ?_;refine uAp ?_
  repeat (first | refine tR ?_ | refine bR ?_)
  refine uAv rfl ?_ trivial
  (rw [ftE,if_neg (by simpa using hc)]; rfl)
end Go.Proofs.YtnjjdbapadkomaaGreatDoor
namespace Go.Proofs.YtnjjdbapadkomaaGreatDoor
open Go Go.Abs
def pbx (l : List Tk) (p : PS) : List C:=[.sl 5 (Tk.rows l), .i .i64 (p.at' : Int), .b p.bad]
abbrev xpp : X:=.v (.ptr (.o 0) 0)
def symP (l : List Tk) (p : PS) (c : List UInt8) : PS:=if symQ l p c=true then p.go else p
theorem uII {l : List Tk} {a : Int} {b : Bool} {p : PS} (h1 : a=p.at') (h2 : b=p.bad) : ([.sl 5 (Tk.rows l), .i .i64 a, .b b] : List C)=pbx l p:=by rw [h1,h2]; rfl
theorem uFr (l : List (List UInt8)) (s : List UInt8) : Ctr sys 132 [xss l,xs s] [] (xi (idxF (fun x=>decide (s=x)) l)) none []:=by
 have hrl:=uAh l
 refine uAA Tryz.func132 rfl rfl rfl rfl rfl rfl ?_;refine uAe (uAb ?_);refine uAa rfl rfl rfl (uAd rfl gU) ?_;refine uAf ?_;refine uAe ?_;refine uAe (uAb ?_);refine uAa rfl rfl rfl (uAc rfl gU) ?_;refine uAS rfl rfl rfl rfl rfl gU rfl rfl ?_ (fun hh=>by simp at hh); intro hlen;refine uAa rfl rfl rfl (uAc rfl gU) ?_;refine uAf ?_;refine uAx ?_;refine uA6 (ι:=Nat) { t:=[(0,_,_),(1,_,_),(7,_,_)],bx:=[],ow:=[] } (fun k=>[(8,true,xi (k : Int))]) (fun k=>[]) (fun k=>k≤l.length∧(if idxF (fun x=>decide (s=x)) (l.drop k) < 0 then -1 else idxF (fun x=>decide (s=x)) (l.drop k) + k)=idxF (fun x=>decide (s=x)) l) (fun k=>l.length - k) (0) (⟨by simp,(uHH _ _).trans (uHV _ _)⟩) (uAj (⟨sx rfl,sx rfl,sx rfl,sx rfl,trivial⟩) trivial trivial) ?_
 intro k hok
 dsimp only [List.cons_append,List.nil_append]
 obtain ⟨hk,hi⟩:=hok
 refine uAe (uAb ?_);refine uAa rfl rfl rfl (uAm rfl rfl gU gU rfl) ?_;refine uAf ?_;refine uAe ?_;refine uAn rfl (fun hc=>?_) (fun hc=>?_)
 ·try simp only [nn,uAh,T.rows_len,Tk.rows_len] at hc
  have hd:=uIx (k:=k) (l:=l) (by omega) hi
  refine uAq ?_;refine uAe ?_;refine uAx ?_;refine uAe (uAb ?_);refine uAa rfl rfl rfl (uAc rfl gU) ?_;refine uAa rfl rfl rfl (uAd rfl gU) ?_;refine uAf ?_;refine uAe (uAb ?_);refine uAa rfl rfl rfl (uAc rfl gU) ?_;refine uAa rfl rfl rfl (uAc rfl gU) ?_;refine uAa rfl rfl rfl (uAc rfl gU) ?_;refine uAa rfl rfl rfl (uAy rfl rfl gU gU rfl rfl rfl (fun hh=>uC3 (by first | omega | (simp at hh ⊢; omega)))) ?_;refine uAa rfl rfl rfl (uAR rfl gU rfl rfl rfl) ?_;refine uAa rfl rfl rfl (uA9 rfl rfl gU gU rfl) ?_;refine uAf ?_;refine uAk (s:=⟨[(0,_,_),(1,_,_),(5,_,_),(7,_,_),(8,_,_),(16,_,_)],[],[],[]⟩) (uAj (⟨sx rfl,sx rfl,sx rfl,sx rfl,sx rfl,sx rfl,trivial⟩) trivial trivial) ?_;refine uAn rfl (fun hc2=>?_) (fun hc2=>?_)
  ·try simp only [nn,uAh,T.rows_len,Tk.rows_len] at hc2
   refine uAe (uAb ?_);refine uAa rfl rfl rfl (uAc rfl gU) ?_;refine uAa rfl rfl rfl (uAd rfl gU) ?_;refine uAf ?_;refine uAp ?_
   repeat (first | refine tR ?_ | refine bR ?_)
   refine uAv rfl ?_ trivial;exact uBj (hd.1 (by simpa using hc2)).symm
  ·try simp only [nn,uAh,T.rows_len,Tk.rows_len] at hc2
   refine uAq ?_;refine uAb ?_;refine uAa rfl rfl rfl (uAz rfl rfl gU gU rfl (IntWalk.i64_in _ (by omega))) ?_;refine uAa rfl rfl rfl (uAc rfl gU) ?_;refine uAf ?_;refine ⟨k + 1,?_,?_,uAj (⟨⟨_,rfl,?_⟩,⟨sx rfl,sx rfl,sx rfl,trivial⟩⟩) trivial trivial⟩
   all_goals (first | rfl | omega | exact ⟨by omega,hd.2 (by simpa using hc2)⟩)
 ·try simp only [nn,uAh,T.rows_len,Tk.rows_len] at hc
  refine uAQ ?_
  repeat (first | refine uAE ?_ | refine uAD ?_ | refine uAC rfl ?_)
  refine uAe (uAb ?_);refine uAa rfl rfl rfl (uAd rfl gU) ?_;refine uAf ?_;refine uAp ?_
  repeat (first | refine tR ?_ | refine bR ?_)
  refine uAv rfl ?_ trivial;exact uBj (uJF (by omega) hi).symm
theorem uFF (s : List UInt8) : ∀ l : List (List UInt8),(l.any fun x=>decide (s=x))=l.contains s
 | []=>rfl
 | x :: l=>by
  rw [List.any_cons,List.contains_cons,uFF s l]
  congr 1
  rw [Bool.eq_iff_iff]; simp
theorem uHN (l : List (List UInt8)) (s : List UInt8) : Ctr sys 85 [xss l,xs s] [] (xb (l.contains s)) none []:=by
 refine uAA Tryz.func85 rfl rfl rfl rfl rfl rfl ?_;refine uAe (uAb ?_);refine uAa rfl rfl rfl (uAd rfl gU) ?_;refine uAf ?_;refine uAe (uAb ?_);refine uAa rfl rfl rfl (uAc rfl gU) ?_;refine uAa rfl rfl rfl (uAc rfl gU) ?_;refine uAw rfl rfl rfl rfl rfl rfl gU gU (uFr _ _) rfl ?_;refine uAa rfl rfl rfl (uAm rfl rfl gU gU rfl) ?_;refine uAa rfl rfl rfl (uAd rfl gU) ?_;refine uAf ?_;refine uAp ?_
 repeat (first | refine tR ?_ | refine bR ?_)
 refine uAv rfl ?_ trivial;exact uCG ((uHa _ l).trans (uFF s l))
theorem uB6 (l : List Tk) (p : PS) (c : List UInt8) (hl : l.length≤2000000) (hp : p.at'≤3000000) : Ctr sys 61 [xpp,xs c] [pbx l p] (xb (symQ l p c)) none [pbx l (symP l p c)]:=by
 have hrl:=Tk.rows_len l
 refine uAA Tryz.func61 rfl rfl rfl rfl rfl rfl ?_;refine uAe (uAb ?_);refine uAa rfl rfl rfl (uAd rfl gU) ?_;refine uAf ?_;refine uAe ?_;refine uAe ?_;refine awp_drawn' (by kernel_rfl) ?_;refine uAi rfl rfl rfl rfl (uAc rfl gU) ?_;refine uAi rfl rfl rfl rfl (uAB rfl gU) ?_;refine uAi rfl rfl rfl rfl (uAg rfl gU rfl rfl) ?_;refine uA3 rfl rfl rfl rfl rfl rfl rfl gU rfl rfl rfl rfl ?_;refine uAi rfl rfl rfl rfl (uAc rfl gU) ?_;refine uAi rfl rfl rfl rfl (uAc rfl gU) ?_;refine uAi rfl rfl rfl rfl (uAB rfl (fun hh=>hh)) ?_;refine uAi rfl rfl rfl rfl (uAg rfl (fun hh=>hh) rfl rfl) ?_;refine uA3 rfl rfl rfl rfl rfl rfl rfl (fun hh=>hh) rfl rfl rfl rfl ?_;refine uAi rfl rfl rfl rfl (uAc rfl gU) ?_;refine uAi rfl rfl rfl rfl (uAB rfl (fun hh=>hh)) ?_;refine uAi rfl rfl rfl rfl (uAg rfl (fun hh=>hh) rfl rfl) ?_;refine uA3 rfl rfl rfl rfl rfl rfl rfl (fun hh=>hh) rfl rfl rfl rfl ?_;refine uAi rfl rfl rfl rfl (uBa rfl (fun hh=>hh) rfl rfl) ?_;refine uAi rfl rfl rfl rfl (uAm rfl rfl (fun hh=>hh) (fun hh=>hh) rfl) ?_;refine uAi rfl rfl rfl rfl (uAJ rfl rfl gU (fun _ hi=>gP rfl hi)) ?_;refine uAi rfl rfl rfl rfl (uAc rfl gU) ?_;refine uAi rfl rfl rfl rfl (uAc rfl gU) ?_;refine uAi rfl rfl rfl rfl (uAB rfl (fun hh=>hh)) ?_;refine uAi rfl rfl rfl rfl (uAg rfl (fun hh=>hh) rfl rfl) ?_
 refine uA3 rfl rfl rfl rfl rfl rfl rfl (fun hh=>hh) rfl rfl rfl rfl ?_;refine uAi rfl rfl rfl rfl (uAc rfl gU) ?_;refine uAi rfl rfl rfl rfl (uAB rfl (fun hh=>hh)) ?_;refine uAi rfl rfl rfl rfl (uAg rfl (fun hh=>hh) rfl rfl) ?_;refine uA3 rfl rfl rfl rfl rfl rfl rfl (fun hh=>hh) rfl rfl rfl rfl ?_;refine uAi rfl rfl rfl rfl (uAy (j:=p.at') rfl rfl (fun hh=>hh) (fun hh=>hh) rfl rfl (by first | omega | (simp at hh ⊢; omega)) (fun hh=>Tk.rows_at (by first | omega | (simp at hh ⊢; omega)))) ?_;refine uAi rfl rfl rfl rfl (uAT rfl (fun hh=>hh) rfl rfl) ?_;refine uAi rfl rfl rfl rfl (uAR rfl (fun hh=>hh) rfl rfl rfl) ?_;refine uAi rfl rfl rfl rfl (uAm rfl rfl (fun hh=>hh) gU rfl) ?_;refine uAi rfl rfl rfl rfl (uAJ rfl rfl gU (fun _ hi=>gP rfl hi)) ?_;refine uAi rfl rfl rfl rfl (uAc rfl gU) ?_;refine uAi rfl rfl rfl rfl (uAc rfl gU) ?_;refine uAi rfl rfl rfl rfl (uAB rfl (fun hh=>hh)) ?_;refine uAi rfl rfl rfl rfl (uAg rfl (fun hh=>hh) rfl rfl) ?_;refine uA3 rfl rfl rfl rfl rfl rfl rfl (fun hh=>hh) rfl rfl rfl rfl ?_;refine uAi rfl rfl rfl rfl (uAc rfl gU) ?_;refine uAi rfl rfl rfl rfl (uAB rfl (fun hh=>hh)) ?_;refine uAi rfl rfl rfl rfl (uAg rfl (fun hh=>hh) rfl rfl) ?_;refine uA3 rfl rfl rfl rfl rfl rfl rfl (fun hh=>hh) rfl rfl rfl rfl ?_;refine uAi rfl rfl rfl rfl (uAy (j:=p.at') rfl rfl (fun hh=>hh) (fun hh=>hh) rfl rfl (by first | omega | (simp at hh ⊢; omega)) (fun hh=>Tk.rows_at (by first | omega | (simp at hh ⊢; omega)))) ?_
 refine uAi rfl rfl rfl rfl (uAT rfl (fun hh=>hh) rfl rfl) ?_;refine uAi rfl rfl rfl rfl (uAR rfl (fun hh=>hh) rfl rfl rfl) ?_;refine uAi rfl rfl rfl rfl (uAc rfl gU) ?_;refine uAi rfl rfl rfl rfl (uA9 rfl rfl (fun hh=>hh) (fun hh=>hh) rfl) ?_;refine uAi rfl rfl rfl rfl (uAJ rfl rfl gU (fun _ hi=>gP rfl hi)) ?_;refine uA2 (by kernel_rfl) ?_;refine uAk (s:=⟨[(0,_,_),(49,_,_)],[(.o 0,_)],[],[]⟩) (uAj (⟨sx rfl,sx rfl,trivial⟩) (⟨sx rfl,trivial⟩) trivial) ?_;refine uAn rfl (fun hc=>?_) (fun hc=>?_)
 ·try simp only [nn,uAh,T.rows_len,Tk.rows_len] at hc
  have h : symQ l p c=false:=by simp only [symQ]; grind
  have h2 : symP l p c=p:=by rw [symP,h]; rfl
  rw [h,h2]
  refine uAe (uAb ?_);refine uAa rfl rfl rfl (uAd rfl gU) ?_;refine uAf ?_;refine uAp ?_
  repeat (first | refine tR ?_ | refine bR ?_)
  refine uAv rfl ?_ (⟨⟨_,rfl,?_⟩,trivial⟩)
  (all_goals rfl)
 ·try simp only [nn,uAh,T.rows_len,Tk.rows_len] at hc
  have h : symQ l p c=true:=by simp only [symQ]; grind
  have h2 : symP l p c=p.go:=by rw [symP,if_pos h]
  rw [h,h2]
  refine uAq ?_;refine uAe (uAb ?_);refine uAa rfl rfl rfl (uAc rfl gU) ?_;refine uAa rfl rfl rfl (uAB rfl gU) ?_;refine uAa rfl rfl rfl (uAg rfl gU rfl rfl) ?_;refine uAa rfl rfl rfl (uAl rfl gU rfl rfl rfl rfl) ?_;refine uAa rfl rfl rfl (uAz rfl rfl gU gU rfl (IntWalk.i64_in _ (by omega))) ?_;refine uAa rfl rfl rfl (uAB rfl gU) ?_;refine uAa rfl rfl rfl (uAg rfl gU rfl rfl) ?_;refine uAr rfl (uAt rfl rfl rfl rfl rfl rfl rfl) ?_;refine uAf ?_;refine uAk (s:=⟨[],[(.o 0,_)],[],[]⟩) (uAj trivial (⟨sx rfl,trivial⟩) trivial) ?_;refine uAe (uAb ?_);refine uAa rfl rfl rfl (uAd rfl gU) ?_;refine uAf ?_;refine uAp ?_
  repeat (first | refine tR ?_ | refine bR ?_)
  refine uAv rfl ?_ (⟨⟨_,rfl,?_⟩,trivial⟩)
  (all_goals first | rfl | exact uII (by simp [PS.go]) rfl)
theorem uBn (l : List Tk) (p : PS) (c : List UInt8) (hl : l.length≤2000000) (hp : p.at'≤3000000) : Ctr sys 60 [xpp,xs c] [pbx l p] (.tup []) none [pbx l (uAK l c p)]:=by
 refine uAA Tryz.func60 rfl rfl rfl rfl rfl rfl ?_;refine uAe (uAb ?_);refine uAa rfl rfl rfl (uAc rfl gU) ?_;refine uAa rfl rfl rfl (uAc rfl gU) ?_;refine uAN (.o 0) rfl rfl rfl rfl rfl rfl (uB6 _ _ _ (by omega) (by omega)) rfl (by rfl) (by rfl) rfl rfl rfl ?_;refine uAa rfl rfl rfl (uAZ rfl gU) ?_;refine uAf ?_;refine uAn rfl (fun hc=>?_) (fun hc=>?_)
 ·try simp only [nn,uAh,T.rows_len,Tk.rows_len] at hc
  have h2 : symP l p c=p:=by rw [symP,hc]; rfl
  have h3 : uAK l c p=p.off:=by rw [uAK,hc]; rfl
  rw [h2,h3]
  refine uAb ?_;refine uAa rfl rfl rfl (uAc rfl gU) ?_;refine uAa rfl rfl rfl (uAB rfl gU) ?_;refine uAa rfl rfl rfl (uAg rfl gU rfl rfl) ?_;refine uAr rfl (uAt rfl rfl rfl rfl rfl rfl rfl) ?_;refine uAf ?_;refine uLx rfl ?_ (⟨⟨_,rfl,?_⟩,trivial⟩)
  (all_goals rfl)
 ·try simp only [nn,uAh,T.rows_len,Tk.rows_len] at hc
  have h2 : symP l p c=p.go:=by rw [symP,if_pos hc]
  have h3 : uAK l c p=p.go:=by rw [uAK,if_pos hc]
  rw [h2,h3]
  refine uAq ?_;refine uLx rfl ?_ (⟨⟨_,rfl,?_⟩,trivial⟩)
  (all_goals rfl)
theorem uBQ (l : List Tk) (p : PS) (ws : List (List UInt8)) (hl : l.length≤2000000) (hp : p.at'≤3000000) : Ctr sys 59 [xpp,xss ws] [pbx l p] (xs (uAs l ws p).1) none [pbx l (uAs l ws p).2]:=by
 have hrl:=Tk.rows_len l
 have hws:=uAh ws
 refine uAA Tryz.func59 rfl rfl rfl rfl rfl rfl ?_;refine uAe (uAb ?_);refine uAa rfl rfl rfl (uAd rfl gU) ?_;refine uAf ?_;refine uAe ?_;refine uAe ?_;refine awp_drawn' (by kernel_rfl) ?_;refine uAi rfl rfl rfl rfl (uAc rfl gU) ?_;refine uAi rfl rfl rfl rfl (uAB rfl gU) ?_;refine uAi rfl rfl rfl rfl (uAg rfl gU rfl rfl) ?_;refine uA3 rfl rfl rfl rfl rfl rfl rfl gU rfl rfl rfl rfl ?_;refine uAi rfl rfl rfl rfl (uAc rfl gU) ?_;refine uAi rfl rfl rfl rfl (uAc rfl gU) ?_;refine uAi rfl rfl rfl rfl (uAB rfl (fun hh=>hh)) ?_;refine uAi rfl rfl rfl rfl (uAg rfl (fun hh=>hh) rfl rfl) ?_;refine uA3 rfl rfl rfl rfl rfl rfl rfl (fun hh=>hh) rfl rfl rfl rfl ?_;refine uAi rfl rfl rfl rfl (uAc rfl gU) ?_;refine uAi rfl rfl rfl rfl (uAB rfl (fun hh=>hh)) ?_;refine uAi rfl rfl rfl rfl (uAg rfl (fun hh=>hh) rfl rfl) ?_;refine uA3 rfl rfl rfl rfl rfl rfl rfl (fun hh=>hh) rfl rfl rfl rfl ?_;refine uAi rfl rfl rfl rfl (uBa rfl (fun hh=>hh) rfl rfl) ?_;refine uAi rfl rfl rfl rfl (uAm rfl rfl (fun hh=>hh) (fun hh=>hh) rfl) ?_;refine uAi rfl rfl rfl rfl (uAJ rfl rfl gU (fun _ hi=>gP rfl hi)) ?_;refine uAi rfl rfl rfl rfl (uAc rfl gU) ?_;refine uAi rfl rfl rfl rfl (uAc rfl gU) ?_;refine uAi rfl rfl rfl rfl (uAB rfl (fun hh=>hh)) ?_;refine uAi rfl rfl rfl rfl (uAg rfl (fun hh=>hh) rfl rfl) ?_
 refine uA3 rfl rfl rfl rfl rfl rfl rfl (fun hh=>hh) rfl rfl rfl rfl ?_;refine uAi rfl rfl rfl rfl (uAc rfl gU) ?_;refine uAi rfl rfl rfl rfl (uAB rfl (fun hh=>hh)) ?_;refine uAi rfl rfl rfl rfl (uAg rfl (fun hh=>hh) rfl rfl) ?_;refine uA3 rfl rfl rfl rfl rfl rfl rfl (fun hh=>hh) rfl rfl rfl rfl ?_;refine uAi rfl rfl rfl rfl (uAy (j:=p.at') rfl rfl (fun hh=>hh) (fun hh=>hh) rfl rfl (by first | omega | (simp at hh ⊢; omega)) (fun hh=>Tk.rows_at (by first | omega | (simp at hh ⊢; omega)))) ?_;refine uAi rfl rfl rfl rfl (uAT rfl (fun hh=>hh) rfl rfl) ?_;refine uAi rfl rfl rfl rfl (uAR rfl (fun hh=>hh) rfl rfl rfl) ?_;refine uAi rfl rfl rfl rfl (uAm rfl rfl (fun hh=>hh) gU rfl) ?_;refine uAi rfl rfl rfl rfl (uAJ rfl rfl gU (fun _ hi=>gP rfl hi)) ?_;refine uAi rfl rfl rfl rfl (uAc rfl gU) ?_;refine uAi rfl rfl rfl rfl (uAc rfl gU) ?_;refine uAi rfl rfl rfl rfl (uBa rfl (fun hh=>hh) rfl rfl) ?_;refine uAi rfl rfl rfl rfl (uAm rfl rfl (fun hh=>hh) gU rfl) ?_;refine uAi rfl rfl rfl rfl (uAc rfl (fun hh=>hh)) ?_;refine uAi rfl rfl rfl rfl (uAc rfl gU) ?_;refine uAi rfl rfl rfl rfl (uAc rfl gU) ?_;refine uAi rfl rfl rfl rfl (uAB rfl (fun hh=>hh)) ?_;refine uAi rfl rfl rfl rfl (uAg rfl (fun hh=>hh) rfl rfl) ?_;refine uA3 rfl rfl rfl rfl rfl rfl rfl (fun hh=>hh) rfl rfl rfl rfl ?_
 refine uAi rfl rfl rfl rfl (uAc rfl gU) ?_;refine uAi rfl rfl rfl rfl (uAB rfl (fun hh=>hh)) ?_;refine uAi rfl rfl rfl rfl (uAg rfl (fun hh=>hh) rfl rfl) ?_;refine uA3 rfl rfl rfl rfl rfl rfl rfl (fun hh=>hh) rfl rfl rfl rfl ?_;refine uAi rfl rfl rfl rfl (uAy (j:=p.at') rfl rfl (fun hh=>hh) (fun hh=>hh) rfl rfl (by first | omega | (simp at hh ⊢; omega)) (fun hh=>Tk.rows_at (by first | omega | (simp at hh ⊢; omega)))) ?_;refine uAi rfl rfl rfl rfl (uAT rfl (fun hh=>hh) rfl rfl) ?_;refine uAi rfl rfl rfl rfl (uAR rfl (fun hh=>hh) rfl rfl rfl) ?_;refine uAW rfl rfl rfl rfl rfl rfl rfl gU (fun hh=>gA ((fun hh=>hh) hh) (gA ((fun hh=>hh) hh) (rfl))) (uHN _ _) rfl ?_;refine uAi rfl rfl rfl rfl (uAZ rfl (fun hh=>hh)) ?_;refine uAi rfl rfl rfl rfl (uAV rfl rfl (fun hh=>hh) (fun hh hi=>gP hh hi)) ?_;refine uAi rfl rfl rfl rfl (uAJ rfl rfl gU (fun _ hi=>gP rfl hi)) ?_;refine uA2 (by kernel_rfl) ?_;refine uAk (s:=⟨[(0,_,_),(55,_,_)],[(.o 0,_)],[],[]⟩) (uAj (⟨sx rfl,sx rfl,trivial⟩) (⟨sx rfl,trivial⟩) trivial) ?_;refine uAn rfl (fun hc=>?_) (fun hc=>?_)
 ·try simp only [nn,uAh,T.rows_len,Tk.rows_len] at hc
  have h : namQ l p ws=false:=by
   simp only [namQ]
   by_cases hw : ws=[]
   ·subst hw; simp at hc ⊢; grind
   ·have : 0 < ws.length:=List.length_pos_iff.2 hw
    simp [hw]; grind
  have h2 : uAs l ws p=([],p.off):=by rw [uAs,h]; rfl
  rw [h2]
  refine uAe (uAb ?_);refine uAa rfl rfl rfl (uAc rfl gU) ?_;refine uAa rfl rfl rfl (uAB rfl gU) ?_;refine uAa rfl rfl rfl (uAg rfl gU rfl rfl) ?_;refine uAr rfl (uAt rfl rfl rfl rfl rfl rfl rfl) ?_;refine uAf ?_;refine uAe (uAb ?_);refine uAa rfl rfl rfl (uAd rfl gU) ?_;refine uAf ?_;refine uAp ?_
  repeat (first | refine tR ?_ | refine bR ?_)
  refine uAv rfl ?_ (⟨⟨_,rfl,?_⟩,trivial⟩)
  (all_goals rfl)
 ·try simp only [nn,uAh,T.rows_len,Tk.rows_len] at hc
  have h : namQ l p ws=true:=by
   simp only [namQ]
   by_cases hw : ws=[]
   ·subst hw; simp at hc ⊢; grind
   ·have : 0 < ws.length:=List.length_pos_iff.2 hw
    simp [hw]; grind
  have h2 : uAs l ws p=((l.getD p.at' tk0).text,p.go):=by rw [uAs,if_pos h]
  rw [h2]
  refine uAq ?_;refine uAe (uAb ?_);refine uAa rfl rfl rfl (uAc rfl gU) ?_;refine uAa rfl rfl rfl (uAB rfl gU) ?_;refine uAa rfl rfl rfl (uAg rfl gU rfl rfl) ?_;refine uAa rfl rfl rfl (uAl rfl gU rfl rfl rfl rfl) ?_;refine uAa rfl rfl rfl (uAz rfl rfl gU gU rfl (IntWalk.i64_in _ (by omega))) ?_;refine uAa rfl rfl rfl (uAB rfl gU) ?_;refine uAa rfl rfl rfl (uAg rfl gU rfl rfl) ?_;refine uAr rfl (uAt rfl rfl rfl rfl rfl rfl rfl) ?_;refine uAf ?_;refine uAk (s:=⟨[(0,_,_)],[(.o 0,_)],[],[]⟩) (uAj (⟨sx rfl,trivial⟩) (⟨sx rfl,trivial⟩) trivial) ?_;refine uAe ?_;refine awp_drawn' (by kernel_rfl) ?_;refine uAi rfl rfl rfl rfl (uAc rfl gU) ?_;refine uAi rfl rfl rfl rfl (uAB rfl gU) ?_;refine uAi rfl rfl rfl rfl (uAg rfl gU rfl rfl) ?_;refine uA3 rfl rfl rfl rfl rfl rfl rfl gU rfl rfl rfl rfl ?_;refine uAi rfl rfl rfl rfl (uAc rfl gU) ?_;refine uAi rfl rfl rfl rfl (uAB rfl gU) ?_;refine uAi rfl rfl rfl rfl (uAg rfl gU rfl rfl) ?_;refine uA3 rfl rfl rfl rfl rfl rfl rfl gU rfl rfl rfl rfl ?_;refine uAi rfl rfl rfl rfl (uAz rfl rfl gU gU rfl (IntWalk.i64_in _ (by omega))) ?_;refine uAi rfl rfl rfl rfl (uAy (j:=p.at') rfl rfl gU gU rfl rfl (by first | omega | (simp at hh ⊢; omega)) (fun hh=>Tk.rows_at (by first | omega | (simp at hh ⊢; omega)))) ?_
  refine uAi rfl rfl rfl rfl (uAT rfl gU rfl rfl) ?_;refine uAi rfl rfl rfl rfl (uAR rfl gU rfl rfl rfl) ?_;refine uAi rfl rfl rfl rfl (uAd rfl gU) ?_;refine uA2 (by kernel_rfl) ?_;refine uAp ?_
  repeat (first | refine tR ?_ | refine bR ?_)
  refine uAv rfl ?_ (⟨⟨_,rfl,?_⟩,trivial⟩)
  (all_goals first | rfl | exact uII (by simp [PS.go]) rfl)
theorem uKR (l : List Tk) (p : PS) (hl : l.length≤2000000) : Ctr sys 113 [xpp] [pbx l p] (xi (uFv l p)) none [pbx l p]:=by
 have hrl:=Tk.rows_len l
 refine uAA Tryz.func113 rfl rfl rfl rfl rfl rfl ?_;refine uAe (uAb ?_);refine uAa rfl rfl rfl (uAd rfl gU) ?_;refine uAf ?_;refine uAe ?_;refine uAx ?_;refine uAe (uAb ?_);refine uAa rfl rfl rfl (uAc rfl gU) ?_;refine uAa rfl rfl rfl (uAB rfl gU) ?_;refine uAa rfl rfl rfl (uAg rfl gU rfl rfl) ?_;refine uAa rfl rfl rfl (uAl rfl gU rfl rfl rfl rfl) ?_;refine uAS rfl rfl rfl rfl rfl gU rfl rfl ?_ (fun hh=>by simp at hh); intro hlen;refine uAa rfl rfl rfl (uAm rfl rfl gU gU rfl) ?_;refine uAa rfl rfl rfl (uAd rfl gU) ?_;refine uAf ?_;refine uAk (s:=⟨[(0,_,_),(3,_,_)],[(.o 0,_)],[],[]⟩) (uAj (⟨sx rfl,sx rfl,trivial⟩) (⟨sx rfl,trivial⟩) trivial) ?_;refine uAn rfl (fun hc=>?_) (fun hc=>?_)
 ·try simp only [nn,uAh,T.rows_len,Tk.rows_len] at hc
  refine uAe (uAb ?_);refine uAa rfl rfl rfl (uAd rfl gU) ?_;refine uAf ?_;refine uAp ?_
  repeat (first | refine tR ?_ | refine bR ?_)
  refine uAv rfl ?_ (⟨⟨_,rfl,?_⟩,trivial⟩)
  (all_goals first | rfl | (rw [uFv,if_pos (by omega)]; rfl))
 ·try simp only [nn,uAh,T.rows_len,Tk.rows_len] at hc
  refine uAe ?_;refine awp_drawn' (by kernel_rfl) ?_;refine uAi rfl rfl rfl rfl (uAc rfl gU) ?_;refine uAi rfl rfl rfl rfl (uAB rfl gU) ?_;refine uAi rfl rfl rfl rfl (uAg rfl gU rfl rfl) ?_;refine uA3 rfl rfl rfl rfl rfl rfl rfl gU rfl rfl rfl rfl ?_;refine uAi rfl rfl rfl rfl (uAc rfl gU) ?_;refine uAi rfl rfl rfl rfl (uAB rfl gU) ?_;refine uAi rfl rfl rfl rfl (uAg rfl gU rfl rfl) ?_;refine uA3 rfl rfl rfl rfl rfl rfl rfl gU rfl rfl rfl rfl ?_;refine uAi rfl rfl rfl rfl (uBa rfl gU rfl rfl) ?_;refine uAi rfl rfl rfl rfl (uAm rfl rfl gU gU rfl) ?_;refine uAi rfl rfl rfl rfl (uAd rfl gU) ?_;refine uA2 (by kernel_rfl) ?_;refine uAk (s:=⟨[(0,_,_),(10,_,_)],[(.o 0,_)],[],[]⟩) (uAj (⟨sx rfl,sx rfl,trivial⟩) (⟨sx rfl,trivial⟩) trivial) ?_;refine uAn rfl (fun hc2=>?_) (fun hc2=>?_)
  ·try simp only [nn,uAh,T.rows_len,Tk.rows_len] at hc2
   refine uAe ?_;refine awp_drawn' (by kernel_rfl) ?_;refine uAi rfl rfl rfl rfl (uAc rfl gU) ?_;refine uAi rfl rfl rfl rfl (uAB rfl gU) ?_;refine uAi rfl rfl rfl rfl (uAg rfl gU rfl rfl) ?_;refine uA3 rfl rfl rfl rfl rfl rfl rfl gU rfl rfl rfl rfl ?_;refine uAi rfl rfl rfl rfl (uAc rfl gU) ?_;refine uAi rfl rfl rfl rfl (uAB rfl gU) ?_;refine uAi rfl rfl rfl rfl (uAg rfl gU rfl rfl) ?_;refine uA3 rfl rfl rfl rfl rfl rfl rfl gU rfl rfl rfl rfl ?_;refine uAi rfl rfl rfl rfl (uBa rfl gU rfl rfl) ?_;refine uAi rfl rfl rfl rfl (uAz rfl rfl gU gU rfl (IntWalk.i64_in _ (by omega))) ?_;refine uAi rfl rfl rfl rfl (uAy (j:=(l.length - 1)) rfl rfl gU gU rfl rfl (by first | omega | (simp at hh ⊢; omega)) (fun hh=>Tk.rows_at (by first | omega | (simp at hh ⊢; omega)))) ?_;refine uAi rfl rfl rfl rfl (uAT rfl gU rfl rfl) ?_;refine uAi rfl rfl rfl rfl (uAR rfl gU rfl rfl rfl) ?_;refine uAi rfl rfl rfl rfl (uAd rfl gU) ?_;refine uA2 (by kernel_rfl) ?_;refine uAp ?_
   repeat (first | refine tR ?_ | refine bR ?_)
   refine uAv rfl ?_ (⟨⟨_,rfl,?_⟩,trivial⟩)
   (all_goals first | rfl | (rw [uFv,if_neg (by omega),if_pos (by omega)]; rfl))
  ·try simp only [nn,uAh,T.rows_len,Tk.rows_len] at hc2
   refine uAq ?_;refine uAe ?_;refine awp_drawn' (by kernel_rfl) ?_;refine uAi rfl rfl rfl rfl (uAc rfl gU) ?_;refine uAi rfl rfl rfl rfl (uAB rfl gU) ?_;refine uAi rfl rfl rfl rfl (uAg rfl gU rfl rfl) ?_;refine uA3 rfl rfl rfl rfl rfl rfl rfl gU rfl rfl rfl rfl ?_;refine uAi rfl rfl rfl rfl (uAc rfl gU) ?_;refine uAi rfl rfl rfl rfl (uAB rfl gU) ?_;refine uAi rfl rfl rfl rfl (uAg rfl gU rfl rfl) ?_;refine uA3 rfl rfl rfl rfl rfl rfl rfl gU rfl rfl rfl rfl ?_;refine uAi rfl rfl rfl rfl (uAy (j:=p.at') rfl rfl gU gU rfl rfl (by first | omega | (simp at hh ⊢; omega)) (fun hh=>Tk.rows_at (by first | omega | (simp at hh ⊢; omega)))) ?_;refine uAi rfl rfl rfl rfl (uAT rfl gU rfl rfl) ?_;refine uAi rfl rfl rfl rfl (uAR rfl gU rfl rfl rfl) ?_;refine uAi rfl rfl rfl rfl (uAd rfl gU) ?_;refine uA2 (by kernel_rfl) ?_;refine uAp ?_
   repeat (first | refine tR ?_ | refine bR ?_)
   refine uAv rfl ?_ (⟨⟨_,rfl,?_⟩,trivial⟩)
   (all_goals first | rfl | (rw [uFv,if_neg (by omega),if_neg (by omega)]; rfl))
theorem uGg (l : List Tk) (p : PS) (hl : l.length≤2000000) : Ctr sys 63 [xpp] [pbx l p] (.tup [.c (.i .i64 (endE l p).1), .c (.i .i64 (endE l p).2)]) none [pbx l p]:=by
 have hrl:=Tk.rows_len l
 refine uAA Tryz.func63 rfl rfl rfl rfl rfl rfl ?_;refine uAe (uAb ?_);refine uAa rfl rfl rfl (uAd rfl gU) ?_;refine uAa rfl rfl rfl (uAd rfl gU) ?_;refine uAf ?_;refine uAe ?_;refine uAe ?_;refine awp_drawn' (by kernel_rfl) ?_;refine uAi rfl rfl rfl rfl (uAc rfl gU) ?_;refine uAi rfl rfl rfl rfl (uAB rfl gU) ?_;refine uAi rfl rfl rfl rfl (uAg rfl gU rfl rfl) ?_;refine uA3 rfl rfl rfl rfl rfl rfl rfl gU rfl rfl rfl rfl ?_;refine uAi rfl rfl rfl rfl (uAc rfl gU) ?_;refine uAi rfl rfl rfl rfl (uAc rfl gU) ?_;refine uAi rfl rfl rfl rfl (uAB rfl (fun hh=>hh)) ?_;refine uAi rfl rfl rfl rfl (uAg rfl (fun hh=>hh) rfl rfl) ?_;refine uA3 rfl rfl rfl rfl rfl rfl rfl (fun hh=>hh) rfl rfl rfl rfl ?_;refine uAi rfl rfl rfl rfl (uAc rfl gU) ?_;refine uAi rfl rfl rfl rfl (uAB rfl (fun hh=>hh)) ?_;refine uAi rfl rfl rfl rfl (uAg rfl (fun hh=>hh) rfl rfl) ?_;refine uA3 rfl rfl rfl rfl rfl rfl rfl (fun hh=>hh) rfl rfl rfl rfl ?_;refine uAi rfl rfl rfl rfl (uBa rfl (fun hh=>hh) rfl rfl) ?_;refine uAi rfl rfl rfl rfl (uAm rfl rfl (fun hh=>hh) (fun hh=>hh) rfl) ?_;refine uAi rfl rfl rfl rfl (uAJ rfl rfl gU (fun _ hi=>gP rfl hi)) ?_;refine uA2 (by kernel_rfl) ?_;refine uAk (s:=⟨[(0,_,_),(19,_,_)],[(.o 0,_)],[],[]⟩) (uAj (⟨sx rfl,sx rfl,trivial⟩) (⟨sx rfl,trivial⟩) trivial) ?_
 refine uAn rfl (fun hc=>?_) (fun hc=>?_)
 ·try simp only [nn,uAh,T.rows_len,Tk.rows_len] at hc
  refine uAe (uAb ?_);refine uAa rfl rfl rfl (uAc rfl gU) ?_;refine uAN (.o 0) rfl rfl rfl rfl rfl rfl (uKR _ _ (by omega)) rfl (by rfl) (by rfl) rfl rfl rfl ?_;refine uAa rfl rfl rfl (uAd rfl gU) ?_;refine uAa rfl rfl rfl (uAd rfl gU) ?_;refine uAf ?_;refine uAp ?_
  repeat (first | refine tR ?_ | refine bR ?_)
  refine uAv rfl ?_ (⟨⟨_,rfl,?_⟩,trivial⟩)
  (all_goals first | rfl | (rw [endE,if_pos (by grind)]; rfl))
 ·try simp only [nn,uAh,T.rows_len,Tk.rows_len] at hc
  refine uAq ?_;refine uAe (uAb ?_);refine uAa rfl rfl rfl (uAd rfl gU) ?_;refine uAa rfl rfl rfl (uAd rfl gU) ?_;refine uAf ?_;refine uAp ?_
  repeat (first | refine tR ?_ | refine bR ?_)
  refine uAv rfl ?_ (⟨⟨_,rfl,?_⟩,trivial⟩)
  (all_goals first | rfl | (rw [endE,if_neg (by grind)]; rfl))
end Go.Proofs.YtnjjdbapadkomaaGreatDoor
namespace Go.Proofs.YtnjjdbapadkomaaGreatDoor
open Go Go.Abs
theorem uBL {l : List Tk} {p : PS} {c : List UInt8} (h : symQ l p c=true) : p.at' < l.length∧p.bad=false:=by
 simp only [symQ,Bool.and_eq_true,decide_eq_true_eq,Bool.not_eq_true'] at h
 exact ⟨h.1.1.2,h.1.1.1⟩
theorem uBu (l : List Tk) (c : List UInt8) (p : PS) : p.at'≤(uAK l c p).at'∧(p.at'≤l.length→(uAK l c p).at'≤l.length):=by
 unfold uAK
 split
 ·rename_i h; have := (uBL h).1; simp only [PS.go]; omega
 ·simp [PS.off]
theorem uA4 (l : List Tk) (ws : List (List UInt8)) (p : PS) : p.at'≤(uAs l ws p).2.at'∧(p.at'≤l.length→(uAs l ws p).2.at'≤l.length):=by
 unfold uAs
 split
 ·rename_i h
  simp only [namQ,Bool.and_eq_true,decide_eq_true_eq] at h
  have := h.1.1.2
  simp only [PS.go]; omega
 ·simp [PS.off]
theorem uCU {α : Type} {l : List Tk} {f : PS→α × PS} {p : PS} {out : List α} (h : symQ l p [44]=false) : ∀ n,uBP l f n p out=(out,p)
 | 0=>rfl
 | n + 1=>by rw [uBP,h]; rfl
theorem uEC {α : Type} {l : List Tk} {f : PS→α × PS} {p : PS} {out : List α} {n : Nat} (h : symQ l p [44]=true) : uBP l f (n + 1) p out=uBP l f n (f p.go).2 (out++[(f p.go).1]):=by rw [uBP,if_pos h]
theorem uEm (l : List Tk) (p : PS) (hl : l.length≤2000000) (hp : p.at'≤l.length) : Ctr sys 109 [xpp] [pbx l p] (xss (uBm l p).1) none [pbx l (uBm l p).2]:=by
 have hrl:=Tk.rows_len l
 have h0:=uA4 l [] p
 refine uAA Tryz.func109 rfl rfl rfl rfl rfl rfl ?_;refine uAe (uAb ?_);refine uAr rfl (uBy (.inr rfl) rfl rfl) ?_;refine uAf ?_;refine uAe (uAb ?_);refine uAa rfl rfl rfl (uAc rfl gU) ?_;refine uAN (.o 0) rfl rfl rfl rfl rfl rfl (uBQ l _ [] (by omega) (by first | omega | (simp only [PS.go]; omega))) rfl (by rfl) (by rfl) rfl rfl rfl ?_;refine uAH (xs:=[_]) rfl rfl rfl rfl rfl rfl rfl rfl rfl gU rfl ?_;refine uAr rfl (uAL (.inr rfl) rfl rfl rfl) ?_;refine uAf ?_;refine uAk (s:=⟨[(0,_,_),(3,_,_)],[(.o 0,_)],[(.t 3,_)],[]⟩) (uAj (⟨sx rfl,sx rfl,trivial⟩) (⟨sx rfl,trivial⟩) (⟨rfl,trivial⟩)) ?_;refine uAe ?_;refine uAx ?_;refine uA6 (ι:=PS × List (List UInt8)) { t:=[(0,_,_)],bx:=[],ow:=[(.t 3,_)] } (fun q=>[(3,true,xss q.2)]) (fun q=>[((.o 0),pbx l q.1)]) (fun q=>q.1.at'≤l.length∧q.2.length≤q.1.at' + 1 ∧ ∃ n,l.length + 1≤n + q.1.at'∧uBP l (uAs l []) n q.1 q.2=uBm l p) (fun q=>l.length - q.1.at') (((uAs l [] p).2,[(uAs l [] p).1])) (⟨h0.2 hp,by simp,_,by dsimp only; omega,rfl⟩) (uAj (⟨sx rfl,sx rfl,trivial⟩) (⟨sx rfl,trivial⟩) (⟨rfl,trivial⟩)) ?_
 intro q hok
 dsimp only [List.cons_append,List.nil_append] at *
 obtain ⟨q,out⟩:=q
 dsimp only at hok ⊢
 obtain ⟨hq,ho,n,hn,hi⟩:=hok
 have hro:=uAh out
 refine uAe ?_;refine uAe (uAb ?_);refine uAa rfl rfl rfl (uAc rfl gU) ?_;refine uAN (.o 0) rfl rfl rfl rfl rfl rfl (uB6 _ _ _ (by omega) (by omega)) rfl (by rfl) (by rfl) rfl rfl rfl ?_;refine uAf ?_;refine uAn rfl (fun hc=>?_) (fun hc=>?_)
 ·try simp only [nn,uAh,T.rows_len,Tk.rows_len] at hc
  have hlt:=(uBL hc).1
  have hs : symP l q [44]=q.go:=by rw [symP,if_pos hc]
  have h1:=uA4 l [] q.go
  have hg : q.go.at'=q.at' + 1:=rfl
  obtain ⟨n,rfl⟩ : ∃ k,n=k + 1:=⟨n - 1,by omega⟩
  rw [uEC hc] at hi
  rw [hs]
  refine uAq ?_;refine uAx ?_;refine uAb ?_;refine uAr rfl (uAL (.inl rfl) rfl rfl rfl) ?_;refine uAa rfl rfl rfl (uAc rfl gU) ?_;refine uAN (.o 0) rfl rfl rfl rfl rfl rfl (uBQ l _ [] (by omega) (by first | omega | (simp only [PS.go]; omega))) rfl (by rfl) (by rfl) rfl rfl rfl ?_;refine uAH (xs:=[_]) rfl rfl rfl rfl rfl rfl rfl rfl rfl gU rfl ?_;refine uAr rfl (uA0 rfl rfl rfl rfl rfl rfl rfl (by first | omega | (simp only [List.length_append,List.length_singleton,uAh]; omega)) (by first | omega | (simp only [List.length_append,List.length_singleton,uAh]; omega))) ?_;refine uAr rfl (uAL (.inr rfl) rfl rfl rfl) ?_;refine uAf ?_;refine ⟨((uAs l [] q.go).2,out++[(uAs l [] q.go).1]),?_,?_,uAj (⟨⟨_,rfl,?_⟩,⟨sx rfl,trivial⟩⟩) (⟨⟨_,rfl,?_⟩,trivial⟩) (⟨rfl,trivial⟩)⟩
  ·exact ⟨h1.2 (by omega),by simp only [List.length_append,List.length_singleton]; omega,n,by dsimp only; omega,hi⟩
  ·dsimp only; omega
  ·exact tx (uCn _ _)
  ·rfl
 ·try simp only [nn,uAh,T.rows_len,Tk.rows_len] at hc
  have hs : symP l q [44]=q:=by rw [symP,hc]; rfl
  rw [uCU hc] at hi
  rw [hs]
  refine uAQ ?_
  repeat (first | refine uAE ?_ | refine uAD ?_ | refine uAC rfl ?_)
  refine uAe (uAb ?_);refine uAr rfl (uAL (.inl rfl) rfl rfl rfl) ?_;refine uAr rfl (uAL (.inr rfl) rfl rfl rfl) ?_;refine uAf ?_;refine uAp ?_
  repeat (first | refine tR ?_ | refine bR ?_)
  refine uAv rfl ?_ (⟨⟨_,rfl,?_⟩,trivial⟩)
  (all_goals first | (rw [← hi]; done) | (rw [← hi]; rfl))
end Go.Proofs.YtnjjdbapadkomaaGreatDoor
namespace Go.Proofs.YtnjjdbapadkomaaGreatDoor
open Go Go.Abs
theorem uKq {α : Type} {l : List Tk} {f : PS→α × PS} (hf : ∀ p,p.at'≤(f p).2.at'∧(p.at'≤l.length→(f p).2.at'≤l.length)) : ∀ (n : Nat) (p : PS) (out : List α),p.at'≤(uBP l f n p out).2.at'∧(p.at'≤l.length→(uBP l f n p out).2.at'≤l.length)
 | 0,p,out=>by simp [uBP]
 | n + 1,p,out=>by
  rw [uBP]
  split
  ·rename_i h
   have h1:=(uBL h).1
   have h2:=hf p.go
   have h3:=uKq hf n (f p.go).2 (out++[(f p.go).1])
   have hg : p.go.at'=p.at' + 1:=rfl
   omega
  ·simp
theorem uCv {α : Type} {l : List Tk} {f : PS→α × PS} (hf : ∀ p,p.at'≤(f p).2.at'∧(p.at'≤l.length→(f p).2.at'≤l.length)) (p : PS) : p.at'≤(uBc l f p).2.at'∧(p.at'≤l.length→(uBc l f p).2.at'≤l.length):=by
 have h1:=hf p
 have h2:=uKq hf (l.length + 1) (f p).2 [(f p).1]
 unfold uBc; omega
theorem uCH (l : List Tk) : ∀ (n : Nat) (p : PS),p.at'≤(uA5 l n p).2.at'∧(p.at'≤l.length→(uA5 l n p).2.at'≤l.length)
 | 0,p=>by simp [uA5]
 | n + 1,p=>by
  have ih:=uCH l n
  have hg : ∀ q : PS,q.go.at'=q.at' + 1:=fun _=>rfl
  rw [uA5]
  split
  ·rename_i h
   have h1:=(uBL h).1
   have h2:=ih p.go
   have h3:=uBu l [44] (uA5 l n p.go).2
   have h4:=uCv ih (uAK l [44] (uA5 l n p.go).2)
   have h5:=uBu l [62] (uBc l (uA5 l n) (uAK l [44] (uA5 l n p.go).2)).2
   have := hg p
   dsimp only; omega
  ·have h1:=uA4 l [] p
   split
   ·rename_i h
    have h2:=(uBL h).1
    split
    ·rename_i h3
     have h4:=(uBL h3).1
     have := hg (uAs l [] p).2
     have := hg (uAs l [] p).2.go
     dsimp only; omega
    ·have h3:=uCv ih (uAs l [] p).2.go
     have h4:=uBu l [41] (uBc l (uA5 l n) (uAs l [] p).2.go).2
     have := hg (uAs l [] p).2
     dsimp only; omega
   ·exact h1
theorem uJ4 (l : List Tk) (n : Nat) (hl : l.length≤2000000) (ih : ∀ p : PS,p.at'≤l.length→l.length - p.at' < n→Ctr sys 66 [xpp] [pbx l p] (xm (uA5 l n p).1) none [pbx l (uA5 l n p).2]) (p : PS) (hp : p.at'≤l.length) (hn : l.length - p.at' < n) :
  Ctr sys 116 [xpp] [pbx l p] (xl (uBc l (uA5 l n) p).1) none [pbx l (uBc l (uA5 l n) p).2]:=by
 have hrl:=Tk.rows_len l
 have h0:=uCH l n p
 refine uAA Tryz.func116 rfl rfl rfl rfl rfl rfl ?_;refine uAe (uAb ?_);refine uAr rfl (uBy (.inr rfl) rfl rfl) ?_;refine uAf ?_;refine uAe (uAb ?_);refine uAa rfl rfl rfl (uAc rfl gU) ?_;refine uAN (.o 0) rfl rfl rfl rfl rfl rfl (ih _ (by first | omega | (simp only [PS.go]; omega)) (by first | omega | (simp only [PS.go]; omega))) rfl (by rfl) (by rfl) rfl rfl rfl ?_;refine uAH (xs:=[_]) rfl rfl rfl rfl rfl rfl rfl rfl rfl gU rfl ?_;refine uAr rfl (uAL (.inr rfl) rfl rfl rfl) ?_;refine uAf ?_;refine uAk (s:=⟨[(0,_,_),(3,_,_)],[(.o 0,_)],[(.t 3,_)],[]⟩) (uAj (⟨sx rfl,sx rfl,trivial⟩) (⟨sx rfl,trivial⟩) (⟨rfl,trivial⟩)) ?_;refine uAe ?_;refine uAx ?_;refine uA6 (ι:=PS × List T) { t:=[(0,_,_)],bx:=[],ow:=[(.t 3,_)] } (fun q=>[(3,true,xl q.2)]) (fun q=>[((.o 0),pbx l q.1)]) (fun q=>p.at'≤q.1.at'∧q.1.at'≤l.length∧q.2.length≤q.1.at' + 1 ∧ ∃ k,l.length + 1≤k + q.1.at'∧uBP l (uA5 l n) k q.1 q.2=uBc l (uA5 l n) p) (fun q=>l.length - q.1.at') (((uA5 l n p).2,[(uA5 l n p).1])) (⟨h0.1,h0.2 hp,by simp,_,by dsimp only; omega,rfl⟩) (uAj (⟨⟨_,rfl,by simp [T.rows_eq]⟩,⟨sx rfl,trivial⟩⟩) (⟨sx rfl,trivial⟩) (⟨rfl,trivial⟩)) ?_
 intro q hok
 dsimp only [List.cons_append,List.nil_append] at *
 obtain ⟨q,out⟩:=q
 dsimp only at hok ⊢
 obtain ⟨hq0,hq,ho,k,hk,hi⟩:=hok
 have hro:=T.rows_len out
 refine uAe ?_;refine uAe (uAb ?_);refine uAa rfl rfl rfl (uAc rfl gU) ?_;refine uAN (.o 0) rfl rfl rfl rfl rfl rfl (uB6 _ _ _ (by omega) (by omega)) rfl (by rfl) (by rfl) rfl rfl rfl ?_;refine uAf ?_;refine uAn rfl (fun hc=>?_) (fun hc=>?_)
 ·try simp only [nn,uAh,T.rows_len,Tk.rows_len] at hc
  have hlt:=(uBL hc).1
  have hs : symP l q [44]=q.go:=by rw [symP,if_pos hc]
  have h1:=uCH l n q.go
  have hg : q.go.at'=q.at' + 1:=rfl
  obtain ⟨k,rfl⟩ : ∃ j,k=j + 1:=⟨k - 1,by omega⟩
  rw [uEC hc] at hi
  rw [hs]
  refine uAq ?_;refine uAx ?_;refine uAb ?_;refine uAr rfl (uAL (.inl rfl) rfl rfl rfl) ?_;refine uAa rfl rfl rfl (uAc rfl gU) ?_;refine uAN (.o 0) rfl rfl rfl rfl rfl rfl (ih _ (by first | omega | (simp only [PS.go]; omega)) (by first | omega | (simp only [PS.go]; omega))) rfl (by rfl) (by rfl) rfl rfl rfl ?_;refine uAH (xs:=[_]) rfl rfl rfl rfl rfl rfl rfl rfl rfl gU rfl ?_;refine uAr rfl (uA0 rfl rfl rfl rfl rfl rfl rfl (by first | omega | (simp only [List.length_append,List.length_singleton,T.rows_len]; omega)) (by first | omega | (simp only [List.length_append,List.length_singleton,T.rows_len]; omega))) ?_;refine uAr rfl (uAL (.inr rfl) rfl rfl rfl) ?_;refine uAf ?_;refine ⟨((uA5 l n q.go).2,out++[(uA5 l n q.go).1]),?_,?_,uAj (⟨⟨_,rfl,?_⟩,⟨sx rfl,trivial⟩⟩) (⟨⟨_,rfl,?_⟩,trivial⟩) (⟨rfl,trivial⟩)⟩
  ·exact ⟨by dsimp only; omega,h1.2 (by omega),by simp only [List.length_append,List.length_singleton]; omega,k,by dsimp only; omega,hi⟩
  ·dsimp only; omega
  ·exact tx (uEO _ _)
  ·rfl
 ·try simp only [nn,uAh,T.rows_len,Tk.rows_len] at hc
  have hs : symP l q [44]=q:=by rw [symP,hc]; rfl
  rw [uCU hc] at hi
  rw [hs]
  refine uAQ ?_
  repeat (first | refine uAE ?_ | refine uAD ?_ | refine uAC rfl ?_)
  refine uAe (uAb ?_);refine uAr rfl (uAL (.inl rfl) rfl rfl rfl) ?_;refine uAr rfl (uAL (.inr rfl) rfl rfl rfl) ?_;refine uAf ?_;refine uAp ?_
  repeat (first | refine tR ?_ | refine bR ?_)
  refine uAv rfl ?_ (⟨⟨_,rfl,?_⟩,trivial⟩)
  (all_goals first | (rw [← hi]; done) | (rw [← hi]; rfl))
end Go.Proofs.YtnjjdbapadkomaaGreatDoor
namespace Go.Proofs.YtnjjdbapadkomaaGreatDoor
open Go Go.Abs
def idx0 (l : List (List UInt8)) (s : List UInt8) : Int:=if idxF (fun x=>decide (x=s) && decide (s≠[])) l < 0 then 0 else idxF (fun x=>decide (x=s) && decide (s≠[])) l
def chR (l : List Tk) (ws : List (List UInt8)) (p : PS) : Int × PS:=if (uAs l [] p).2.bad=true∨idx0 ws (uAs l [] p).1=0 then (0,p.off) else (idx0 ws (uAs l [] p).1,(uAs l [] p).2)
def uBx : List (List UInt8):=[] :: [] :: sortW
def uBJ : List (List UInt8):=[] :: kindW
def uDK : List (List UInt8):=[] :: uBD
def uCT : List (List UInt8):=[[],uDS]
def frRA (l : List Tk) (role : List UInt8) : Nat→PS→List Fs→List Fs × PS
 | 0,p,out=>(out,p)
 | n + 1,p,out =>
  if (chR l uBx (uAs l [] p).2).2.bad=true then (out++[⟨role,(uAs l [] p).1,(chR l uBx (uAs l [] p).2).1⟩],(chR l uBx (uAs l [] p).2).2)
  else if symQ l (chR l uBx (uAs l [] p).2).2 [44]=true then frRA l role n (chR l uBx (uAs l [] p).2).2.go (out++[⟨role,(uAs l [] p).1,(chR l uBx (uAs l [] p).2).1⟩])
  else (out++[⟨role,(uAs l [] p).1,(chR l uBx (uAs l [] p).2).1⟩],(chR l uBx (uAs l [] p).2).2)
def frRd (l : List Tk) (p : PS) (out : List Fs) : List Fs × PS:=frRA l (uAs l [] p).1 (l.length + 1) (uAK l [58] (uAs l [] p).2) out
def uEs (l : List Tk) (line : Int) (p : PS) : Sp × PS :=
 let a:=uAs l [] p
 let b:=uAs l [] (uAK l [62] (uAK l [45] a.2))
 let t:=uA8 l (l.length + 1) (uAK l [58] b.2)
 (⟨a.1,b.1,t.1,line⟩,t.2)
def uDN (l : List Tk) (line : Int) (p : PS) : Gl × PS :=
 let k:=chR l uBJ p
 let r:=uAs l [] k.2
 let w:=if uBE k.1=true then uAs l [] r.2 else ([],r.2)
 let d:=uBc l (uA8 l (l.length + 1)) (uAK l [58] w.2)
 (⟨k.1,r.1,w.1,d.1,line⟩,d.2)
def uCl (l : List Tk) (n : Nar) (line : Int) (k : Int) (q : PS) : Nar × PS :=
 if k=1 then ({ n with roles:=n.roles++(uBm l q).1 },(uBm l q).2)
 else if k=2 then ({ n with fresh:=(frRd l q n.fresh).1 },(frRd l q n.fresh).2)
 else if k=3 then ({ n with tags:=n.tags++(uBm l q).1 },(uBm l q).2)
 else if k=4 then ({ n with steps:=n.steps++[(uEs l line q).1] },(uEs l line q).2)
 else if k=5 then ({ n with goals:=n.goals++[(uDN l line q).1] },(uDN l line q).2)
 else (n,q)
def uD1 (l : List Tk) (n : Nar) (p : PS) : Nar × PS :=
 ((uCl l n (uB9 l p) (chR l uDK p).1 (chR l uDK p).2).1,uAK l [59] (uCl l n (uB9 l p) (chR l uDK p).1 (chR l uDK p).2).2)
def uCR (l : List Tk) : Nat→Nar→PS→Nar × PS
 | 0,n,p=>(n,p)
 | m + 1,n,p=>if p.bad=true then (n,p) else if symQ l p [125]=true then (n,p) else uCR l m (uD1 l n p).1 (uD1 l n p).2
def uKK (l : List Tk) : Nar × PS :=
 let a:=chR l uCT ⟨0,false⟩
 let b:=uAs l [] a.2
 let r:=uCR l (l.length + 2) { nar0 with name:=b.1 } (uAK l [123] b.2)
 (r.1,uAK l [125] r.2)
def Keeps {α : Type} (f : PS→α × PS) : Prop:=∀ p : PS,p.bad=true→(f p).2=p
theorem uLt {p : PS} (h : p.bad=true) : p.off=p:=by cases p; simp [PS.off] at h ⊢; exact h
theorem uCV {l : List Tk} {p : PS} {c : List UInt8} (h : p.bad=true) : symQ l p c=false:=by simp [symQ,h]
theorem uMb {l : List Tk} {p : PS} {ws : List (List UInt8)} (h : p.bad=true) : namQ l p ws=false:=by simp [namQ,h]
theorem uCi (l : List Tk) (c : List UInt8) {p : PS} (h : p.bad=true) : uAK l c p=p:=by rw [uAK,uCV h]; exact uLt h
theorem uBO (l : List Tk) (ws : List (List UInt8)) : Keeps (uAs l ws):=fun p h=>by rw [uAs,uMb h]; exact uLt h
theorem uMG {α : Type} {l : List Tk} {f : PS→α × PS} {p : PS} {out : List α} (n : Nat) (h : p.bad=true) : uBP l f n p out=(out,p):=uCU (uCV h) n
theorem uDQ {α : Type} {l : List Tk} {f : PS→α × PS} (hf : Keeps f) : Keeps (uBc l f):=fun p h=>by
 unfold uBc; rw [hf p h,uMG _ h]
theorem uEu (l : List Tk) (n : Nat) : Keeps (uA5 l n):=fun p h=>by
 cases n with
 | zero=>rfl
 | succ n=>rw [uA5,if_neg (by rw [uCV h]; simp),uBO l [] p h,if_neg (by rw [uCV h]; simp)]
theorem uKy (l : List Tk) (n : Nat) : Keeps (uA8 l n):=fun p h=>by
 cases n with
 | zero=>rfl
 | succ n=>rw [uA8,if_neg (by rw [uCV h]; simp),uBO l [] p h,if_neg (by rw [uCV h]; simp)]
theorem Keeps.good {α : Type} {f : PS→α × PS} (hf : Keeps f) {p : PS} (h : (f p).2.bad=false) : p.bad=false:=by
 cases hb : p.bad with
 | false=>rfl
 | true=>rw [hf p hb,hb] at h; exact h
theorem uC9 {l : List Tk} {c : List UInt8} {p : PS} (h : (uAK l c p).bad=false) : p.bad=false:=by
 cases hb : p.bad with
 | false=>rfl
 | true=>rw [uCi l c hb,hb] at h; exact h
def Agr {α : Type} (f g : PS→α × PS) : Prop:=∀ p : PS,(f p).2=(g p).2∧((f p).2.bad=false→(f p).1=(g p).1)
theorem uH5 {α : Type} {l : List Tk} {f g : PS→α × PS} (h : Agr f g) : ∀ (n : Nat) (p : PS) (out out' : List α),(p.bad=false→out=out') →
  (uBP l f n p out).2=(uBP l g n p out').2∧((uBP l f n p out).2.bad=false→(uBP l f n p out).1=(uBP l g n p out').1)
 | 0,p,out,out',ho=>⟨rfl,ho⟩
 | n + 1,p,out,out',ho=>by
  rw [uBP,uBP]
  split
  ·rename_i hq
   have hb:=(uBL hq).2
   obtain ⟨e1,e2⟩:=h p.go
   have ih:=uH5 (l:=l) h n (f p.go).2 (out++[(f p.go).1]) (out'++[(g p.go).1]) fun hz=>by rw [ho hb,e2 hz]
   rw [e1] at ih ⊢
   exact ih
  ·exact ⟨rfl,ho⟩
theorem uH3 {α : Type} {l : List Tk} {f g : PS→α × PS} (h : Agr f g) : Agr (uBc l f) (uBc l g):=fun p=>by
 unfold uBc
 obtain ⟨e1,e2⟩:=h p
 have := uH5 (l := l) h (l.length + 1) (f p).2 [(f p).1] [(g p).1] fun hz=>by rw [e2 hz]
 rw [e1] at this ⊢
 exact this
theorem uFy (l : List Tk) : ∀ n : Nat,Agr (uA8 l n) (uA5 l n)
 | 0,p=>⟨rfl,fun _=>rfl⟩
 | n + 1,p=>by
  have ih:=uFy l n
  have ihm:=uH3 (l:=l) ih
  rw [uA8,uA5]
  split
  ·have e1:=(ih p.go).1
   have e2:=(ihm (uAK l [44] (uA8 l n p.go).2)).1
   rw [e1] at e2
   have e3 : (uAK l [62] (uBc l (uA8 l n) (uAK l [44] (uA8 l n p.go).2)).2)=uAK l [62] (uBc l (uA5 l n) (uAK l [44] (uA5 l n p.go).2)).2:=by rw [e1,e2]
   split
   ·rename_i hb
    exact ⟨e3,fun hz=>by dsimp only at hz; rw [hb] at hz; cases hz⟩
   ·rename_i hb
    refine ⟨e3,fun _=>?_⟩
    have hb : (uAK l [62] (uBc l (uA8 l n) (uAK l [44] (uA8 l n p.go).2)).2).bad=false:=by simpa using hb
    have h1:=uC9 hb
    have h2:=(uDQ (l:=l) (uKy l n)).good h1
    have h3:=uC9 h2
    dsimp only
    rw [(ih p.go).2 h3,(ihm _).2 h1,e1]
  ·split
   ·split
    ·exact ⟨rfl,fun _=>rfl⟩
    ·have e2:=(ihm (uAs l [] p).2.go).1
     dsimp only
     rw [e2]
     refine ⟨rfl,fun hz=>?_⟩
     rw [← e2] at hz
     rw [(ihm _).2 (uC9 hz)]
   ·exact ⟨rfl,fun _=>rfl⟩
theorem uGz {p : List UInt8→Bool} : ∀ {l : List (List UInt8)},(∃ x ∈ l,p x=true)→0≤idxF p l
 | [],h=>by simp at h
 | x :: r,h=>by
  rw [idxF]
  split
  ·omega
  ·rename_i hx
   have : 0≤idxF p r:=uGz (by
    obtain ⟨y,hy,hp⟩:=h
    rcases List.mem_cons.1 hy with q | q
    ·subst q; exact absurd hp hx
    ·exact ⟨y,q,hp⟩)
   rw [if_neg (by omega)]; omega
theorem uKf {p : List UInt8→Bool} : ∀ {l : List (List UInt8)},(∀ x ∈ l,p x=false)→idxF p l = -1
 | [],_=>rfl
 | x :: r,h=>by
  rw [idxF,if_neg (by rw [h x (by simp)]; simp),uKf fun y hy=>h y (by simp [hy]),if_pos (by omega)]
theorem uGW {p q : List UInt8→Bool} : ∀ {l : List (List UInt8)},(∀ x ∈ l,p x=q x)→idxF p l=idxF q l
 | [],_=>rfl
 | x :: r,h=>by rw [idxF,idxF,h x (by simp),uGW fun y hy=>h y (by simp [hy])]
theorem uFn (s : List UInt8) : ∀ l : List (List UInt8),uBk l s=idxF (fun x=>decide (x=s)) l
 | []=>rfl
 | x :: l=>by
  rw [uBk,idxF,uFn s l]
  by_cases h : x=s
  ·rw [if_pos h,if_pos (by simp [h])]
  ·have h' : ¬decide (x=s)=true:=by simp [h]
   rw [if_neg h,if_neg h']
theorem uFm {l : List (List UInt8)} {s : List UInt8} (h : l.contains s=true) : 0≤uBk l s:=by
 rw [uFn]
 exact uGz ⟨s,by simpa using h,by simp⟩
theorem uN0 {ws : List (List UInt8)} (hne : [] ∉ ws) (s : List UInt8) : ∀ k : Nat,0 < k→idx0 (List.replicate k []++ws) s=if ws.contains s=true then uBk ws s + k else 0:=by
 have key : ∀ k : Nat,idxF (fun x=>decide (x=s) && decide (s≠[])) (List.replicate k []++ws)=if ws.contains s=true then uBk ws s + k else -1:=by
  intro k
  induction k with
  | zero =>
   show idxF _ ws=_
   split
   ·rename_i hc
    have hm : s ∈ ws:=by simpa using hc
    have hs : s≠[]:=fun q=>hne (q ▸ hm)
    rw [uFn,show ((0 : Nat) : Int)=0 from rfl,Int.add_zero]
    exact uGW fun x _=>by simp [hs]
   ·rename_i hc
    refine uKf fun x hx=>?_
    have : x≠s:=fun q=>by subst q; exact hc (by simpa using hx)
    simp [this]
  | succ k ih =>
   rw [List.replicate_succ,List.cons_append,idxF,if_neg (by simp),ih]
   split
   ·rename_i hc
    have := uFm hc
    rw [if_neg (by omega)]; push_cast; omega
   ·rw [if_pos (by omega)]
 intro k hk
 unfold idx0
 rw [key k]
 split
 ·rename_i hc
  have := uFm hc
  rw [if_neg (by omega)]
 ·rw [if_pos (by omega)]
theorem uI9 (l : List Tk) {ws : List (List UInt8)} (hne : [] ∉ ws) (h0 : ws≠[]) (k : Nat) (hk : 0 < k) (p : PS) :
  chR l (List.replicate k []++ws) p=(if namQ l p ws=true then uBk ws (uAs l ws p).1 + k else 0,(uAs l ws p).2):=by
 unfold chR
 rw [uN0 hne _ k hk]
 by_cases h1 : namQ l p []=true
 ·have e1 : uAs l [] p=((l.getD p.at' tk0).text,p.go):=by rw [uAs,if_pos h1]
  have hb : p.bad=false:=by
   simp only [namQ,Bool.and_eq_true,Bool.not_eq_true'] at h1; exact h1.1.1.1
  rw [e1]
  dsimp only
  by_cases hc : ws.contains (l.getD p.at' tk0).text=true
  ·have h2 : namQ l p ws=true:=by
    simp only [namQ,Bool.and_eq_true] at h1 ⊢
    exact ⟨h1.1,by rw [hc]; simp⟩
   have e2 : uAs l ws p=((l.getD p.at' tk0).text,p.go):=by rw [uAs,if_pos h2]
   have := uFm hc
   rw [if_pos hc,if_neg (by rintro (q | q); { simp [PS.go,hb] at q }; { omega }),if_pos h2,e2]
  ·have h2 : ¬namQ l p ws=true:=by
    simp only [namQ,Bool.and_eq_true,Bool.or_eq_true]
    rintro ⟨_,q | q⟩
    ·exact h0 (by simpa using q)
    ·exact hc q
   have e2 : uAs l ws p=([],p.off):=by rw [uAs,if_neg h2]
   rw [if_neg hc,if_pos (.inr rfl),if_neg h2,e2]
 ·have e1 : uAs l [] p=([],p.off):=by rw [uAs,if_neg h1]
  have h2 : ¬namQ l p ws=true:=by
   intro q
   apply h1
   simp only [namQ,Bool.and_eq_true] at q ⊢
   exact ⟨q.1,by simp⟩
  have e2 : uAs l ws p=([],p.off):=by rw [uAs,if_neg h2]
  rw [e1,if_pos (.inl rfl),if_neg h2,e2]
theorem uFV {l : List Tk} {ws : List (List UInt8)} {p : PS} (h : (uAs l ws p).2.bad=false) : namQ l p ws=true:=by
 cases hq : namQ l p ws with
 | true=>rfl
 | false=>rw [uAs,hq] at h; simp [PS.off] at h
theorem uLG (l : List Tk) (p : PS) : (chR l uBx p).2=(uAs l sortW p).2∧((chR l uBx p).2.bad=false→(chR l uBx p).1=2 + uBk sortW (uAs l sortW p).1):=by
 have h : chR l uBx p=_:=uI9 l (ws:=sortW) (by decide) (by decide) 2 (by omega) p
 rw [h]
 refine ⟨rfl,fun hb=>?_⟩
 rw [if_pos (uFV hb)]; omega
theorem uOr (l : List Tk) (p : PS) : (chR l uBJ p).2=(uAs l kindW p).2∧(chR l uBJ p).1=1 + uBk kindW (uAs l kindW p).1:=by
 have h : chR l uBJ p=_:=uI9 l (ws:=kindW) (by decide) (by decide) 1 (by omega) p
 rw [h]
 refine ⟨rfl,?_⟩
 split
 ·omega
 ·rename_i hq
  rw [uAs,if_neg hq]; rfl
theorem uNX (l : List Tk) (p : PS) : (chR l uDK p).2=(uAs l uBD p).2∧(chR l uDK p).1=1 + uBk uBD (uAs l uBD p).1:=by
 have h : chR l uDK p=_:=uI9 l (ws:=uBD) (by decide) (by decide) 1 (by omega) p
 rw [h]
 refine ⟨rfl,?_⟩
 split
 ·omega
 ·rename_i hq
  rw [uAs,if_neg hq]; rfl
theorem uN4 (l : List Tk) (p : PS) : (chR l uCT p).2=(uAs l [uDS] p).2:=by
 have h : chR l uCT p=_:=uI9 l (ws:=[uDS]) (by decide) (by decide) 1 (by omega) p
 rw [h]
theorem uLa {l : List Tk} {role : List UInt8} {p : PS} {out : List Fs} (h : p.bad=true) : ∀ n,uB1 l role n p out=(out,p)
 | 0=>rfl
 | n + 1=>by rw [uB1,if_pos h]
theorem uNh (l : List Tk) (role : List UInt8) : ∀ (n : Nat) (p : PS) (out : List Fs),0 < n→l.length < n + p.at' →
  (frRA l role n p out).2=(uB1 l role n p out).2∧((frRA l role n p out).2.bad=false→(frRA l role n p out).1=(uB1 l role n p out).1)
 | 0,p,out,h,_=>by omega
 | n + 1,p,out,_,hn=>by
  have hc:=uLG l (uAs l [] p).2
  have hk:=uBO l []
  have hk2:=uBO l sortW
  by_cases hp : p.bad=true
  ·have e1:=hk p hp
   have e2 : (chR l uBx (uAs l [] p).2).2=p:=by rw [hc.1,e1,hk2 p hp]
   rw [frRA,uB1,if_pos hp,e2,if_pos hp]
   exact ⟨rfl,fun q=>by dsimp only at q; rw [hp] at q; cases q⟩
  ·rw [frRA,uB1,if_neg hp,hc.1]
   split
   ·rename_i hb
    rw [if_neg (by rw [uCV hb]; simp)]
    exact ⟨rfl,fun q=>by dsimp only at q; rw [hb] at q; cases q⟩
   ·rename_i hb
    have hb : (uAs l sortW (uAs l [] p).2).2.bad=false:=by simpa using hb
    have hv:=hc.2 (by rw [hc.1]; exact hb)
    rw [hv]
    split
    ·rename_i hq
     have h1:=(uBL hq).1
     have h2:=(uA4 l [] p).1
     have h3:=(uA4 l sortW (uAs l [] p).2).1
     have hg : (uAs l sortW (uAs l [] p).2).2.go.at'=(uAs l sortW (uAs l [] p).2).2.at' + 1:=rfl
     exact uNh l role n _ _ (by omega) (by omega)
    ·exact ⟨rfl,fun _=>rfl⟩
theorem uI7 (l : List Tk) (out : List Fs) : Keeps (fun p=>uCd l p out):=fun p h=>by
 show (uB1 _ _ _ _ _).2=p
 rw [uBO l [] p h,uCi l [58] h,uLa h]
theorem uJG (l : List Tk) (out : List Fs) : Agr (fun p=>frRd l p out) (fun p=>uCd l p out):=fun p=>by
 refine uNh l _ (l.length + 1) _ out (by omega) ?_
 omega
theorem uKJ (l : List Tk) (line : Int) : Keeps (uC7 l line):=fun p h=>by
 show (uA5 _ _ _).2=p
 rw [uBO l [] p h,uCi l _ h,uCi l _ h,uBO l [] p h,uCi l _ h,uEu l _ p h]
theorem uJy (l : List Tk) (line : Int) : Agr (uEs l line) (uC7 l line):=fun p=>by
 obtain ⟨e1,e2⟩:=uFy l (l.length + 1) (uAK l [58] (uAs l [] (uAK l [62] (uAK l [45] (uAs l [] p).2))).2)
 refine ⟨e1,fun hb=>?_⟩
 show (⟨_,_,_,_⟩ : Sp)=⟨_,_,_,_⟩
 rw [e2 hb]
theorem uKH (l : List Tk) (line : Int) : Keeps (uCF l line):=fun p h=>by
 show (uBc _ _ _).2=p
 rw [uBO l kindW p h,uBO l [] p h]
 split
 ·rw [uBO l [] p h,uCi l _ h,uDQ (uEu l _) p h]
 ·rw [uCi l _ h,uDQ (uEu l _) p h]
theorem uJD (l : List Tk) (line : Int) : Agr (uDN l line) (uCF l line):=fun p=>by
 obtain ⟨c1,c2⟩:=uOr l p
 have hm:=uH3 (l:=l) (uFy l (l.length + 1))
 unfold uDN uCF
 dsimp only
 rw [c1,c2]
 obtain ⟨e1,e2⟩:=hm (uAK l [58] (if uBE (1 + uBk kindW (uAs l kindW p).1)=true then uAs l [] (uAs l [] (uAs l kindW p).2).2 else ([],(uAs l [] (uAs l kindW p).2).2)).2)
 exact ⟨e1,fun hb=>by rw [e2 hb]⟩
theorem uFw (l : List Tk) : Keeps (uBm l):=uDQ (uBO l [])
theorem uKZ (w : List UInt8) : (1 + uBk uBD w=1 ↔ w=uE2)∧(1 + uBk uBD w=2 ↔ w=uDU)∧(1 + uBk uBD w=3 ↔ w=uEZ)∧(1 + uBk uBD w=4 ↔ w=wMsg)∧(1 + uBk uBD w=5 ↔ w=uE8):=by
  have e : uBk uBD w=if uE2=w then 0 else if uDU=w then 1 else if uEZ=w then 2 else if wMsg=w then 3 else if uE8=w then 4 else -1:=by
    simp only [uBD,uBk]
    repeat' split
    all_goals omega
  rw [e]
  refine ⟨⟨fun h=>?_,fun h=>?_⟩,⟨fun h=>?_,fun h=>?_⟩,⟨fun h=>?_,fun h=>?_⟩,⟨fun h=>?_,fun h=>?_⟩,⟨fun h=>?_,fun h=>?_⟩⟩
  all_goals first
    | (subst h; decide)
    | (repeat' split at h
       all_goals first
         | (symm; assumption)
         | omega)
theorem uJH (l : List Tk) (n : Nar) (line : Int) (w : List UInt8) : Keeps (uB5 l n line w):=fun p h=>by
 unfold uB5
 repeat' split
 ·exact uFw l p h
 ·exact uI7 l n.fresh p h
 ·exact uFw l p h
 ·exact uKJ l line p h
 ·exact uKH l line p h
 ·rfl
theorem uMo (l : List Tk) (n : Nar) (line : Int) (w : List UInt8) (q : PS) : (uCl l n line (1 + uBk uBD w) q).2=(uB5 l n line w q).2∧((uCl l n line (1 + uBk uBD w) q).2.bad=false→(uCl l n line (1 + uBk uBD w) q).1=(uB5 l n line w q).1):=by
 obtain ⟨h1,h2,h3,h4,h5⟩:=uKZ w
 unfold uCl uB5
 simp only [h1,h2,h3,h4,h5]
 repeat' split
 ·exact ⟨rfl,fun _=>rfl⟩
 ·obtain ⟨e1,e2⟩:=uJG l n.fresh q
  exact ⟨e1,fun hb=>by have := e2 hb; dsimp only at this ⊢; rw [this]⟩
 ·exact ⟨rfl,fun _=>rfl⟩
 ·obtain ⟨e1,e2⟩:=uJy l line q
  exact ⟨e1,fun hb=>by have := e2 hb; dsimp only at this ⊢; rw [this]⟩
 ·obtain ⟨e1,e2⟩:=uJD l line q
  exact ⟨e1,fun hb=>by have := e2 hb; dsimp only at this ⊢; rw [this]⟩
 ·exact ⟨rfl,fun _=>rfl⟩
theorem uHZ (l : List Tk) (role : List UInt8) : ∀ (n : Nat) (p : PS) (out : List Fs),p.at'≤(uB1 l role n p out).2.at'∧(p.at'≤l.length→(uB1 l role n p out).2.at'≤l.length)
 | 0,p,out=>by simp [uB1]
 | n + 1,p,out=>by
  have h1:=uA4 l [] p
  have h2:=uA4 l sortW (uAs l [] p).2
  rw [uB1]
  split
  ·simp
  split
  ·rename_i hq
   have h3:=(uBL hq).1
   have hg : (uAs l sortW (uAs l [] p).2).2.go.at'=(uAs l sortW (uAs l [] p).2).2.at' + 1:=rfl
   have h4:=uHZ l role n (uAs l sortW (uAs l [] p).2).2.go (out++[⟨role,(uAs l [] p).1,2 + uBk sortW (uAs l sortW (uAs l [] p).2).1⟩])
   omega
  ·dsimp only; omega
def Fwd {α : Type} (l : List Tk) (f : PS→α × PS) : Prop:=∀ p : PS,p.at'≤(f p).2.at'∧(p.at'≤l.length→(f p).2.at'≤l.length)
theorem uF6 (l : List Tk) (out : List Fs) : Fwd l (fun p=>uCd l p out):=fun p=>by
 have h1:=uA4 l [] p
 have h2:=uBu l [58] (uAs l [] p).2
 have h3:=uHZ l (uAs l [] p).1 (l.length + 1) (uAK l [58] (uAs l [] p).2) out
 show p.at'≤(uB1 _ _ _ _ _).2.at'∧(_→(uB1 _ _ _ _ _).2.at'≤_)
 omega
theorem uFS (l : List Tk) (line : Int) : Fwd l (uC7 l line):=fun p=>by
 have h1:=uA4 l [] p
 have h2:=uBu l [45] (uAs l [] p).2
 have h3:=uBu l [62] (uAK l [45] (uAs l [] p).2)
 have h4:=uA4 l [] (uAK l [62] (uAK l [45] (uAs l [] p).2))
 have h5:=uBu l [58] (uAs l [] (uAK l [62] (uAK l [45] (uAs l [] p).2))).2
 have h6:=uCH l (l.length + 1) (uAK l [58] (uAs l [] (uAK l [62] (uAK l [45] (uAs l [] p).2))).2)
 show p.at'≤(uA5 _ _ _).2.at'∧(_→(uA5 _ _ _).2.at'≤_)
 omega
theorem uFx (l : List Tk) (line : Int) : Fwd l (uCF l line):=fun p=>by
 have h1:=uA4 l kindW p
 have h2:=uA4 l [] (uAs l kindW p).2
 have h3 : (uAs l [] (uAs l kindW p).2).2.at'≤(if uBE (1 + uBk kindW (uAs l kindW p).1)=true then uAs l [] (uAs l [] (uAs l kindW p).2).2 else ([],(uAs l [] (uAs l kindW p).2).2)).2.at'∧((uAs l [] (uAs l kindW p).2).2.at'≤l.length→(if uBE (1 + uBk kindW (uAs l kindW p).1)=true then uAs l [] (uAs l [] (uAs l kindW p).2).2 else ([],(uAs l [] (uAs l kindW p).2).2)).2.at'≤l.length):=by
  split
  ·exact uA4 l [] _
  ·simp
 have h4:=uBu l [58] (if uBE (1 + uBk kindW (uAs l kindW p).1)=true then uAs l [] (uAs l [] (uAs l kindW p).2).2 else ([],(uAs l [] (uAs l kindW p).2).2)).2
 have h5:=uCv (uCH l (l.length + 1)) (uAK l [58] (if uBE (1 + uBk kindW (uAs l kindW p).1)=true then uAs l [] (uAs l [] (uAs l kindW p).2).2 else ([],(uAs l [] (uAs l kindW p).2).2)).2)
 show p.at'≤(uBc _ _ _).2.at'∧(_→(uBc _ _ _).2.at'≤_)
 omega
theorem uHo (l : List Tk) (n : Nar) (line : Int) (w : List UInt8) : Fwd l (uB5 l n line w):=fun p=>by
 unfold uB5
 repeat' split
 ·exact uCv (uA4 l []) p
 ·exact uF6 l n.fresh p
 ·exact uCv (uA4 l []) p
 ·exact uFS l line p
 ·exact uFx l line p
 ·exact ⟨Nat.le_refl _,fun h=>h⟩
theorem uHw (l : List Tk) (n : Nar) (p : PS) (hp : p.at'≤l.length) : (uCx l n p).2.at'≤l.length∧((uCx l n p).2.bad=false→p.at' < (uCx l n p).2.at'):=by
 have h1:=uA4 l uBD p
 have h2:=uHo l n (uB9 l p) (uAs l uBD p).1 (uAs l uBD p).2
 have h3:=uBu l [59] (uB5 l n (uB9 l p) (uAs l uBD p).1 (uAs l uBD p).2).2
 have e : (uCx l n p).2=uAK l [59] (uB5 l n (uB9 l p) (uAs l uBD p).1 (uAs l uBD p).2).2:=rfl
 rw [e]
 refine ⟨by omega,fun hb=>?_⟩
 have hq:=uFV ((uJH l n _ _).good (uC9 hb))
 have : (uAs l uBD p).2.at'=p.at' + 1:=by rw [uAs,if_pos hq]; rfl
 omega
theorem uJW (l : List Tk) (n : Nar) : Agr (uD1 l n) (uCx l n):=fun p=>by
 obtain ⟨c1,c2⟩:=uNX l p
 unfold uD1 uCx
 dsimp only
 rw [c1,c2]
 obtain ⟨e1,e2⟩:=uMo l n (uB9 l p) (uAs l uBD p).1 (uAs l uBD p).2
 rw [e1] at e2 ⊢
 exact ⟨rfl,fun hb=>e2 (uC9 hb)⟩
theorem uJa (l : List Tk) (m : Nat) (n : Nar) : Keeps (uCK l m n):=fun p h=>by
 cases m with
 | zero=>rfl
 | succ m=>rw [uCK,if_pos h]
theorem uIQ (l : List Tk) (m : Nat) (n : Nar) : Keeps (uCR l m n):=fun p h=>by
 cases m with
 | zero=>rfl
 | succ m=>rw [uCR,if_pos h]
theorem uIb (l : List Tk) : ∀ (m : Nat) (p : PS) (n n' : Nar),(p.bad=false→n=n')→p.at'≤l.length→l.length < m + p.at'∨p.bad=true →
  (uAK l [125] (uCR l m n p).2)=(uCK l m n' p).2∧((uCK l m n' p).2.bad=false→(uCR l m n p).1=(uCK l m n' p).1)
 | m,p,n,n',hn,hp,hm=>by
  by_cases hb : p.bad=true
  ·rw [uJa l m n' p hb,uIQ l m n p hb,uCi l _ hb]
   exact ⟨rfl,fun q=>by rw [hb] at q; cases q⟩
  ·have hm:=hm.resolve_right hb
   match m with
   | 0=>omega
   | m + 1 =>
    have hb' : p.bad=false:=by simpa using hb
    rw [uCK,uCR,if_neg hb,if_neg hb]
    split
    ·rename_i hq
     dsimp only
     rw [uAK,if_pos hq]
     exact ⟨rfl,fun _=>hn hb'⟩
    ·obtain ⟨e1,e2⟩:=uJW l n p
     have hn:=hn hb'
     subst hn
     obtain ⟨a1,a2⟩:=uHw l n p hp
     rw [e1]
     refine uIb l m _ _ _ (fun q=>e2 (by rw [e1]; exact q)) a1 ?_
     cases hz : (uCx l n p).2.bad with
     | true=>exact .inr rfl
     | false=>exact .inl (by have := a2 hz; omega)
theorem uNf (l : List Tk) : (uKK l).2=(uC5 l).2∧((uC5 l).2.bad=false→(uKK l).1=(uC5 l).1):=by
 unfold uKK uC5
 dsimp only
 rw [uN4]
 have h1:=uA4 l [uDS] ⟨0,false⟩
 have h2:=uA4 l [] (uAs l [uDS] ⟨0,false⟩).2
 have h3:=uBu l [123] (uAs l [] (uAs l [uDS] ⟨0,false⟩).2).2
 exact uIb l _ _ _ _ (fun _=>rfl) (by dsimp only at h1; omega) (.inl (by omega))
end Go.Proofs.YtnjjdbapadkomaaGreatDoor
namespace Go.Proofs.YtnjjdbapadkomaaGreatDoor
open Go Go.Abs
structure GoodTk (N : Nat) (t : Tk) : Prop where
 form : (t.kind=1∧t.int=0∧t.str=[]∧uBo ((t.text.getD 0 0).toNat : Int)=true∧nlE t.text=t.text.length∧t.text≠[]∧t.text.length≤24) ∨
  (t.kind=2∧t.text=[]∧t.str=[]∧0≤t.int∧t.int≤9223372036854775807)∨(t.kind=3∧t.text=[]∧t.int=0) ∨
  (t.kind=4∧t.int=0∧t.str=[] ∧ ∃ c,t.text=[c]∧symB c=true)
 s : t.str.length≤N
theorem uOJ {c : UInt8} (h : symB c=true) : uBo (c.toNat : Int)≠true∧uBK (c.toNat : Int)≠true∧c.toNat≠34∧c.toNat≠35∧c.toNat≠10∧uCB c=false:=by
 have hm : c ∈ syms:=by simpa [symB] using h
 simp only [syms,List.mem_cons,List.not_mem_nil,or_false] at hm
 rcases hm with rfl | rfl | rfl | rfl | rfl | rfl | rfl | rfl | rfl | rfl | rfl | rfl | rfl | rfl | rfl | rfl | rfl | rfl <;> decide
theorem GoodTk.onl {N : Nat} {t : Tk} (h : GoodTk N t) (k : Int) : GoodTk N (t.onl k):=⟨h.form,h.s⟩
theorem GoodTk.mono {N M : Nat} {t : Tk} (h : GoodTk N t) (hm : N≤M) : GoodTk M t:=⟨h.form,Nat.le_trans h.s hm⟩
theorem lineP_len' : ∀ (n : Nat) (l : List UInt8) (k : Int) (out : List Tk),(uBv n l k out).1.length≤out.length + l.length
 | 0,l,k,out=>by simp [uBv]
 | n + 1,l,k,out=>by
  have h1:=uF0 l
  rw [uBv]
  split
  ·simp
  ·rename_i hq
   have hne : 0 < (uBC l).length:=List.length_pos_iff.2 fun h=>hq (.inl h)
   split
   ·simp
   ·rename_i he
    have h2:=uFH hne
    have h3:=h2.2 (Decidable.not_not.1 he)
    have ih:=lineP_len' n ((uBC l).drop (uBR (uBC l)).2.1) k (out++[(uBR (uBC l)).1.onl k])
    simp only [List.length_drop,List.length_append,List.length_singleton] at ih
    omega
def sumL (L : List (List UInt8)) : Nat:=(L.map List.length).sum
theorem uLU : ∀ (s : List UInt8),sumL (spl s)≤s.length
 | []=>by simp [sumL,spl]
 | b :: l=>by
  have ih:=uLU l
  rw [spl]
  split
  ·simp only [sumL,List.map_cons,List.sum_cons,List.length_nil,List.length_cons] at ih ⊢; omega
  ·split
   ·simp [sumL]
   ·rename_i h; rw [h] at ih
    simp only [sumL,List.map_cons,List.sum_cons,List.length_cons] at ih ⊢; omega
def Apart (r : List UInt8) : Prop:=r=[]∨uCB (r.getD 0 0)=true
end Go.Proofs.YtnjjdbapadkomaaGreatDoor
namespace Go.Proofs.YtnjjdbapadkomaaGreatDoor
open Go Go.Abs
def TT (s : List UInt8) (k : Nat) (out : List Tk) : List Tk × Nat × Int:=uCY (spl s) k out
theorem uGY {l : List UInt8} (h : ∀ b ∈ l,b.toNat≠10) {n m : Nat} (k : Int) (out : List Tk) (hn : l.length < n) (hm : l.length < m) : uBv n l k out=uBv m l k out:=by
 rw [← uDA l.length l (Nat.le_refl _) h n ((uBh l).length + 1) k out hn (by omega),← uDA l.length l (Nat.le_refl _) h m ((uBh l).length + 1) k out hm (by omega)]
theorem uHC {b : UInt8} {l x : List UInt8} {r : List (List UInt8)} (hb : b.toNat≠10) (h : spl l=x :: r) : spl (b :: l)=(b :: x) :: r:=by
 rw [spl,if_neg hb,h]
theorem uNy {b : UInt8} {l : List UInt8} (hb : b.toNat=10) : spl (b :: l)=[] :: spl l:=by rw [spl,if_pos hb]
theorem uLH : ∀ (w : List UInt8) {l x : List UInt8} {r : List (List UInt8)},(∀ b ∈ w,b.toNat≠10)→spl l=x :: r→spl (w++l)=(w++x) :: r
 | [],_,_,_,_,h=>h
 | b :: w,l,x,r,hw,h=>uHC (hw b (by simp)) (uLH w (fun c hc=>hw c (by simp [hc])) h)
theorem uFC (s : List UInt8) : ∃ x r,spl s=x :: r:=by
 cases h : spl s with
 | nil=>exact absurd h (uHb s)
 | cons x r=>exact ⟨x,r,rfl⟩
theorem uLg {n : Nat} {l l' : List UInt8} {k : Int} {out : List Tk} (h : uBC l=uBC l') : uBv (n + 1) l k out=uBv (n + 1) l' k out:=by simp only [uBv,h]
theorem uHj {l l' : List UInt8} {L : List (List UInt8)} {k : Nat} {out out' : List Tk} (h : uBv (l.length + 1) l (k : Int) out=uBv (l'.length + 1) l' (k : Int) out') : uCY (l :: L) k out=uCY (l' :: L) k out':=by
 rw [uCY,uCY,h]
theorem uNT {w : UInt8} (hw : w.toNat=32∨w.toNat=9∨w.toNat=13) (r : List UInt8) (k : Nat) (out : List Tk) : TT (w :: r) k out=TT r k out:=by
 obtain ⟨x,xs',h⟩:=uFC r
 have hin : wsp.contains w=true:=by
  rcases hw with q | q | q
  ·rw [show w=32 from UInt8.toNat_inj.1 q]; rfl
  ·rw [show w=9 from UInt8.toNat_inj.1 q]; rfl
  ·rw [show w=13 from UInt8.toNat_inj.1 q]; rfl
 have ht : uBC (w :: x)=uBC x:=by unfold uBC; rw [List.dropWhile_cons,if_pos hin]
 have hno : ∀ b ∈ x,b.toNat≠10:=uFO r x (by rw [h]; simp)
 unfold TT
 rw [uHC (by omega) h,h]
 refine uHj ?_
 rw [← uGY hno (n:=x.length + 1 + 1) (m:=x.length + 1) _ _ (by omega) (by omega)]
 exact uLg ht
theorem uO5 {b : UInt8} (hb : b.toNat=10) (r : List UInt8) (k : Nat) (out : List Tk) : TT (b :: r) k out=TT r (k + 1) out:=by
 unfold TT
 rw [uNy hb,uCY,uIt,if_neg (by simp)]
theorem uGw : ∀ (L : List (List UInt8)) (k : Nat) (out : List Tk),(uCY L k out).1.length≤out.length + sumL L
 | [],k,out=>by simp [uCY]
 | l :: L,k,out=>by
  rw [uCY]
  split
  ·simp
  ·have h1:=lineP_len' (l.length + 1) l (k : Nat) out
   have ih:=uGw L (k + 1) (uBv (l.length + 1) l (k : Nat) out).1
   simp only [sumL,List.map_cons,List.sum_cons] at ih ⊢
   omega
theorem uFc (s : List UInt8) : (tokP s).1.length≤s.length:=by
 unfold tokP
 split
 ·simp
 ·have h1:=uGw (spl s) 1 []
  have h2:=uLU s
  simp only [List.length_nil] at h1
  omega
end Go.Proofs.YtnjjdbapadkomaaGreatDoor
namespace Go.Proofs.YtnjjdbapadkomaaGreatDoor
open Go Go.Abs
def nmT (w : List UInt8) : Tk:=⟨1,w,0,[],0⟩
def syT (c : UInt8) : Tk:=⟨4,[c],0,[],0⟩
def uOZ : List (List Tk)→List Tk
 | []=>[]
 | x :: r=>x++(r.map fun y=>syT 44 :: y).flatten
def Apt (r : List UInt8) : Prop:=r=[]∨uB3 ((r.getD 0 0).toNat : Int)≠true
theorem uLW : ∀ (l r : List UInt8),nmP l=l.length→Apt r→nmP (l++r)=l.length
 | [],r,_,hr=>by
  rcases hr with h | h
  ·subst h; rfl
  ·cases r with
   | nil=>rfl
   | cons c r =>
    rw [List.getD_cons_zero] at h
    show nmP (c :: r)=0
    rw [nmP,if_neg (fun q=>h q.1)]
 | b :: l,r,h,hr=>by
  rw [nmP] at h
  split at h
  ·rename_i hq
   have ih:=uLW l r (by simpa using h) hr
   show nmP (b :: (l++r))=_
   rw [nmP,if_pos,ih]; rfl
   refine ⟨hq.1,fun q=>?_⟩
   cases l with
   | cons d l=>exact hq.2 q
   | nil =>
    obtain ⟨q1,q2⟩:=q
    rcases hr with z | z
    ·subst z; simp at q2
    ·rw [List.nil_append] at q2
     rw [q2] at z
     exact z (by decide)
  ·simp at h
theorem uOc {l r : List UInt8} (h : nlE l=l.length) (hl : l≠[]) (hr : Apt r) : nlE (l++r)=l.length:=by
 cases l with
 | nil=>exact absurd rfl hl
 | cons c l =>
  have h1 : nmP l=l.length:=by simp [nlE] at h; omega
  have h2:=uLW l r h1 hr
  simp [nlE,h2]; omega
theorem uNW {r x : List UInt8} {xs' : List (List UInt8)} (hr : Apt r) (h : spl r=x :: xs') : Apt x:=by
 rcases hr with q | q
 ·subst q
  simp only [spl,List.cons.injEq] at h
  exact .inl h.1.symm
 ·cases r with
  | nil=>simp only [spl,List.cons.injEq] at h; exact .inl h.1.symm
  | cons c r =>
   rw [List.getD_cons_zero] at q
   by_cases hc : c.toNat=10
   ·rw [uNy hc] at h
    simp only [List.cons.injEq] at h
    exact .inl h.1.symm
   ·obtain ⟨y,ys,hy⟩:=uFC r
    rw [uHC hc hy] at h
    simp only [List.cons.injEq] at h
    rw [← h.1]
    exact .inr q
theorem uLP {w r x : List UInt8} {xs' : List (List UInt8)} {t : Tk} {c : UInt8} {l : List UInt8} (h : spl r=x :: xs') (e1 : uBR (w++x)=(t.onl 0,w.length,0)) (e2 : w=c :: l) (e3 : uCB c=false) (e4 : c.toNat≠35)
  (hw : ∀ b ∈ w,b.toNat≠10) (k : Nat) (out : List Tk) : TT (w++r) k out=TT r k (out++[t.onl k]):=by
 have hno:=uFO r x (by rw [h]; simp)
 have hin : ¬wsp.contains c=true:=by
  intro q
  have : c=32∨c=9∨c=13:=by simpa [wsp] using q
  rcases this with rfl | rfl | rfl <;> simp [uCB] at e3
 have ht2 : uBC (w++x)=w++x:=by
  rw [e2]
  unfold uBC
  show List.dropWhile _ (c :: (l++x))=_
  rw [List.dropWhile_cons,if_neg hin]; rfl
 have hcut : ¬(w++x=[]∨[35,35].isPrefixOf (w++x)=true):=by
  rw [e2]
  rintro (q | q)
  ·cases q
  ·have q : ([35,35] : List UInt8).isPrefixOf (c :: (l++x))=true:=q
   rw [uLv] at q
   simp only [Bool.and_eq_true,decide_eq_true_eq] at q
   exact e4 q.1
 unfold TT
 rw [uLH w hw h,h]
 refine uHj ?_
 rw [uBv,ht2,if_neg hcut,e1,if_neg (by simp)]
 dsimp only
 rw [List.drop_left' rfl]
 refine uGY hno _ _ ?_ (by omega)
 rw [List.length_append,e2]; simp only [List.length_cons]; omega
theorem uHf {w : List UInt8} (h : uAM w=true) : w≠[]∧uBo ((w.getD 0 0).toNat : Int)=true∧nlE w=w.length∧w.length≤24:=by
 simp only [uAM,Bool.and_eq_true,decide_eq_true_eq] at h
 exact ⟨h.1.1.1,h.1.1.2,h.1.2,h.2⟩
theorem uLO {w : List UInt8} (h : uAM w=true) : ∀ b ∈ w,b.toNat≠10:=by
 obtain ⟨h1,h2,h3,_⟩:=uHf h
 cases w with
 | nil=>exact absurd rfl h1
 | cons c r =>
  rw [List.getD_cons_zero] at h2
  intro b hb
  rcases List.mem_cons.1 hb with q | q
  ·subst q; intro z; rw [z] at h2; revert h2; decide
  ·have := uIH r (by unfold nlE at h3; simp at h3; omega)
   exact uGb (by have := List.all_eq_true.1 this b q; exact this)
theorem uN2 {w : List UInt8} (hn : uAM w=true) {r : List UInt8} (hr : Apt r) (k : Nat) (out : List Tk) : TT (w++r) k out=TT r k (out++[(nmT w).onl k]):=by
 obtain ⟨x,xs',h⟩:=uFC r
 obtain ⟨h1,h2,h3,h4⟩:=uHf hn
 obtain ⟨c,l,rfl⟩ : ∃ c l,w=c :: l:=by
  cases w with
  | nil=>exact absurd rfl h1
  | cons c l=>exact ⟨c,l,rfl⟩
 rw [List.getD_cons_zero] at h2
 refine uLP h ?_ rfl ?_ ?_ (uLO hn) k out
 ·have e1:=uOc h3 h1 (uNW hr h)
  unfold uBR
  have e2 : ((c :: l)++x).getD 0 0=c:=rfl
  rw [e2,if_pos h2,e1,if_neg (by omega),List.take_left' rfl]; rfl
 ·rw [Bool.eq_false_iff]; intro q
  have : c.toNat=32∨c.toNat=9∨c.toNat=10∨c.toNat=13:=by simp [uCB] at q; omega
  rcases this with q | q | q | q <;> rw [q] at h2 <;> revert h2 <;> decide
 ·intro q; rw [q] at h2; revert h2; decide
theorem uOY {c : UInt8} (hc : symB c=true) (r : List UInt8) (k : Nat) (out : List Tk) : TT (c :: r) k out=TT r k (out++[(syT c).onl k]):=by
 obtain ⟨x,xs',h⟩:=uFC r
 obtain ⟨s1,s2,s3,s4,s5,s6⟩:=uOJ hc
 refine uLP (w:=[c]) h ?_ rfl s6 s4 (by simpa using s5) k out
 unfold uBR
 have e2 : ([c]++x).getD 0 0=c:=rfl
 rw [e2,if_neg s1,if_neg s2,if_neg s3,if_pos hc]; rfl
def Toks (b : Bool) (s : List UInt8) (ts : List Tk) : Prop:=∀ (r : List UInt8) (k : Nat) (out : List Tk),b=true∨Apt r → ∃ d l',l'.map (·.nl false)=ts∧TT (s++r) k out=TT r (k + d) (out++l')
def Fr (s : List UInt8) : Prop:=s≠[]∧uB3 ((s.getD 0 0).toNat : Int)≠true
theorem Fr.apt {s : List UInt8} (h : Fr s) (r : List UInt8) : Apt (s++r):=by
 cases s with
 | nil=>exact absurd rfl h.1
 | cons c s=>exact .inr h.2
theorem Toks.nil : Toks true [] []:=fun r k out _=>⟨0,[],rfl,by simp⟩
theorem Toks.weak {b : Bool} {s : List UInt8} {ts : List Tk} (h : Toks true s ts) : Toks b s ts:=fun r k out _=>h r k out (.inl rfl)
theorem Toks.app {b b' : Bool} {s s' : List UInt8} {ts ts' : List Tk} (h : Toks b s ts) (h' : Toks b' s' ts') (hb : b=true∨Fr s') : Toks b' (s++s') (ts++ts'):=fun r k out hr=>by
 obtain ⟨d,l1,e1,e2⟩:=h (s'++r) k out (hb.elim .inl fun q=>.inr (q.apt r))
 obtain ⟨d',l2,e3,e4⟩:=h' r (k + d) (out++l1) hr
 exact ⟨d + d',l1++l2,by rw [List.map_append,e1,e3],by rw [List.append_assoc,e2,e4,List.append_assoc,Nat.add_assoc]⟩
theorem Toks.name {w : List UInt8} (h : uAM w=true) : Toks false w [nmT w]:=fun r k out hr=>⟨0,[(nmT w).onl k],rfl,uN2 h (hr.resolve_left (by simp)) k out⟩
theorem Toks.sym {c : UInt8} (h : symB c=true) : Toks true [c] [syT c]:=fun r k out _=>⟨0,[(syT c).onl k],rfl,uOY h r k out⟩
theorem Toks.sp : Toks true [32] []:=fun r k out _=>⟨0,[],rfl,by rw [List.append_nil]; exact uNT (.inl rfl) r k out⟩
theorem Toks.nl : Toks true [10] []:=fun r k out _=>⟨1,[],rfl,by rw [List.append_nil]; exact uO5 rfl r k out⟩
theorem Toks.join {α : Type} {f : α→List UInt8} {g : α→List Tk} : ∀ {l : List α},(∀ x ∈ l,Toks false (f x) (g x))→Toks false (Lib.join (l.map f) [44,32]) (uOZ (l.map g))
 | [],_=>Toks.nil.weak
 | x :: l,h=>by
  have tail : ∀ {l : List α},(∀ x ∈ l,Toks false (f x) (g x))→Toks false (Lib.joinTail [44,32] (l.map f)) ((l.map g).map fun y=>syT 44 :: y).flatten∧(l=[]∨Fr (Lib.joinTail [44,32] (l.map f))):=by
   intro l
   induction l with
   | nil=>exact fun _=>⟨Toks.nil.weak, .inl rfl⟩
   | cons y l ih =>
    intro h
    have e : Lib.joinTail [44,32] ((y :: l).map f)=([44]++[32])++(f y++Lib.joinTail [44,32] (l.map f)):=by simp [Lib.joinTail]
    have e2 : (((y :: l).map g).map fun y=>syT 44 :: y).flatten=([syT 44]++[])++(g y++((l.map g).map fun y=>syT 44 :: y).flatten):=by simp
    obtain ⟨i1,i2⟩:=ih fun z hz=>h z (by simp [hz])
    rw [e,e2]
    refine ⟨((Toks.sym (by decide)).app Toks.sp (.inl rfl)).app ?_ (.inl rfl), .inr ⟨by simp,by simp; decide⟩⟩
    rcases i2 with q | q
    ·subst q
     simp only [List.map_nil,List.flatten_nil,List.append_nil,Lib.joinTail,List.flatMap_nil]
     exact h y (by simp)
    ·exact (h y (by simp)).app i1 (.inr q)
  rw [List.map_cons,List.map_cons,Lib.join_cons]
  obtain ⟨i1,i2⟩:=tail (l:=l) fun z hz=>h z (by simp [hz])
  show Toks false _ (g x++_)
  rcases i2 with q | q
  ·subst q
   simp only [List.map_nil,List.flatten_nil,List.append_nil,Lib.joinTail,List.flatMap_nil]
   exact h x (by simp)
  ·exact (h x (by simp)).app i1 (.inr q)
mutual
def gdB : T→Bool
 | .mk k n s ks=>decide (s=0) && uAM n && ((decide (k=2) && ks.isEmpty) || decide (k=3)) && gdBs ks
def gdBs : List T→Bool
 | []=>true
 | t :: ts=>gdB t && gdBs ts
end
end Go.Proofs.YtnjjdbapadkomaaGreatDoor
namespace Go.Proofs.YtnjjdbapadkomaaGreatDoor
open Go Go.Abs
def At (l : List Tk) (p : PS) (ts : List Tk) : Prop:=p.bad=false∧p.at'≤l.length∧l.drop p.at'=ts
theorem At.cons {l : List Tk} {p : PS} {t : Tk} {ts : List Tk} (h : At l p (t :: ts)) : p.at' < l.length∧l.getD p.at' tk0=t∧At l p.go ts:=by
 obtain ⟨h1,h2,h3⟩:=h
 have hlt : p.at' < l.length:=by
  rcases Nat.lt_or_ge p.at' l.length with q | q
  ·exact q
  ·rw [List.drop_of_length_le q] at h3; cases h3
 rw [uG0 (d:=tk0) hlt] at h3
 simp only [List.cons.injEq] at h3
 exact ⟨hlt,h3.1,h1,hlt,h3.2⟩
theorem At.len {l : List Tk} {p : PS} {ts : List Tk} (h : At l p ts) : ts.length + p.at'=l.length:=by
 obtain ⟨h1,h2,h3⟩:=h
 rw [← h3,List.length_drop]; omega
theorem At.good {l : List Tk} {p : PS} {ts : List Tk} (h : At l p ts) : p.bad=false:=h.1
def Pln (ts : List Tk) : Prop:=∀ t ∈ ts,t.int=0∧t.str=[]∧t.line=0
theorem Pln.nil : Pln []:=by intro t h; simp at h
theorem Pln.app {a b : List Tk} (h : Pln a) (h' : Pln b) : Pln (a++b):=fun t ht=>(List.mem_append.1 ht).elim (h t) (h' t)
theorem Pln.nm (w : List UInt8) : Pln [nmT w]:=by intro t h; simp at h; subst h; exact ⟨rfl,rfl,rfl⟩
theorem Pln.cons {t : Tk} {ts : List Tk} (h : Pln [t]) (h' : Pln ts) : Pln (t :: ts):=h.app (a:=[t]) h'
theorem Pln.right {a b : List Tk} (h : Pln (a++b)) : Pln b:=fun t ht=>h t (by simp [ht])
theorem Pln.tail {a : Tk} {b : List Tk} (h : Pln (a :: b)) : Pln b:=fun t ht=>h t (by simp [ht])
end Go.Proofs.YtnjjdbapadkomaaGreatDoor
namespace Go.Proofs.YtnjjdbapadkomaaGreatDoor
open Go Go.Abs
def Sp.el (s : Sp) : Sp:={ s with line:=0 }
def Gl.el (g : Gl) : Gl:={ g with line:=0 }
def Nar.el (n : Nar) : Nar:={ n with steps:=n.steps.map Sp.el,goals:=n.goals.map Gl.el }
inductive Itm where
 | roles (l : List (List UInt8))
 | fresh (role : List UInt8) (l : List (List UInt8 × Int))
 | tags (l : List (List UInt8))
 | step (s : Sp)
 | goal (g : Gl)
def uIh (k : Int) : List UInt8:=sortW.getD (k - 2).toNat []
def uHu (k : Int) : List UInt8:=kindW.getD (k - 1).toNat []
def fsW (f : List UInt8 × Int) : List UInt8:=f.1++([32]++uIh f.2)
def Itm.text : Itm→List UInt8
 | .roles l=>hRole++(Lib.join l [44,32]++[59])
 | .fresh r l=>hFresh++(r++([58,32]++(Lib.join (l.map fsW) [44,32]++[59])))
 | .tags l=>hTag++(Lib.join l [44,32]++[59])
 | .step s=>hMsg++(s.frm++(arrow++(s.dst++([58,32]++(uCz s.msg++[59])))))
 | .goal g=>hGoal++(uHu g.kind++([32]++(g.role++((if uBE g.kind=true then [32]++g.wth else [])++([58,32]++(uCS g.data++[59]))))))
def Itm.ok : Itm→Prop
 | .roles l=>l≠[] ∧ ∀ w ∈ l,uAM w=true
 | .fresh r l=>uAM r=true∧l≠[] ∧ ∀ f ∈ l,uAM f.1=true∧2≤f.2∧f.2≤4
 | .tags l=>l≠[] ∧ ∀ w ∈ l,uAM w=true
 | .step s=>uAM s.frm=true∧uAM s.dst=true∧gdB s.msg=true
 | .goal g=>1≤g.kind∧g.kind≤5∧uAM g.role=true∧(uBE g.kind=true→uAM g.wth=true)∧(uBE g.kind=false→g.wth=[])∧g.data≠[] ∧ ∀ t ∈ g.data,gdB t=true
end Go.Proofs.YtnjjdbapadkomaaGreatDoor
