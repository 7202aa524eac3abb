/- Our abstract program logic and contracts of this seat's functions, part 4: no statement of its own (long names of ours are shortened by a program). -/
import Derived.Test.YtnjjdbapadkomaaGreatDoorM3
import Derived.Lib.Join
set_option linter.unusedVariables false
set_option linter.unusedSimpArgs false
namespace Go.Proofs.YtnjjdbapadkomaaGreatDoor
open Go Go.Abs
abbrev xnum (s : List UInt8) (r : Bool × Nat × Int) : X:=.tup [.c (.s (s.take r.2.1)), .c (.i .i64 r.2.2), .c (.b r.1)]
theorem uI2 (s : List UInt8) (hs : s.length≤2000000) : Ctr sys 125 [xs s] [] (xnum s (numA s 0 0)) none []:=by
 refine uAy Tryz.func125 rfl rfl rfl rfl rfl rfl ?_;refine uAe (uAb ?_);refine uAa rfl rfl rfl (uAd rfl gU) ?_;refine uAa rfl rfl rfl (uAd rfl gU) ?_;refine uAa rfl rfl rfl (uAd rfl gU) ?_;refine uAf ?_;refine uAe (uAb ?_);refine uAa rfl rfl rfl (uAd rfl gU) ?_;refine uAa rfl rfl rfl (uAd rfl gU) ?_;refine uAf ?_;refine uAn (s:=⟨[(0,_,_),(5,_,_),(6,_,_)],[],[],[]⟩) (uAj (⟨sx rfl,sx rfl,sx rfl,trivial⟩) trivial trivial) ?_;refine uAe ?_;refine uAt ?_;refine uAY (ι:=Nat × Int) { t:=[(0,_,_)],bx:=[],ow:=[] } (fun p=>[(5,true,xi (p.1 : Int)),(6,true,xi p.2)]) (fun p=>[]) (fun p=>p.1≤s.length∧0≤p.2∧p.2≤9223372036854775807∧numA (s.drop p.1) p.1 p.2=numA s 0 0) (fun p=>s.length - p.1) ((0,0)) (⟨by simp,by simp,by simp,rfl⟩) (uAj (⟨sx rfl,sx rfl,sx rfl,trivial⟩) trivial trivial) ?_
 intro p hok
 dsimp only [List.cons_append,List.nil_append] at *
 obtain ⟨k,v⟩:=p
 dsimp only at hok ⊢
 obtain ⟨hk,hv0,hv1,hi⟩:=hok
 refine uAe ?_;refine uAe (uAb ?_);refine uAa rfl rfl rfl (uAc rfl gU) ?_;refine uAa rfl rfl rfl (uAc rfl gU) ?_;refine uBm rfl rfl rfl rfl rfl gU (Tryz.underlying9) ?_ (fun hh=>by simp at hh); intro hlen;refine uAa rfl rfl rfl (uAk rfl rfl gU gU rfl) ?_;refine uAa rfl rfl rfl (uAc rfl gU) ?_;refine uAa rfl rfl rfl (uAc rfl gU) ?_;refine uAa rfl rfl rfl (uAc rfl gU) ?_;refine uAa rfl rfl rfl (uAG (j:=k) rfl rfl (fun hh=>hh) (fun hh=>hh) Tryz.underlying9 (by first | omega | (simp at hh ⊢; omega)) (fun hh=>by first | omega | (simp at hh ⊢; omega))) ?_;refine uAx rfl rfl rfl rfl rfl rfl gU (fun hh=>gA ((fun hh=>hh) hh) (rfl)) (uDj _ _ rfl) rfl ?_;refine uAa rfl rfl rfl (uAk rfl rfl (fun hh=>hh) gU rfl) ?_;refine uAa rfl rfl rfl (uAR rfl rfl gU (fun _ hi=>gP rfl hi)) ?_;refine uAf ?_;refine uAn (s:=⟨[(0,_,_),(5,_,_),(6,_,_),(18,_,_)],[],[],[]⟩) (uAj (⟨sx rfl,sx rfl,sx rfl,sx rfl,trivial⟩) trivial trivial) ?_;refine uAm rfl (fun hc=>?_) (fun hc=>?_)
 ·try simp only [nn,uAi,Tk.rows_len] at hc
  have hd:=(uEb (s.getD k 0)).2.1.1 hc.2
  have hd2:=uIx hd
  rw [uBa (by omega),numA,if_pos hd] at hi
  refine uAo ?_;refine uAt ?_;refine uAe (uAb ?_);refine uAa rfl rfl rfl (uAc rfl gU) ?_;refine uAa rfl rfl rfl (uAc rfl gU) ?_;refine uAa rfl rfl rfl (uAG (j:=k) rfl rfl gU gU Tryz.underlying9 (by first | omega | (simp at hh ⊢; omega)) (fun hh=>by first | omega | (simp at hh ⊢; omega))) ?_;refine uAa rfl rfl rfl (uAr rfl rfl gU gU rfl (IntWalk.u8_in _ (by omega))) ?_;refine uAa rfl rfl rfl (uDd rfl gU ⟨_,Tryz.underlying5⟩ (Tryz.underlying2) (IntWalk.i64_in _ (by omega))) ?_;refine uAa rfl rfl rfl (uAd rfl gU) ?_;refine uAf ?_;refine uAn (s:=⟨[(0,_,_),(5,_,_),(6,_,_),(7,_,_)],[],[],[]⟩) (uAj (⟨sx rfl,sx rfl,sx rfl,sx rfl,trivial⟩) trivial trivial) ?_;refine uAe ?_;refine uAe (uAb ?_);refine uAa rfl rfl rfl (uAc rfl gU) ?_;refine uAa rfl rfl rfl (uAc rfl gU) ?_;refine uAa rfl rfl rfl (uAr rfl rfl gU gU rfl (IntWalk.i64_in _ (by omega))) ?_;refine uAa rfl rfl rfl (uIF rfl rfl gU gU (fun hh=>by first | omega | (simp at hh ⊢; omega)) (fun hh=>(congrArg IntKind.i64.wrap (Int.tdiv_eq_ediv_of_nonneg (by first | omega | (simp at hh ⊢; omega)))).trans (IntWalk.i64_in _ (by omega)))) ?_;refine uAa rfl rfl rfl (uAk rfl rfl gU gU rfl) ?_;refine uAf ?_;refine uAn (s:=⟨[(0,_,_),(5,_,_),(6,_,_),(7,_,_),(28,_,_)],[],[],[]⟩) (uAj (⟨sx rfl,sx rfl,sx rfl,sx rfl,sx rfl,trivial⟩) trivial trivial) ?_
  refine uAm rfl (fun hc2=>?_) (fun hc2=>?_)
  ·try simp only [nn,uAi,Tk.rows_len] at hc2
   rw [if_pos (by omega)] at hi
   refine uAe (uAb ?_);refine uAa rfl rfl rfl (uAd rfl gU) ?_;refine uAa rfl rfl rfl (uAd rfl gU) ?_;refine uAa rfl rfl rfl (uAd rfl gU) ?_;refine uAf ?_;refine uAp ?_
   repeat (first | refine tR ?_ | refine bR ?_)
   refine uAs rfl ?_ trivial
   (rw [← hi]; rfl)
  ·try simp only [nn,uAi,Tk.rows_len] at hc2
   rw [if_neg (by omega)] at hi
   refine uAo ?_;refine uAe (uAb ?_);refine uAa rfl rfl rfl (uAc rfl gU) ?_;refine uAa rfl rfl rfl (uAr rfl rfl gU gU rfl (IntWalk.i64_in _ (by omega))) ?_;refine uAa rfl rfl rfl (uAc rfl gU) ?_;refine uAa rfl rfl rfl (uAr rfl rfl gU gU rfl (IntWalk.i64_in _ (by omega))) ?_;refine uAa rfl rfl rfl (uAd rfl gU) ?_;refine uAf ?_;refine uAn (s:=⟨[(0,_,_),(5,_,_),(6,_,_)],[],[],[]⟩) (uAj (⟨sx rfl,sx rfl,sx rfl,trivial⟩) trivial trivial) ?_;refine uAb ?_;refine uAa rfl rfl rfl (uAc rfl gU) ?_;refine uAa rfl rfl rfl (uAr rfl rfl gU gU rfl (IntWalk.i64_in _ (by omega))) ?_;refine uAa rfl rfl rfl (uAd rfl gU) ?_;refine uAf ?_;refine ⟨(k + 1,10 * v + (((s.getD k 0).toNat : Int) - 48)),?_,?_,uAj (⟨⟨_,rfl,?_⟩,⟨⟨_,rfl,?_⟩,⟨sx rfl,trivial⟩⟩⟩) trivial trivial⟩
   all_goals (first | rfl | omega | exact ⟨by omega,by omega,by omega,hi⟩)
 ·try simp only [nn,uAi,Tk.rows_len] at hc
  have hn : numA (s.drop k) k v=(true,k,v):=by
   by_cases hlt : k < s.length
   ·rw [uBa hlt,numA,if_neg]
    intro q
    have := (uEb (s.getD k 0)).2.1.2 q
    omega
   ·rw [List.drop_of_length_le (by omega)]; rfl
  rw [hn] at hi
  refine uAM ?_
  repeat (first | refine uAE ?_ | refine uAD ?_ | refine uAC rfl ?_)
  refine uAe (uAb ?_);refine uAa rfl rfl rfl (uAc rfl gU) ?_;refine uAa rfl rfl rfl (uAc rfl gU) ?_;refine uAa rfl rfl rfl (uBh (h':=k) rfl gU Tryz.underlying9 (fun _=>rfl) (fun _=>⟨_,_,_,rfl,gU,by first | omega | (simp at hh ⊢; omega)⟩) (fun hh=>by first | omega | (simp at hh ⊢; omega)) (fun hh=>by first | omega | (simp at hh ⊢; omega))) ?_;refine uAa rfl rfl rfl (uAc rfl gU) ?_;refine uAa rfl rfl rfl (uAd rfl gU) ?_;refine uAa rfl rfl rfl (uAd rfl gU) ?_;refine uAa rfl rfl rfl (uAd rfl gU) ?_;refine uAf ?_;refine uAp ?_
  repeat (first | refine tR ?_ | refine bR ?_)
  refine uAs rfl ?_ trivial
  (rw [← hi]; rfl)
theorem uOy (c : UInt8) : (uBe (c.toNat : Int)=true→clsE c=2)∧(uBu (c.toNat : Int)=true→clsE c=3)∧(c.toNat=34→clsE c=5)∧(uBe (c.toNat : Int)≠true→uBu (c.toNat : Int)≠true→c.toNat≠34→(symB c=true→clsE c=4∨clsE c=1)∧(symB c≠true→clsE c=0∨clsE c=1)):=by
 refine ⟨(uEb c).1.2,(uEb c).2.1.2,fun h=>?_,fun h1 h2 h3=>⟨fun h4=>?_,fun h4=>?_⟩⟩
 ·unfold clsE
  rw [if_neg (by simp [uCu]; omega),if_neg (by simp [uBe]; omega),if_neg (by simp [uBu]; omega),if_pos h]
 ·unfold clsE
  rw [if_neg h1,if_neg h2,if_neg h3,if_pos h4]
  split <;> simp
 ·unfold clsE
  rw [if_neg h1,if_neg h2,if_neg h3,if_neg h4]
  split <;> simp
theorem uOT {t u : Tk} {a b e : Int} (h : t=u) (h2 : a=b) : X.tup [.agg t.cells, .c (.i .i64 a), .c (.i .i64 e)]=X.tup [.agg u.cells, .c (.i .i64 b), .c (.i .i64 e)]:=by rw [h,h2]
theorem uK7 (s : List UInt8) (k ki : Int) (h : 0 < s.length) (hs : s.length≤2000000) (hk : ki=k) (hw : clsE (s.getD 0 0)≠1) : Ctr sys 74 [xs s,xi ki] [] (xnx (uBz s k)) none []:=by
 subst hk
 have h1:=uLe s
 have h2 : (s.take (wdN s)).length=wdN s:=by rw [List.length_take]; omega
 have h3:=uI1 s h
 have h4:=uGH s 0 0 (by omega)
 have h5 : (s.take (numA s 0 0).2.1).length=(numA s 0 0).2.1:=by rw [List.length_take]; omega
 obtain ⟨c1,c2,c3,c4⟩:=uOy (s.getD 0 0)
 obtain ⟨d1,d2,-⟩:=uEb (s.getD 0 0)
 refine uAy Tryz.func74 rfl rfl rfl rfl rfl rfl ?_;refine uAe (uAb ?_);refine uAw rfl (uAT rfl rfl rfl) ?_;refine uAa rfl rfl rfl (uAd rfl gU) ?_;refine uAa rfl rfl rfl (uAd rfl gU) ?_;refine uAf ?_;refine uAe ?_;refine uAe (uAb ?_);refine uAa rfl rfl rfl (uAc rfl gU) ?_;refine uAa rfl rfl rfl (uAG (j:=0) rfl rfl gU gU Tryz.underlying9 (by first | omega | (simp at hh ⊢; omega)) (fun hh=>by first | omega | (simp at hh ⊢; omega))) ?_;refine uAx rfl rfl rfl rfl rfl rfl gU gU (uDj _ _ rfl) rfl ?_;refine uAf ?_;refine uAn (s:=⟨[(0,_,_),(1,_,_),(4,_,_),(15,_,_)],[(.l 4,_)],[],[]⟩) (uAj (⟨sx rfl,sx rfl,sx rfl,sx rfl,trivial⟩) (⟨sx rfl,trivial⟩) trivial) ?_;refine uAt ?_;refine uAe (uAb ?_);refine uAa rfl rfl rfl (uAk rfl rfl gU gU rfl) ?_;refine uAa rfl rfl rfl (uAd rfl gU) ?_;refine uAf ?_;refine uAm rfl (fun hc=>?_) (fun hc=>?_)
 ·try simp only [nn,uAi,Tk.rows_len] at hc
  rw [uBz,if_pos (d1.1 hc)]
  refine uAe (uAb ?_);refine uAa rfl rfl rfl (uAc rfl gU) ?_;refine uAx rfl rfl rfl rfl rfl rfl gU gU (uMm _ (by omega)) rfl ?_;refine uAa rfl rfl rfl (uAd rfl gU) ?_;refine uAf ?_;refine uAn (s:=⟨[(1,_,_),(4,_,_),(7,_,_)],[(.l 4,_)],[],[]⟩) (uAj (⟨sx rfl,sx rfl,sx rfl,trivial⟩) (⟨sx rfl,trivial⟩) trivial) ?_;refine uAe ?_;refine uAe (uAb ?_);refine uAa rfl rfl rfl (uAc rfl gU) ?_;refine uBm rfl rfl rfl rfl rfl gU (Tryz.underlying9) ?_ (fun hh=>by simp at hh); intro hlen;refine uAa rfl rfl rfl (uAk rfl rfl gU gU rfl) ?_;refine uAf ?_;refine uAm rfl (fun hc2=>?_) (fun hc2=>?_)
  ·try simp only [nn,uAi,Tk.rows_len] at hc2
   refine uAe (uAb ?_);refine uAa rfl rfl rfl (uA1 rfl Tryz.underlying50 rfl gU) ?_;refine uAw rfl (uAB rfl rfl rfl rfl rfl rfl rfl) ?_;refine uAa rfl rfl rfl (uAd rfl gU) ?_;refine uAa rfl rfl rfl (uAd rfl gU) ?_;refine uAf ?_;refine uAp ?_
   repeat (first | refine tR ?_ | refine bR ?_)
   refine uAs rfl ?_ trivial
   (rw [if_pos (by omega)]; rfl)
  ·try simp only [nn,uAi,Tk.rows_len] at hc2
   refine uAo ?_;refine uAe (uAb ?_);refine uAa rfl rfl rfl (uAc rfl gU) ?_;refine uAa rfl rfl rfl (uAc rfl gU) ?_;refine uAa rfl rfl rfl (uA1 rfl Tryz.underlying50 rfl gU) ?_;refine uAa rfl rfl rfl (uAc rfl gU) ?_;refine uBm rfl rfl rfl rfl rfl gU (Tryz.underlying9) ?_ (fun hh=>by simp at hh); intro hlen;refine uAw rfl (uAB rfl rfl rfl rfl rfl rfl rfl) ?_;refine uAa rfl rfl rfl (uAd rfl gU) ?_;refine uAa rfl rfl rfl (uAd rfl gU) ?_;refine uAf ?_;refine uAp ?_
   repeat (first | refine tR ?_ | refine bR ?_)
   refine uAs rfl ?_ trivial
   (rw [if_neg (by omega)]; exact uOT (t:=⟨1,s.take (wdN s),0,[],ki⟩) (u:=⟨1,s.take (wdN s),0,[],ki⟩) rfl (by dsimp only; omega))
 ·try simp only [nn,uAi,Tk.rows_len] at hc
  have e1 : ¬uBe ((s.getD 0 0).toNat : Int)=true:=fun q=>hc (c1 q)
  rw [uBz,if_neg e1]
  refine uAe (uAb ?_);refine uAa rfl rfl rfl (uAk rfl rfl gU gU rfl) ?_;refine uAa rfl rfl rfl (uAd rfl gU) ?_;refine uAf ?_;refine uAm rfl (fun hc2=>?_) (fun hc2=>?_)
  ·try simp only [nn,uAi,Tk.rows_len] at hc2
   rw [if_pos (d2.1 hc2)]
   refine uAe (uAb ?_);refine uAa rfl rfl rfl (uAc rfl gU) ?_;refine uAx rfl rfl rfl rfl rfl rfl gU gU (uI2 _ (by omega)) rfl ?_;refine uAa rfl rfl rfl (uAc rfl gU) ?_;refine uAa rfl rfl rfl (uAH rfl gU rfl) ?_;refine uAa rfl rfl rfl (uAH rfl gU rfl) ?_;refine uAa rfl rfl rfl (uAH rfl gU rfl) ?_;refine uAa rfl rfl rfl (uAd rfl gU) ?_;refine uAa rfl rfl rfl (uAd rfl gU) ?_;refine uBl (s:=⟨[(1,_,_),(4,_,_),(8,_,_),(9,_,_),(36,_,_)],[(.l 4,_)],[],[]⟩) (uAj (⟨sx rfl,sx rfl,sx rfl,sx rfl,sx rfl,trivial⟩) (⟨sx rfl,trivial⟩) trivial) ?_;refine uAa rfl rfl rfl (uAd rfl gU) ?_;refine uAf ?_;refine uAe ?_;refine uAe (uAb ?_);refine uAa rfl rfl rfl (uAc rfl gU) ?_;refine uAa rfl rfl rfl (uAV rfl gU) ?_;refine uAf ?_;refine uAm rfl (fun hc3=>?_) (fun hc3=>?_)
   ·try simp only [nn,uAi,Tk.rows_len] at hc3
    refine uAe (uAb ?_);refine uAa rfl rfl rfl (uA1 rfl Tryz.underlying50 rfl gU) ?_;refine uAw rfl (uAB rfl rfl rfl rfl rfl rfl rfl) ?_;refine uAa rfl rfl rfl (uAd rfl gU) ?_;refine uAa rfl rfl rfl (uAd rfl gU) ?_;refine uAf ?_;refine uAp ?_
    repeat (first | refine tR ?_ | refine bR ?_)
    refine uAs rfl ?_ trivial
    (rw [if_neg (by rw [hc3]; exact Bool.false_ne_true)]; rfl)
   ·try simp only [nn,uAi,Tk.rows_len] at hc3
    refine uAo ?_;refine uAe (uAb ?_);refine uAa rfl rfl rfl (uAc rfl gU) ?_;refine uAa rfl rfl rfl (uAc rfl gU) ?_;refine uAa rfl rfl rfl (uA1 rfl Tryz.underlying50 rfl gU) ?_;refine uAa rfl rfl rfl (uAc rfl gU) ?_;refine uBm rfl rfl rfl rfl rfl gU (Tryz.underlying9) ?_ (fun hh=>by simp at hh); intro hlen;refine uAw rfl (uAB rfl rfl rfl rfl rfl rfl rfl) ?_;refine uAa rfl rfl rfl (uAd rfl gU) ?_;refine uAa rfl rfl rfl (uAd rfl gU) ?_;refine uAf ?_;refine uAp ?_
    repeat (first | refine tR ?_ | refine bR ?_)
    refine uAs rfl ?_ trivial
    (rw [if_pos hc3]; exact uOT (t:=⟨2,[],(numA s 0 0).2.2,[],ki⟩) (u:=⟨2,[],(numA s 0 0).2.2,[],ki⟩) rfl (by dsimp only; omega))
  ·try simp only [nn,uAi,Tk.rows_len] at hc2
   have e2 : ¬uBu ((s.getD 0 0).toNat : Int)=true:=fun q=>hc2 (c2 q)
   rw [if_neg e2]
   refine uAe (uAb ?_);refine uAa rfl rfl rfl (uAk rfl rfl gU gU rfl) ?_;refine uAa rfl rfl rfl (uAd rfl gU) ?_;refine uAf ?_;refine uAn (s:=⟨[(0,_,_),(1,_,_),(4,_,_),(15,_,_),(45,_,_)],[(.l 4,_)],[],[]⟩) (uAj (⟨sx rfl,sx rfl,sx rfl,sx rfl,sx rfl,trivial⟩) (⟨sx rfl,trivial⟩) trivial) ?_;refine uAm rfl (fun hc3=>?_) (fun hc3=>?_)
   ·try simp only [nn,uAi,Tk.rows_len] at hc3
    have e3 : (s.getD 0 0).toNat=34:=by
     by_cases q : (s.getD 0 0).toNat=34
     ·exact q
     ·have := c4 e1 e2 q
      by_cases q2 : symB (s.getD 0 0)=true
      ·have := this.1 q2; omega
      ·have := this.2 q2; omega
    rw [if_pos e3]
    refine uAe (uAb ?_);refine uAa rfl rfl rfl (uAc rfl gU) ?_;refine uAx rfl rfl rfl rfl rfl rfl gU gU (uMK _ (by omega) (by omega)) rfl ?_;refine uAa rfl rfl rfl (uAc rfl gU) ?_;refine uAa rfl rfl rfl (uAH rfl gU rfl) ?_;refine uAa rfl rfl rfl (uAH rfl gU rfl) ?_;refine uAa rfl rfl rfl (uAd rfl gU) ?_;refine uAa rfl rfl rfl (uAd rfl gU) ?_;refine uAf ?_;refine uAn (s:=⟨[(1,_,_),(4,_,_),(11,_,_),(12,_,_)],[(.l 4,_)],[],[]⟩) (uAj (⟨sx rfl,sx rfl,sx rfl,sx rfl,trivial⟩) (⟨sx rfl,trivial⟩) trivial) ?_;refine uAe (uAb ?_);refine uAa rfl rfl rfl (uAc rfl gU) ?_;refine uAa rfl rfl rfl (uAk rfl rfl gU gU rfl) ?_;refine uAf ?_;refine uAm rfl (fun hc4=>?_) (fun hc4=>?_)
    ·try simp only [nn,uAi,Tk.rows_len] at hc4
     refine uAe (uAb ?_);refine uAa rfl rfl rfl (uAc rfl gU) ?_;refine uAa rfl rfl rfl (uAc rfl gU) ?_;refine uAa rfl rfl rfl (uA1 rfl Tryz.underlying50 rfl gU) ?_;refine uAa rfl rfl rfl (uAc rfl gU) ?_;refine uAw rfl (uAB rfl rfl rfl rfl rfl rfl rfl) ?_;refine uAa rfl rfl rfl (uAd rfl gU) ?_;refine uAa rfl rfl rfl (uAd rfl gU) ?_;refine uAf ?_;refine uAp ?_
     repeat (first | refine tR ?_ | refine bR ?_)
     refine uAs rfl ?_ trivial
     (rw [if_neg (by omega)]; rfl)
    ·try simp only [nn,uAi,Tk.rows_len] at hc4
     refine uAo ?_;refine uAe (uAb ?_);refine uAa rfl rfl rfl (uA1 rfl Tryz.underlying50 rfl gU) ?_;refine uAw rfl (uAB rfl rfl rfl rfl rfl rfl rfl) ?_;refine uAa rfl rfl rfl (uAd rfl gU) ?_;refine uAa rfl rfl rfl (uAd rfl gU) ?_;refine uAf ?_;refine uAp ?_
     repeat (first | refine tR ?_ | refine bR ?_)
     refine uAs rfl ?_ trivial
     (rw [if_pos (by omega)]; rfl)
   ·try simp only [nn,uAi,Tk.rows_len] at hc3
    have e3 : ¬(s.getD 0 0).toNat=34:=fun q=>hc3 (c3 q)
    rw [if_neg e3]
    refine uAe (uAb ?_);refine uAa rfl rfl rfl (uAk rfl rfl gU gU rfl) ?_;refine uAa rfl rfl rfl (uAd rfl gU) ?_;refine uAf ?_;refine uAm rfl (fun hc4=>?_) (fun hc4=>?_)
    ·try simp only [nn,uAi,Tk.rows_len] at hc4
     have e4 : symB (s.getD 0 0)=true:=by
      by_cases q2 : symB (s.getD 0 0)=true
      ·exact q2
      ·have := (c4 e1 e2 e3).2 q2; omega
     refine uAe (uAb ?_);refine uAa rfl rfl rfl (uAc rfl gU) ?_;refine uAa rfl rfl rfl (uBh (h':=1) rfl gU Tryz.underlying9 (fun _=>rfl) (fun _=>⟨_,_,_,rfl,gU,by first | omega | (simp at hh ⊢; omega)⟩) (fun hh=>by first | omega | (simp at hh ⊢; omega)) (fun hh=>by first | omega | (simp at hh ⊢; omega))) ?_;refine uAa rfl rfl rfl (uAc rfl gU) ?_;refine uAa rfl rfl rfl (uA1 rfl Tryz.underlying50 rfl gU) ?_;refine uAw rfl (uAB rfl rfl rfl rfl rfl rfl rfl) ?_;refine uAa rfl rfl rfl (uAd rfl gU) ?_;refine uAa rfl rfl rfl (uAd rfl gU) ?_;refine uAf ?_;refine uAp ?_
     repeat (first | refine tR ?_ | refine bR ?_)
     refine uAs rfl ?_ trivial
     (rw [if_pos e4]; rfl)
    ·try simp only [nn,uAi,Tk.rows_len] at hc4
     have e4 : ¬symB (s.getD 0 0)=true:=by
      intro q2
      have := (c4 e1 e2 e3).1 q2
      omega
     refine uAo ?_;refine uAe (uAb ?_);refine uAa rfl rfl rfl (uA1 rfl Tryz.underlying50 rfl gU) ?_;refine uAw rfl (uAB rfl rfl rfl rfl rfl rfl rfl) ?_;refine uAa rfl rfl rfl (uAd rfl gU) ?_;refine uAa rfl rfl rfl (uAd rfl gU) ?_;refine uAf ?_;refine uAp ?_
     repeat (first | refine tR ?_ | refine bR ?_)
     refine uAs rfl ?_ trivial
     (rw [if_neg e4]; rfl)
theorem uJ7 (s : List UInt8) (hs : s.length≤2000000) : Ctr sys 24 [xs s] [] (xss (lnsR s)) none []:=by
 refine uAy Tryz.func24 rfl rfl rfl rfl rfl rfl ?_;refine uAe (uAb ?_);refine uAw rfl (uBv (.inr rfl) rfl rfl) ?_;refine uAf ?_;refine uAe (uAb ?_);refine uAw rfl (uBv (.inr rfl) rfl rfl) ?_;refine uAf ?_;refine uAe (uAb ?_);refine uAa rfl rfl rfl (uAd rfl gU) ?_;refine uAf ?_;refine uAe ?_;refine uAe (uAb ?_);refine uAa rfl rfl rfl (uAd rfl gU) ?_;refine uAf ?_;refine uAt ?_;refine uAY (ι:=Nat × List UInt8 × List (List UInt8)) { t:=[(0,_,_)],bx:=[],ow:=[(.t 3,_)] } (fun p=>[(5,true,xi (p.1 : Int)),(4,true,xs p.2.1),(3,true,xss p.2.2)]) (fun p=>[]) (fun p=>p.1≤s.length∧p.2.1.length≤p.1∧p.2.2.length≤p.1∧lnsA (s.drop p.1) p.2.1 p.2.2=lnsR s) (fun p=>s.length - p.1) ((0,[],[])) (⟨by simp,by simp,by simp,rfl⟩) (uAj (⟨sx rfl,sx rfl,sx rfl,sx rfl,trivial⟩) trivial (⟨rfl,trivial⟩)) ?_
 intro p hok
 dsimp only [List.cons_append,List.nil_append] at *
 obtain ⟨k,line,out⟩:=p
 dsimp only at hok ⊢
 obtain ⟨hk,hl,ho,hi⟩:=hok
 refine uAe ?_;refine uAe (uAb ?_);refine uAa rfl rfl rfl (uAc rfl gU) ?_;refine uAa rfl rfl rfl (uAc rfl gU) ?_;refine uBm rfl rfl rfl rfl rfl gU (Tryz.underlying9) ?_ (fun hh=>by simp at hh); intro hlen;refine uAa rfl rfl rfl (uAk rfl rfl gU gU rfl) ?_;refine uAf ?_;refine uAm rfl (fun hc=>?_) (fun hc=>?_)
 ·try simp only [nn,uAi,Tk.rows_len] at hc
  rw [uBa (by omega),lnsA] at hi
  refine uAo ?_;refine uAe ?_;refine uAt ?_;refine uAe ?_;refine uAe (uAb ?_);refine uAa rfl rfl rfl (uAc rfl gU) ?_;refine uAa rfl rfl rfl (uAc rfl gU) ?_;refine uAa rfl rfl rfl (uAG (j:=k) rfl rfl gU gU Tryz.underlying9 (by first | omega | (simp at hh ⊢; omega)) (fun hh=>by first | omega | (simp at hh ⊢; omega))) ?_;refine uAa rfl rfl rfl (uAk rfl rfl gU gU rfl) ?_;refine uAf ?_;refine uAn (s:=⟨[(0,_,_),(3,_,_),(4,_,_),(5,_,_),(15,_,_)],[],[(.t 3,_)],[]⟩) (uAj (⟨sx rfl,sx rfl,sx rfl,sx rfl,sx rfl,trivial⟩) trivial (⟨rfl,trivial⟩)) ?_;refine uAm rfl (fun hc2=>?_) (fun hc2=>?_)
  ·try simp only [nn,uAi,Tk.rows_len] at hc2
   rw [if_pos (by omega)] at hi
   refine uAe (uAb ?_);refine uAw rfl (uAP (.inl rfl) rfl rfl rfl) ?_;refine uAa rfl rfl rfl (uAc rfl gU) ?_;refine uAQ (xs:=[_]) rfl rfl rfl rfl rfl rfl rfl rfl rfl gU rfl ?_;refine uAw rfl (uA4 rfl rfl rfl rfl rfl rfl rfl (by first | omega | (simp only [List.length_append,List.length_singleton,Tk.rows_len,uAi]; omega)) (by first | omega | (simp only [List.length_append,List.length_singleton,Tk.rows_len,uAi]; omega))) ?_;refine uAw rfl (uAP (.inr rfl) rfl rfl rfl) ?_;refine uAf ?_;refine uAn (s:=⟨[(0,_,_),(3,_,_),(5,_,_)],[],[(.t 3,_)],[]⟩) (uAj (⟨sx rfl,sx rfl,sx rfl,trivial⟩) trivial (⟨rfl,trivial⟩)) ?_;refine uAe (uAb ?_);refine uAa rfl rfl rfl (uAd rfl gU) ?_;refine uAf ?_;refine uAM ?_
   repeat (first | refine uAE ?_ | refine uAD ?_ | refine uAC rfl ?_)
   refine uAb ?_;refine uAa rfl rfl rfl (uAc rfl gU) ?_;refine uAa rfl rfl rfl (uAr rfl rfl gU gU rfl (IntWalk.i64_in _ (by omega))) ?_;refine uAa rfl rfl rfl (uAd rfl gU) ?_;refine uAf ?_;refine ⟨(k + 1,[],out++[line]),?_,?_,uAj (⟨⟨_,rfl,?_⟩,⟨⟨_,rfl,?_⟩,⟨⟨_,rfl,?_⟩,⟨sx rfl,trivial⟩⟩⟩⟩) trivial (⟨rfl,trivial⟩)⟩
   all_goals (first | rfl | omega | exact tx (uCq out line) | (refine ⟨?_,?_,?_,hi⟩ <;> (simp <;> omega)))
  ·try simp only [nn,uAi,Tk.rows_len] at hc2
   rw [if_neg (by omega)] at hi
   have e1 : (s.take (k + 1)).drop k=[s.getD k 0]:=by
    rw [uBa (by simp; omega),List.drop_of_length_le (by simp; omega),uF1 _ _ (by omega)]
   refine uAo ?_;refine uAb ?_;refine uAa rfl rfl rfl (uAc rfl gU) ?_;refine uAa rfl rfl rfl (uAc rfl gU) ?_;refine uAa rfl rfl rfl (uAc rfl gU) ?_;refine uAa rfl rfl rfl (uAc rfl gU) ?_;refine uAa rfl rfl rfl (uAr rfl rfl gU gU rfl (IntWalk.i64_in _ (by omega))) ?_;refine uAa rfl rfl rfl (uBh (l:=k) (h':=(k + 1)) rfl gU Tryz.underlying9 (fun _=>⟨_,_,_,rfl,gU,by first | omega | (simp at hh ⊢; omega)⟩) (fun _=>⟨_,_,_,rfl,gU,by first | omega | (simp at hh ⊢; omega)⟩) (fun hh=>by first | omega | (simp at hh ⊢; omega)) (fun hh=>by first | omega | (simp at hh ⊢; omega))) ?_;refine uAa rfl rfl rfl (uAu rfl rfl gU gU (by first | omega | (simp only [List.length_append,List.length_drop,List.length_take]; omega))) ?_;refine uAa rfl rfl rfl (uAd rfl gU) ?_;refine uAf ?_;refine uAn (s:=⟨[(0,_,_),(3,_,_),(4,_,_),(5,_,_)],[],[(.t 3,_)],[]⟩) (uAj (⟨sx rfl,sx rfl,sx rfl,sx rfl,trivial⟩) trivial (⟨rfl,trivial⟩)) ?_;refine uAb ?_;refine uAa rfl rfl rfl (uAc rfl gU) ?_;refine uAa rfl rfl rfl (uAr rfl rfl gU gU rfl (IntWalk.i64_in _ (by omega))) ?_;refine uAa rfl rfl rfl (uAd rfl gU) ?_;refine uAf ?_;refine ⟨(k + 1,line++[s.getD k 0],out),?_,?_,uAj (⟨⟨_,rfl,?_⟩,⟨⟨_,rfl,?_⟩,⟨⟨_,rfl,?_⟩,⟨sx rfl,trivial⟩⟩⟩⟩) trivial (⟨rfl,trivial⟩)⟩
   all_goals (first | rfl | omega | exact tx (congrArg xs (by rw [e1])) | (refine ⟨?_,?_,?_,hi⟩ <;> (simp <;> omega)))
 ·try simp only [nn,uAi,Tk.rows_len] at hc
  rw [List.drop_of_length_le (by omega),lnsA] at hi
  refine uAM ?_
  repeat (first | refine uAE ?_ | refine uAD ?_ | refine uAC rfl ?_)
  refine uAe ?_;refine uAe (uAb ?_);refine uAa rfl rfl rfl (uAc rfl gU) ?_;refine uAa rfl rfl rfl (uAX rfl rfl gU gU rfl) ?_;refine uAf ?_;refine uAn (s:=⟨[(3,_,_),(4,_,_),(28,_,_)],[],[(.t 3,_)],[]⟩) (uAj (⟨sx rfl,sx rfl,sx rfl,trivial⟩) trivial (⟨rfl,trivial⟩)) ?_;refine uAm rfl (fun hc2=>?_) (fun hc2=>?_)
  ·try simp only [nn,uAi,Tk.rows_len] at hc2
   rw [if_neg hc2] at hi
   refine uAb ?_;refine uAw rfl (uAP (.inl rfl) rfl rfl rfl) ?_;refine uAa rfl rfl rfl (uAc rfl gU) ?_;refine uAQ (xs:=[_]) rfl rfl rfl rfl rfl rfl rfl rfl rfl gU rfl ?_;refine uAw rfl (uA4 rfl rfl rfl rfl rfl rfl rfl (by first | omega | (simp only [List.length_append,List.length_singleton,Tk.rows_len,uAi]; omega)) (by first | omega | (simp only [List.length_append,List.length_singleton,Tk.rows_len,uAi]; omega))) ?_;refine uAw rfl (uAP (.inr rfl) rfl rfl rfl) ?_;refine uAf ?_;refine uAn (s:=⟨[(3,_,_)],[],[(.t 3,_)],[]⟩) (uAj (⟨sx rfl,trivial⟩) trivial (⟨rfl,trivial⟩)) ?_;refine uAe (uAb ?_);refine uAw rfl (uAP (.inl rfl) rfl rfl rfl) ?_;refine uAw rfl (uAP (.inr rfl) rfl rfl rfl) ?_;refine uAf ?_;refine uAp ?_
   repeat (first | refine tR ?_ | refine bR ?_)
   refine uAs rfl ?_ trivial
   (rw [← hi]; exact uCq out line)
  ·try simp only [nn,uAi,Tk.rows_len] at hc2
   rw [if_pos hc2] at hi
   refine uAo ?_;refine uAe (uAb ?_);refine uAw rfl (uAP (.inl rfl) rfl rfl rfl) ?_;refine uAw rfl (uAP (.inr rfl) rfl rfl rfl) ?_;refine uAf ?_;refine uAp ?_
   repeat (first | refine tR ?_ | refine bR ?_)
   refine uAs rfl ?_ trivial
   (rw [← hi]; rfl)
theorem uMT (s : List UInt8) : (uA9 s).length≤s.length:=by unfold uA9; rw [List.length_take]; omega
theorem uIV (s : List UInt8) (hs : s.length≤9223372036854775807) : Ctr sys 22 [xs s] [] (uOP (tokR s)) none []:=by
 have hsl:=uNB s
 refine uAy Tryz.func22 rfl rfl rfl rfl rfl rfl ?_;refine uAe (uAb ?_);refine uAw rfl (uBv (.inr rfl) rfl rfl) ?_;refine uAa rfl rfl rfl (uAd rfl gU) ?_;refine uAa rfl rfl rfl (uAd rfl gU) ?_;refine uAf ?_;refine uAe ?_;refine uAe (uAb ?_);refine uAa rfl rfl rfl (uAc rfl gU) ?_;refine uBm rfl rfl rfl rfl rfl gU (Tryz.underlying9) ?_ (fun hh=>by simp at hh); intro hlen;refine uAa rfl rfl rfl (uAk rfl rfl gU gU rfl) ?_;refine uAf ?_;refine uAn (s:=⟨[(0,_,_),(14,_,_)],[],[],[]⟩) (uAj (⟨sx rfl,sx rfl,trivial⟩) trivial trivial) ?_;refine uAm rfl (fun hc=>?_) (fun hc=>?_)
 ·try simp only [nn,uAi,Tk.rows_len] at hc
  refine uAe (uAb ?_);refine uAw rfl (uBv (.inr rfl) rfl rfl) ?_;refine uAa rfl rfl rfl (uAd rfl gU) ?_;refine uAa rfl rfl rfl (uAd rfl gU) ?_;refine uAf ?_;refine uAp ?_
  repeat (first | refine tR ?_ | refine bR ?_)
  refine uAs rfl ?_ trivial
  (rw [tokR,if_pos (by omega)]; rfl)
 ·try simp only [nn,uAi,Tk.rows_len] at hc
  rw [tokR,if_neg (by omega)]
  refine uAo ?_;refine uAe (uAb ?_);refine uAw rfl (uBv (.inr rfl) rfl rfl) ?_;refine uAf ?_;refine uAe (uAb ?_);refine uAa rfl rfl rfl (uAc rfl gU) ?_;refine uAx rfl rfl rfl rfl rfl rfl gU gU (uJ7 _ (by omega)) rfl ?_;refine uAa rfl rfl rfl (uAd rfl gU) ?_;refine uAf ?_;refine uAe ?_;refine uAe (uAb ?_);refine uAa rfl rfl rfl (uAd rfl gU) ?_;refine uAf ?_;refine uAn (s:=⟨[(5,_,_),(6,_,_),(7,_,_)],[],[(.t 5,_)],[]⟩) (uAj (⟨sx rfl,sx rfl,sx rfl,trivial⟩) trivial (⟨rfl,trivial⟩)) ?_;refine uAt ?_;refine uAY (ι:=Nat × List Tk) { t:=[(6,_,_)],bx:=[],ow:=[(.t 5,_)] } (fun p=>[(7,true,xi (p.1 : Int)),(5,true,xts p.2)]) (fun p=>[]) (fun p=>p.1≤(lnsR s).length∧p.2.length≤70000 * p.1∧uFO ((lnsR s).drop p.1) (p.1 + 1) p.2=uFO (lnsR s) 1 []) (fun p=>(lnsR s).length - p.1) ((0,[])) (⟨by simp,by simp,rfl⟩) (uAj (⟨sx rfl,sx rfl,sx rfl,trivial⟩) trivial (⟨rfl,trivial⟩)) ?_
  intro p hok
  dsimp only [List.cons_append,List.nil_append] at *
  obtain ⟨k,out⟩:=p
  dsimp only at hok ⊢
  obtain ⟨hk,ho,hi⟩:=hok
  have hL:=uNz s k
  have hB:=uMT ((lnsR s).getD k [])
  refine uAe ?_;refine uAe (uAb ?_);refine uAa rfl rfl rfl (uAc rfl gU) ?_;refine uAa rfl rfl rfl (uAc rfl gU) ?_;refine uAL rfl rfl rfl rfl rfl gU rfl rfl ?_ (fun hh=>by simp at hh); intro hlen;refine uAa rfl rfl rfl (uAk rfl rfl gU gU rfl) ?_;refine uAf ?_;refine uAm rfl (fun hc2=>?_) (fun hc2=>?_)
  ·try simp only [nn,uAi,Tk.rows_len] at hc2
   rw [uGU (d:=[]) (by omega),uFO] at hi
   refine uAo ?_;refine uAe ?_;refine uAt ?_;refine uAe (uAb ?_);refine uAa rfl rfl rfl (uAc rfl gU) ?_;refine uAa rfl rfl rfl (uAc rfl gU) ?_;refine uAa rfl rfl rfl (uAq rfl rfl gU gU rfl rfl rfl (fun hh=>uCe (by first | omega | (simp at hh ⊢; omega)))) ?_;refine uAa rfl rfl rfl (uAK rfl gU rfl rfl rfl) ?_;refine uAx rfl rfl rfl rfl rfl rfl gU gU (uMr _ (by omega)) rfl ?_;refine uAa rfl rfl rfl (uAd rfl gU) ?_;refine uAf ?_;refine uAn (s:=⟨[(5,_,_),(6,_,_),(7,_,_),(8,_,_)],[],[(.t 5,_)],[]⟩) (uAj (⟨sx rfl,sx rfl,sx rfl,sx rfl,trivial⟩) trivial (⟨rfl,trivial⟩)) ?_;refine uAt ?_;refine uAY (ι:=List UInt8 × List Tk) { t:=[(6,_,_),(7,_,_)],bx:=[],ow:=[(.t 5,_)] } (fun q=>[(8,true,xs q.1),(5,true,xts q.2)]) (fun q=>[]) (fun q=>q.1.length≤(uA9 ((lnsR s).getD k [])).length∧q.2.length + q.1.length≤out.length + (uA9 ((lnsR s).getD k [])).length ∧ ∃ n,q.1.length < n∧uCN n q.1 ((k + 1 : Nat) : Int) q.2=uCN ((uA9 ((lnsR s).getD k [])).length + 1) (uA9 ((lnsR s).getD k [])) ((k + 1 : Nat) : Int) out) (fun q=>q.1.length) ((uA9 ((lnsR s).getD k []),out)) (⟨by simp,by simp,_,by dsimp only; omega,rfl⟩) (uAj (⟨sx rfl,sx rfl,sx rfl,sx rfl,trivial⟩) trivial (⟨rfl,trivial⟩)) ?_
   intro q hokq
   dsimp only [List.cons_append,List.nil_append] at *
   obtain ⟨l,o2⟩:=q
   dsimp only at hokq ⊢
   obtain ⟨hl,ho2,n,hn,hi2⟩:=hokq
   obtain ⟨n,rfl⟩ : ∃ m,n=m + 1:=⟨n - 1,by omega⟩
   refine uAe ?_;refine uAe (uAb ?_);refine uAa rfl rfl rfl (uAc rfl gU) ?_;refine uBm rfl rfl rfl rfl rfl gU (Tryz.underlying9) ?_ (fun hh=>by simp at hh); intro hlen;refine uAa rfl rfl rfl (uAk rfl rfl gU gU rfl) ?_;refine uAf ?_;refine uAm rfl (fun hc3=>?_) (fun hc3=>?_)
   ·try simp only [nn,uAi,Tk.rows_len] at hc3
    have hne : 0 < l.length:=by omega
    have hcons : l=l.getD 0 0 :: l.drop 1 := by have := uBa hne; rwa [List.drop_zero] at this
    have hx : uCN (n + 1) l ((k + 1 : Nat) : Int) o2=if uCu (l.getD 0 0)=true then uCN n (l.drop 1) ((k + 1 : Nat) : Int) o2 else if (uBz l ((k + 1 : Nat) : Int)).2.2≠0 then ([],(uBz l ((k + 1 : Nat) : Int)).2.2)
      else uCN n (l.drop (uBz l ((k + 1 : Nat) : Int)).2.1) ((k + 1 : Nat) : Int) (o2++[(uBz l ((k + 1 : Nat) : Int)).1]):=by
     generalize hg : l.getD 0 0=c at hcons ⊢
     generalize hg2 : l.drop 1=r at hcons ⊢
     subst hcons
     rw [uCN]
    rw [hx] at hi2
    refine uAo ?_;refine uAt ?_;refine uAe ?_;refine uAe (uAb ?_);refine uAa rfl rfl rfl (uAc rfl gU) ?_;refine uAa rfl rfl rfl (uAG (j:=0) rfl rfl gU gU Tryz.underlying9 (by first | omega | (simp at hh ⊢; omega)) (fun hh=>by first | omega | (simp at hh ⊢; omega))) ?_;refine uAx rfl rfl rfl rfl rfl rfl gU gU (uDj _ _ rfl) rfl ?_;refine uAa rfl rfl rfl (uAk rfl rfl gU gU rfl) ?_;refine uAf ?_;refine uAn (s:=⟨[(5,_,_),(6,_,_),(7,_,_),(8,_,_),(34,_,_)],[],[(.t 5,_)],[]⟩) (uAj (⟨sx rfl,sx rfl,sx rfl,sx rfl,sx rfl,trivial⟩) trivial (⟨rfl,trivial⟩)) ?_;refine uAm rfl (fun hc4=>?_) (fun hc4=>?_)
    ·try simp only [nn,uAi,Tk.rows_len] at hc4
     rw [if_pos ((uEb _).2.2.1 hc4)] at hi2
     refine uAe (uAb ?_);refine uAa rfl rfl rfl (uAc rfl gU) ?_;refine uAa rfl rfl rfl (uBh (l:=1) rfl gU Tryz.underlying9 (fun _=>⟨_,_,_,rfl,gU,by first | omega | (simp at hh ⊢; omega)⟩) (fun _=>rfl) (fun hh=>by first | omega | (simp at hh ⊢; omega)) (fun hh=>by first | omega | (simp at hh ⊢; omega))) ?_;refine uAa rfl rfl rfl (uAd rfl gU) ?_;refine uAf ?_;refine uAM ?_
     repeat (first | refine uAE ?_ | refine uAD ?_ | refine uAC rfl ?_)
     refine ⟨(l.drop 1,o2),?_,?_,uAj (⟨⟨_,rfl,?_⟩,⟨⟨_,rfl,?_⟩,⟨sx rfl,sx rfl,trivial⟩⟩⟩) trivial (⟨rfl,trivial⟩)⟩
     all_goals first | rfl | exact tx (congrArg xs (by rw [List.take_length])) | (simp only [List.take_length,List.length_drop]; omega) | (refine ⟨?_,?_,n,?_,hi2⟩ <;> (simp only [List.length_drop]; omega))
    ·try simp only [nn,uAi,Tk.rows_len] at hc4
     rw [if_neg (fun q=>hc4 ((uEb _).2.2.2 q))] at hi2
     have hfl:=uMv (s:=l) (k:=((k + 1 : Nat) : Int)) hne
     refine uAo ?_;refine uAe (uAb ?_);refine uAa rfl rfl rfl (uAc rfl gU) ?_;refine uAa rfl rfl rfl (uAc rfl gU) ?_;refine uAa rfl rfl rfl (uAr rfl rfl gU gU rfl (IntWalk.i64_in _ (by omega))) ?_;refine uAx rfl rfl rfl rfl rfl rfl gU gU (uK7 _ ((k + 1 : Nat) : Int) _ hne (by omega) (by omega) hc4) rfl ?_;refine uAa rfl rfl rfl (uAc rfl gU) ?_;refine uAa rfl rfl rfl (uAH rfl gU rfl) ?_;refine uAa rfl rfl rfl (uAH rfl gU rfl) ?_;refine uAa rfl rfl rfl (uAH rfl gU rfl) ?_;refine uAw rfl (uAT rfl rfl rfl) ?_;refine uAw rfl (uAB rfl rfl rfl rfl rfl rfl rfl) ?_;refine uAa rfl rfl rfl (uAd rfl gU) ?_;refine uAa rfl rfl rfl (uAd rfl gU) ?_;refine uAf ?_;refine uAn (s:=⟨[(5,_,_),(6,_,_),(7,_,_),(8,_,_),(9,_,_),(10,_,_),(11,_,_)],[(.l 9,_)],[(.t 5,_)],[]⟩) (uAj (⟨sx rfl,sx rfl,sx rfl,sx rfl,sx rfl,sx rfl,sx rfl,trivial⟩) (⟨sx rfl,trivial⟩) (⟨rfl,trivial⟩)) ?_;refine uAe ?_;refine uAe (uAb ?_);refine uAa rfl rfl rfl (uAc rfl gU) ?_;refine uAa rfl rfl rfl (uAk rfl rfl gU gU rfl) ?_;refine uAf ?_;refine uAm rfl (fun hc5=>?_) (fun hc5=>?_)
     ·try simp only [nn,uAi,Tk.rows_len] at hc5
      rw [if_pos hc5] at hi2
      rw [← hi2,if_pos hc5] at hi
      refine uAe (uAb ?_);refine uAa rfl rfl rfl (uAc rfl gU) ?_;refine uAa rfl rfl rfl (uAr rfl rfl gU gU rfl (IntWalk.i64_in _ (by omega))) ?_;refine uAa rfl rfl rfl (uAc rfl gU) ?_;refine uAw rfl (uBv (.inr rfl) rfl rfl) ?_;refine uAa rfl rfl rfl (uAd rfl gU) ?_;refine uAa rfl rfl rfl (uAd rfl gU) ?_;refine uAf ?_;refine uAp ?_
      repeat (first | refine tR ?_ | refine bR ?_)
      refine uAs rfl ?_ trivial
      (rw [← hi]; rfl)
     ·try simp only [nn,uAi,Tk.rows_len] at hc5
      have h4:=hfl.2 hc5
      rw [if_neg (fun q=>q hc5)] at hi2
      refine uAo ?_;refine uAe (uAb ?_);refine uAw rfl (uAP (.inl rfl) rfl rfl rfl) ?_;refine uAa rfl rfl rfl (uAv rfl gU rfl rfl rfl rfl rfl) ?_;refine uAQ (xs:=[_]) rfl rfl rfl rfl rfl rfl rfl rfl rfl gU rfl ?_;refine uAw rfl (uA4 rfl rfl rfl rfl rfl rfl rfl (by first | omega | (simp only [List.length_append,List.length_singleton,Tk.rows_len,uAi]; omega)) (by first | omega | (simp only [List.length_append,List.length_singleton,Tk.rows_len,uAi]; omega))) ?_;refine uAw rfl (uAP (.inr rfl) rfl rfl rfl) ?_;refine uAf ?_;refine uAn (s:=⟨[(5,_,_),(6,_,_),(7,_,_),(8,_,_),(10,_,_)],[],[(.t 5,_)],[]⟩) (uAj (⟨sx rfl,sx rfl,sx rfl,sx rfl,sx rfl,trivial⟩) trivial (⟨rfl,trivial⟩)) ?_;refine uAb ?_;refine uAa rfl rfl rfl (uAc rfl gU) ?_;refine uAa rfl rfl rfl (uAc rfl gU) ?_;refine uAa rfl rfl rfl (uBh (l:=(uBz l ((k + 1 : Nat) : Int)).2.1) rfl gU Tryz.underlying9 (fun _=>⟨_,_,_,rfl,gU,by first | omega | (simp at hh ⊢; omega)⟩) (fun _=>rfl) (fun hh=>by first | omega | (simp at hh ⊢; omega)) (fun hh=>by first | omega | (simp at hh ⊢; omega))) ?_;refine uAa rfl rfl rfl (uAd rfl gU) ?_;refine uAf ?_;refine ⟨(l.drop (uBz l ((k + 1 : Nat) : Int)).2.1,o2++[(uBz l ((k + 1 : Nat) : Int)).1]),?_,?_,uAj (⟨⟨_,rfl,?_⟩,⟨⟨_,rfl,?_⟩,⟨sx rfl,sx rfl,trivial⟩⟩⟩) trivial (⟨rfl,trivial⟩)⟩
      all_goals first | rfl | exact tx (uKf o2 (uBz l ((k + 1 : Nat) : Int)).1) | exact tx (congrArg xs (by rw [List.take_length])) | (simp only [List.take_length,List.length_drop,List.length_append,List.length_singleton]; omega) | (refine ⟨?_,?_,n,?_,hi2⟩ <;> (simp only [List.length_drop,List.length_append,List.length_singleton]; omega))
   ·try simp only [nn,uAi,Tk.rows_len] at hc3
    have hnil : l=[]:=List.eq_nil_of_length_eq_zero (by omega)
    subst hnil
    rw [uCN] at hi2
    rw [← hi2] at hi
    refine uAM ?_
    repeat (first | refine uAE ?_ | refine uAD ?_ | refine uAC rfl ?_)
    refine uAb ?_;refine uAa rfl rfl rfl (uAc rfl gU) ?_;refine uAa rfl rfl rfl (uAr rfl rfl gU gU rfl (IntWalk.i64_in _ (by omega))) ?_;refine uAa rfl rfl rfl (uAd rfl gU) ?_;refine uAf ?_;refine ⟨(k + 1,o2),?_,?_,uAj (⟨⟨_,rfl,?_⟩,⟨⟨_,rfl,?_⟩,⟨sx rfl,trivial⟩⟩⟩) trivial (⟨rfl,trivial⟩)⟩
    all_goals first | rfl | omega | (refine ⟨by dsimp only; omega,by dsimp only; omega,?_⟩; exact hi)
  ·try simp only [nn,uAi,Tk.rows_len] at hc2
   rw [List.drop_of_length_le (by omega),uFO] at hi
   refine uAM ?_
   repeat (first | refine uAE ?_ | refine uAD ?_ | refine uAC rfl ?_)
   refine uAe (uAb ?_);refine uAw rfl (uAP (.inl rfl) rfl rfl rfl) ?_;refine uAw rfl (uAP (.inr rfl) rfl rfl rfl) ?_;refine uAa rfl rfl rfl (uAd rfl gU) ?_;refine uAa rfl rfl rfl (uAd rfl gU) ?_;refine uAf ?_;refine uAp ?_
   repeat (first | refine tR ?_ | refine bR ?_)
   refine uAs rfl ?_ trivial
   (rw [← hi]; rfl)
end Go.Proofs.YtnjjdbapadkomaaGreatDoor
namespace Go.Proofs.YtnjjdbapadkomaaGreatDoor
open Go Go.Abs
theorem uFr (s : List UInt8) (hs : s.length≤9223372036854775807) : Ctr sys 103 [xs s] [] (xb (uAI s)) none []:=by
 refine uAy Tryz.func103 rfl rfl rfl rfl rfl rfl ?_;refine uAe (uAb ?_);refine uAa rfl rfl rfl (uAd rfl gU) ?_;refine uAf ?_;refine uAe (uAb ?_);refine uAa rfl rfl rfl (uAc rfl gU) ?_;refine uAa rfl rfl rfl (uAX rfl rfl gU gU rfl) ?_;refine uAa rfl rfl rfl (uAc rfl gU) ?_;refine uAa rfl rfl rfl (uAc rfl gU) ?_;refine uAa rfl rfl rfl (uAG (j:=0) rfl rfl (fun hh=>hh) gU Tryz.underlying9 (by first | omega | (simp at hh ⊢; exact List.length_pos_iff.2 hh) | (simp at hh ⊢; omega)) (fun hh=>by first | omega | (simp at hh ⊢; exact List.length_pos_iff.2 hh) | (simp at hh ⊢; omega))) ?_;refine uAx rfl rfl rfl rfl rfl rfl gU (fun hh=>gA ((fun hh=>hh) hh) (rfl)) (uDN _) rfl ?_;refine uAa rfl rfl rfl (uAR rfl rfl gU (fun _ hi=>gP rfl hi)) ?_;refine uAa rfl rfl rfl (uAc rfl gU) ?_;refine uAa rfl rfl rfl (uAc rfl gU) ?_;refine uAx rfl rfl rfl rfl rfl rfl gU (fun hh=>gA ((fun hh=>hh) hh) (rfl)) (uEd _ (by omega)) rfl ?_;refine uAa rfl rfl rfl (uAc rfl gU) ?_;refine uBl (s:=⟨[(0,_,_),(10,_,_),(12,_,_),(13,_,_)],[],[],[]⟩) (uAj (⟨sx rfl,sx rfl,sx rfl,sx rfl,trivial⟩) trivial trivial) ?_;refine uAa rfl rfl rfl (uBW rfl (fun hh=>hh) (Tryz.underlying9)) ?_;refine uAa rfl rfl rfl (uAk rfl rfl (fun hh=>hh) (fun hh=>hh) rfl) ?_;refine uAa rfl rfl rfl (uAR rfl rfl gU (fun _ hi=>gP rfl hi)) ?_
 refine uAa rfl rfl rfl (uAc rfl gU) ?_;refine uAa rfl rfl rfl (uAc rfl gU) ?_;refine uAa rfl rfl rfl (uBW rfl (fun hh=>hh) (Tryz.underlying9)) ?_;refine uAa rfl rfl rfl (uAk rfl rfl (fun hh=>hh) gU rfl) ?_;refine uAa rfl rfl rfl (uAR rfl rfl gU (fun _ hi=>gP rfl hi)) ?_;refine uAa rfl rfl rfl (uAd rfl gU) ?_;refine uAf ?_;refine uAp ?_
 repeat (first | refine tR ?_ | refine bR ?_)
 refine uAs rfl ?_ trivial;refine uB3 ?_
 unfold uAI
 rw [Bool.eq_iff_iff]
 simp only [Bool.and_eq_true,decide_eq_true_eq,bne_iff_ne,ne_eq]
 constructor
 ·rintro ⟨⟨⟨a,b⟩,c⟩,d⟩
  refine ⟨⟨⟨?_,b⟩,?_⟩,?_⟩
  ·simpa using a
  ·have c':=c; simp at c'; omega
  ·omega
 ·rintro ⟨⟨⟨a,b⟩,c⟩,d⟩
  refine ⟨⟨⟨?_,b⟩,?_⟩,?_⟩
  ·simpa using a
  ·simp; omega
  ·omega
def lnsP (s : List UInt8) : List (List UInt8):=if (spl s).getD ((spl s).length - 1) []=[] then (spl s).take ((spl s).length - 1) else spl s
theorem uMX (l : List (List UInt8)) (k : Nat) : (strR l).take k=strR (l.take k):=by simp [strR,List.map_take]
theorem uJn (s : List UInt8) (hs : s.length≤2000000) : Ctr sys 36 [xs s] [] (xss (lnsP s)) none []:=by
 have h1:=uGG s
 have h2 : 0 < (spl s).length:=List.length_pos_iff.2 (uHY s)
 refine uAy Tryz.func36 rfl rfl rfl rfl rfl rfl ?_;refine uAe (uAb ?_);refine uAa rfl rfl rfl (uAd rfl gU) ?_;refine uAf ?_;refine uAe (uAb ?_);refine uAa rfl rfl rfl (uAc rfl gU) ?_;refine uAx rfl rfl rfl rfl rfl rfl gU gU (uHg _ (by omega)) rfl ?_;refine uAa rfl rfl rfl (uAd rfl gU) ?_;refine uAf ?_;refine uAe ?_;refine uAe (uAb ?_);refine uAa rfl rfl rfl (uAc rfl gU) ?_;refine uAa rfl rfl rfl (uAc rfl gU) ?_;refine uAL rfl rfl rfl rfl rfl gU rfl rfl ?_ (fun hh=>by simp at hh); intro hlen;refine uAa rfl rfl rfl (uAr rfl rfl gU gU rfl (IntWalk.i64_in _ (by omega))) ?_;refine uAa rfl rfl rfl (uAq (j:=((spl s).length - 1)) rfl rfl gU gU rfl rfl (by first | omega | (rw [uAi]; omega) | (simp only [uAi]; omega) | (simp at hh ⊢; omega)) (fun hh=>uCe (by first | omega | (rw [uAi]; omega) | (simp only [uAi]; omega) | (simp at hh ⊢; omega)))) ?_;refine uAa rfl rfl rfl (uAK rfl gU rfl rfl rfl) ?_;refine uAa rfl rfl rfl (uAX rfl rfl gU gU rfl) ?_;refine uAf ?_;refine uAn (s:=⟨[(3,_,_),(12,_,_)],[],[],[]⟩) (uAj (⟨sx rfl,sx rfl,trivial⟩) trivial trivial) ?_;refine uAm rfl (fun hc=>?_) (fun hc=>?_)
 ·try simp only [nn,uAi,Tk.rows_len] at hc
  refine uAb ?_;refine uAa rfl rfl rfl (uAc rfl gU) ?_;refine uAa rfl rfl rfl (uAc rfl gU) ?_;refine uAL rfl rfl rfl rfl rfl gU rfl rfl ?_ (fun hh=>by simp at hh); intro hlen;refine uAa rfl rfl rfl (uAr rfl rfl gU gU rfl (IntWalk.i64_in _ (by omega))) ?_;refine uAa rfl rfl rfl (uLg (h':=((spl s).length - 1)) rfl gU rfl rfl (fun _=>rfl) (fun _=>⟨_,_,_,rfl,gU,by first | omega | (rw [uAi]; omega) | (simp only [uAi]; omega) | (simp at hh ⊢; omega)⟩) (fun hh=>by first | omega | (rw [uAi]; omega) | (simp only [uAi]; omega) | (simp at hh ⊢; omega)) (fun hh=>by first | omega | (rw [uAi]; omega) | (simp only [uAi]; omega) | (simp at hh ⊢; omega))) ?_;refine uAa rfl rfl rfl (uAd rfl gU) ?_;refine uAf ?_;refine uAn (s:=⟨[(3,_,_)],[],[],[]⟩) (uAj (⟨sx rfl,trivial⟩) trivial trivial) ?_;refine uAe (uAb ?_);refine uAa rfl rfl rfl (uAc rfl gU) ?_;refine uAa rfl rfl rfl (uAd rfl gU) ?_;refine uAf ?_;refine uAp ?_
  repeat (first | refine tR ?_ | refine bR ?_)
  refine uAs rfl ?_ trivial
  (rw [lnsP,if_pos (by simpa using hc),xss,← uMX]; rfl)
 ·try simp only [nn,uAi,Tk.rows_len] at hc
  refine uAo ?_;refine uAe (uAb ?_);refine uAa rfl rfl rfl (uAc rfl gU) ?_;refine uAa rfl rfl rfl (uAd rfl gU) ?_;refine uAf ?_;refine uAp ?_
  repeat (first | refine tR ?_ | refine bR ?_)
  refine uAs rfl ?_ trivial
  (rw [lnsP,if_neg (by simpa using hc)]; rfl)
def uOS (a b : List (List UInt8)) : Bool:=decide (a=b)
theorem uE8 (a b : List (List UInt8)) : Ctr sys 64 [xss a,xss b] [] (xb (uOS a b)) none []:=by
 have la:=uAi a
 have lb:=uAi b
 refine uAy Tryz.func64 rfl rfl rfl rfl rfl rfl ?_;refine uAe (uAb ?_);refine uAa rfl rfl rfl (uAd rfl gU) ?_;refine uAf ?_;refine uAe ?_;refine uAe (uAb ?_);refine uAa rfl rfl rfl (uAc rfl gU) ?_;refine uAL rfl rfl rfl rfl rfl gU rfl rfl ?_ (fun hh=>by simp at hh); intro hlen;refine uAa rfl rfl rfl (uAc rfl gU) ?_;refine uAL rfl rfl rfl rfl rfl gU rfl rfl ?_ (fun hh=>by simp at hh); intro hlen;refine uAa rfl rfl rfl (uAk rfl rfl gU gU rfl) ?_;refine uAf ?_;refine uAn (s:=⟨[(0,_,_),(1,_,_),(10,_,_)],[],[],[]⟩) (uAj (⟨sx rfl,sx rfl,sx rfl,trivial⟩) trivial trivial) ?_;refine uAm rfl (fun hc=>?_) (fun hc=>?_)
 ·try simp only [nn,uAi,Tk.rows_len] at hc
  refine uAe (uAb ?_);refine uAa rfl rfl rfl (uAd rfl gU) ?_;refine uAf ?_;refine uAp ?_
  repeat (first | refine tR ?_ | refine bR ?_)
  refine uAs rfl ?_ trivial;exact uB3 (by symm; exact decide_eq_false (by intro e; rw [e] at hc; exact hc rfl))
 ·try simp only [nn,uAi,Tk.rows_len] at hc
  have hl : a.length=b.length:=by omega
  refine uAo ?_;refine uAe ?_;refine uAe (uAb ?_);refine uAa rfl rfl rfl (uAd rfl gU) ?_;refine uAf ?_;refine uAt ?_;refine uAY (ι:=Nat) { t:=[(0,_,_),(1,_,_)],bx:=[],ow:=[] } (fun k=>[(5,true,xi (k : Int))]) (fun k=>[]) (fun k=>k≤a.length ∧ ∀ j,j < k→a.getD j []=b.getD j []) (fun k=>a.length - k) (0) (by simp) (uAj (⟨sx rfl,sx rfl,sx rfl,trivial⟩) trivial trivial) ?_
  intro k hok
  dsimp only [List.cons_append,List.nil_append]
  obtain ⟨hk,hi⟩:=hok
  refine uAe ?_;refine uAe (uAb ?_);refine uAa rfl rfl rfl (uAc rfl gU) ?_;refine uAa rfl rfl rfl (uAc rfl gU) ?_;refine uAL rfl rfl rfl rfl rfl gU rfl rfl ?_ (fun hh=>by simp at hh); intro hlen;refine uAa rfl rfl rfl (uAk rfl rfl gU gU rfl) ?_;refine uAf ?_;refine uAm rfl (fun hc2=>?_) (fun hc2=>?_)
  ·try simp only [nn,uAi,Tk.rows_len] at hc2
   refine uAo ?_;refine uAe ?_;refine uAt ?_;refine uAe ?_;refine awp_drawn' (by kernel_rfl) ?_;refine uAh rfl rfl rfl rfl (uAc rfl gU) ?_;refine uAh rfl rfl rfl rfl (uAc rfl gU) ?_;refine uAh rfl rfl rfl rfl (uAq rfl rfl gU gU rfl rfl rfl (fun hh=>uCe (by first | omega | (rw [uAi]; omega) | (simp only [uAi]; omega) | (simp at hh ⊢; omega)))) ?_;refine uAh rfl rfl rfl rfl (uAK rfl gU rfl rfl rfl) ?_;refine uAh rfl rfl rfl rfl (uAc rfl gU) ?_;refine uAh rfl rfl rfl rfl (uAc rfl gU) ?_;refine uAh rfl rfl rfl rfl (uAq rfl rfl gU gU rfl rfl rfl (fun hh=>uCe (by first | omega | (rw [uAi]; omega) | (simp only [uAi]; omega) | (simp at hh ⊢; omega)))) ?_;refine uAh rfl rfl rfl rfl (uAK rfl gU rfl rfl rfl) ?_;refine uAh rfl rfl rfl rfl (uAX rfl rfl gU gU rfl) ?_;refine uA6 (by kernel_rfl) ?_;refine uAn (s:=⟨[(0,_,_),(1,_,_),(5,_,_),(25,_,_)],[],[],[]⟩) (uAj (⟨sx rfl,sx rfl,sx rfl,sx rfl,trivial⟩) trivial trivial) ?_;refine uAm rfl (fun hc3=>?_) (fun hc3=>?_)
   ·try simp only [nn,uAi,Tk.rows_len] at hc3
    refine uAe (uAb ?_);refine uAa rfl rfl rfl (uAd rfl gU) ?_;refine uAf ?_;refine uAp ?_
    repeat (first | refine tR ?_ | refine bR ?_)
    refine uAs rfl ?_ trivial;exact uB3 (by symm; exact decide_eq_false (by intro e; rw [e] at hc3; exact hc3 rfl))
   ·try simp only [nn,uAi,Tk.rows_len] at hc3
    refine uAo ?_;refine uAb ?_;refine uAa rfl rfl rfl (uAc rfl gU) ?_;refine uAa rfl rfl rfl (uAr rfl rfl gU gU rfl (IntWalk.i64_in _ (by omega))) ?_;refine uAa rfl rfl rfl (uAd rfl gU) ?_;refine uAf ?_;refine ⟨k + 1,?_,?_,uAj (⟨⟨_,rfl,?_⟩,⟨sx rfl,sx rfl,trivial⟩⟩) trivial trivial⟩
    all_goals (first | rfl | omega | (refine ⟨by omega,fun j hj=>?_⟩; by_cases q : j=k; { subst q; exact hc3 }; { exact hi j (by omega) }))
  ·try simp only [nn,uAi,Tk.rows_len] at hc2
   have he : a=b:=by
    apply List.ext_getElem?
    intro i
    by_cases hlt : i < a.length
    ·have := hi i (by omega)
     rw [List.getD_eq_getElem?_getD,List.getD_eq_getElem?_getD,List.getElem?_eq_getElem hlt,List.getElem?_eq_getElem (hl ▸ hlt)] at this
     rw [List.getElem?_eq_getElem hlt,List.getElem?_eq_getElem (hl ▸ hlt)]
     exact congrArg some this
    ·rw [List.getElem?_eq_none (by omega),List.getElem?_eq_none (by omega)]
   refine uAM ?_
   repeat (first | refine uAE ?_ | refine uAD ?_ | refine uAC rfl ?_)
   refine uAe (uAb ?_);refine uAa rfl rfl rfl (uAd rfl gU) ?_;refine uAf ?_;refine uAp ?_
   repeat (first | refine tR ?_ | refine bR ?_)
   refine uAs rfl ?_ trivial;exact uB3 (by symm; exact decide_eq_true he)
theorem uFQ (s : List UInt8) (hs : s.length≤9223372036854775807) : Ctr sys 53 [xs s] [] (xb (rnmE s)) none []:=by
 have hr:=Tk.rows_len (tokR s).1
 refine uAy Tryz.func53 rfl rfl rfl rfl rfl rfl ?_;refine uAe (uAb ?_);refine uAa rfl rfl rfl (uAd rfl gU) ?_;refine uAf ?_;refine uAe (uAb ?_);refine uAa rfl rfl rfl (uAc rfl gU) ?_;refine uAx rfl rfl rfl rfl rfl rfl gU gU (uIV _ (by omega)) rfl ?_;refine uAa rfl rfl rfl (uAc rfl gU) ?_;refine uAa rfl rfl rfl (uAH rfl gU rfl) ?_;refine uAa rfl rfl rfl (uAH rfl gU rfl) ?_;refine uAa rfl rfl rfl (uAH rfl gU rfl) ?_;refine uAa rfl rfl rfl (uAd rfl gU) ?_;refine uAa rfl rfl rfl (uAd rfl gU) ?_;refine uAa rfl rfl rfl (uAd rfl gU) ?_;refine uAf ?_;refine uAn (s:=⟨[(0,_,_),(3,_,_),(5,_,_)],[],[],[]⟩) (uAj (⟨sx rfl,sx rfl,sx rfl,trivial⟩) trivial trivial) ?_;refine uAe (uAb ?_);refine uAa rfl rfl rfl (uAc rfl gU) ?_;refine uAa rfl rfl rfl (uAk rfl rfl gU gU rfl) ?_;refine uAa rfl rfl rfl (uAc rfl gU) ?_;refine uAa rfl rfl rfl (uAc rfl gU) ?_;refine uAa rfl rfl rfl (uAZ rfl (fun hh=>hh) rfl rfl) ?_;refine uAa rfl rfl rfl (uAk rfl rfl (fun hh=>hh) gU rfl) ?_;refine uAa rfl rfl rfl (uAR rfl rfl gU (fun _ hi=>gP rfl hi)) ?_;refine uAa rfl rfl rfl (uAc rfl gU) ?_;refine uAa rfl rfl rfl (uAc rfl gU) ?_;refine uAa rfl rfl rfl (uAq (j:=0) rfl rfl (fun hh=>hh) gU rfl rfl (by first | omega | (simp at hh ⊢; omega) | (simp at hh; omega)) (fun hh=>Tk.rows_at (by first | omega | (simp at hh ⊢; omega) | (simp at hh; omega)))) ?_
 refine uAa rfl rfl rfl (uAO rfl (fun hh=>hh) rfl rfl) ?_;refine uAa rfl rfl rfl (uAK rfl (fun hh=>hh) rfl rfl rfl) ?_;refine uBl (s:=⟨[(0,_,_),(3,_,_),(19,_,_),(23,_,_)],[],[],[]⟩) (uAj (⟨sx rfl,sx rfl,sx rfl,sx rfl,trivial⟩) trivial trivial) ?_;refine uAa rfl rfl rfl (uAk rfl rfl (fun hh=>hh) gU rfl) ?_;refine uAa rfl rfl rfl (uAR rfl rfl gU (fun _ hi=>gP rfl hi)) ?_;refine uAa rfl rfl rfl (uAc rfl gU) ?_;refine uAa rfl rfl rfl (uAc rfl gU) ?_;refine uAa rfl rfl rfl (uAq (j:=0) rfl rfl (fun hh=>hh) gU rfl rfl (by first | omega | (simp at hh ⊢; omega) | (simp at hh; omega)) (fun hh=>Tk.rows_at (by first | omega | (simp at hh ⊢; omega) | (simp at hh; omega)))) ?_;refine uAa rfl rfl rfl (uAO rfl (fun hh=>hh) rfl rfl) ?_;refine uAa rfl rfl rfl (uAK rfl (fun hh=>hh) rfl rfl rfl) ?_;refine uAa rfl rfl rfl (uAc rfl gU) ?_;refine uAa rfl rfl rfl (uAX rfl rfl (fun hh=>hh) (fun hh=>hh) rfl) ?_;refine uAa rfl rfl rfl (uAR rfl rfl gU (fun _ hi=>gP rfl hi)) ?_;refine uAa rfl rfl rfl (uAc rfl gU) ?_;refine uAa rfl rfl rfl (uAc rfl gU) ?_;refine uBl (s:=⟨[(34,_,_),(35,_,_)],[],[],[]⟩) (uAj (⟨sx rfl,sx rfl,trivial⟩) trivial trivial) ?_;refine uAx rfl rfl rfl rfl rfl rfl gU (fun hh=>gA ((fun hh=>hh) hh) (rfl)) (uGh _) rfl ?_
 refine uAa rfl rfl rfl (uAR rfl rfl gU (fun _ hi=>gP rfl hi)) ?_;refine uAa rfl rfl rfl (uAd rfl gU) ?_;refine uAf ?_;refine uAp ?_
 repeat (first | refine tR ?_ | refine bR ?_)
 refine uAs rfl ?_ trivial;refine uB3 ?_
 unfold rnmE
 rw [Bool.eq_iff_iff]
 simp only [Bool.and_eq_true,decide_eq_true_eq,beq_iff_eq]
 constructor
 ·rintro ⟨⟨⟨⟨a,b⟩,c⟩,d⟩,e⟩
  exact ⟨⟨⟨⟨by simpa using a,by have := b; simp [Tk.rows_len] at this; omega⟩,by simpa using c⟩,by simpa using d⟩,e⟩
 ·rintro ⟨⟨⟨⟨a,b⟩,c⟩,d⟩,e⟩
  exact ⟨⟨⟨⟨by simpa using a,by simp [Tk.rows_len]; omega⟩,by simpa using c⟩,by simpa using d⟩,e⟩
theorem uDS (s : List UInt8) : Ctr sys 103 [xs s] [] (xb (uAI s)) none []:=uHh (uHU (uFr [] (by simp))) fun h=>uFr s h
theorem uKM (s : List UInt8) : Ctr sys 53 [xs s] [] (xb (rnmE s)) none []:=uHh (uHU (uFQ [] (by simp))) fun h=>uFQ s h
theorem uPv (s : List UInt8) : rnmE s=uAI s:=by
 by_cases h : s.length≤65536
 ·exact (uNk s h).symm
 ·have h1 : uAI s=false:=by
   unfold uAI
   have : decide (s.length≤24)=false:=decide_eq_false (by omega)
   rw [this,Bool.and_false]
  have h2 : uCS s=false:=by
   unfold uCS
   have : decide (s.length≤24)=false:=decide_eq_false (by omega)
   simp only [this,Bool.and_false,Bool.false_and]
  rw [h1]
  unfold rnmE
  rw [h2,Bool.and_false]
end Go.Proofs.YtnjjdbapadkomaaGreatDoor
namespace Go.Proofs.YtnjjdbapadkomaaGreatDoor
open Go Go.Abs
theorem uCi {α : Type} {f : α→Int} {l : List α} {d : α} {k : Nat} {e : Int} (h : k < l.length) (hi : errs f (l.drop k)=e) : (f (l.getD k d)≠0→e=f (l.getD k d))∧(f (l.getD k d)=0→errs f (l.drop (k + 1))=e):=by
 rw [uGU (d:=d) h,errs] at hi
 refine ⟨fun q=>?_,fun q=>?_⟩
 ·rw [if_pos q] at hi; exact hi.symm
 ·rw [if_neg (by rw [q]; simp)] at hi; exact hi
theorem uDp {α : Type} {f : α→Int} {l : List α} {k : Nat} {e : Int} (h : l.length≤k) (hi : errs f (l.drop k)=e) : e=0:=by
 rw [List.drop_of_length_le h] at hi; exact hi.symm
theorem uN8 : ∀ (n : Nat) (t : T),t.size≤n→n≤2000000→Ctr sys 118 [xm t] [] (xi (rawE uAI t)) none []:=by
 intro n
 induction n with
 | zero=>intro t h; have := t.size_pos; omega
 | succ n ih =>
  intro t ht hn
  have hse:=t.size_eq
  have hrl:=T.rows_len t.kids
  have hls:=T.len_sizes t.kids
  have he:=uLR uAI t
  rw [uFf] at he
  refine uAy Tryz.func118 rfl rfl rfl rfl rfl rfl ?_;refine uAe (uAb ?_);refine uAw rfl (uAW rfl rfl rfl rfl) ?_;refine uAa rfl rfl rfl (uAd rfl gU) ?_;refine uAf ?_;refine uAe ?_;refine uAe (uAb ?_);refine uAa rfl rfl rfl (uAg rfl gU rfl rfl) ?_;refine uAa rfl rfl rfl (uAl rfl gU rfl rfl rfl rfl) ?_;refine uAa rfl rfl rfl (uAk rfl rfl gU gU rfl) ?_;refine uAa rfl rfl rfl (uAc rfl gU) ?_;refine uAa rfl rfl rfl (uAg rfl gU rfl rfl) ?_;refine uAa rfl rfl rfl (uAl rfl (fun hh=>hh) rfl rfl rfl rfl) ?_;refine uAa rfl rfl rfl (uAk rfl rfl (fun hh=>hh) gU rfl) ?_;refine uAa rfl rfl rfl (uAJ rfl rfl gU (fun _ hi=>gP rfl hi)) ?_;refine uAf ?_;refine uAn (s:=⟨[(1,_,_),(13,_,_)],[(.l 1,_)],[],[]⟩) (uAj (⟨sx rfl,sx rfl,trivial⟩) (⟨sx rfl,trivial⟩) trivial) ?_;refine uAm rfl (fun hc=>?_) (fun hc=>?_)
  ·try simp only [nn,uAi,T.rows_len,Fs.rows_len,Sp.rows_len,Gl.rows_len] at hc
   refine uAe (uAb ?_);refine uAa rfl rfl rfl (uAd rfl gU) ?_;refine uAf ?_;refine uAp ?_
   repeat (first | refine tR ?_ | refine bR ?_)
   refine uAs rfl ?_ trivial
   (rw [he,if_pos (by grind)]; rfl)
  ·try simp only [nn,uAi,T.rows_len,Fs.rows_len,Sp.rows_len,Gl.rows_len] at hc
   rw [if_neg (by grind)] at he
   refine uAo ?_;refine uAe ?_;refine uAe (uAb ?_);refine uAa rfl rfl rfl (uAg rfl gU rfl rfl) ?_;refine uAa rfl rfl rfl (uAl rfl gU rfl rfl rfl rfl) ?_;refine uAx rfl rfl rfl rfl rfl rfl gU gU (uDS _) rfl ?_;refine uAa rfl rfl rfl (uAV rfl gU) ?_;refine uAf ?_;refine uAm rfl (fun hc2=>?_) (fun hc2=>?_)
   ·try simp only [nn,uAi,T.rows_len,Fs.rows_len,Sp.rows_len,Gl.rows_len] at hc2
    refine uAe (uAb ?_);refine uAa rfl rfl rfl (uAd rfl gU) ?_;refine uAf ?_;refine uAp ?_
    repeat (first | refine tR ?_ | refine bR ?_)
    refine uAs rfl ?_ trivial
    (rw [he,if_pos hc2]; rfl)
   ·try simp only [nn,uAi,T.rows_len,Fs.rows_len,Sp.rows_len,Gl.rows_len] at hc2
    rw [if_neg (by rw [hc2]; simp)] at he
    refine uAo ?_;refine uAe ?_;refine uAe (uAb ?_);refine uAa rfl rfl rfl (uAg rfl gU rfl rfl) ?_;refine uAa rfl rfl rfl (uAl rfl gU rfl rfl rfl rfl) ?_;refine uAL rfl rfl rfl rfl rfl gU rfl rfl ?_ (fun hh=>by simp at hh); intro hlen;refine uAa rfl rfl rfl (uAc rfl gU) ?_;refine uAf ?_;refine uAn (s:=⟨[(19,_,_),(20,_,_),(21,_,_)],[],[],[]⟩) (uAj (⟨sx rfl,sx rfl,sx rfl,trivial⟩) trivial trivial) ?_;refine uAt ?_;refine uAY (ι:=Nat) { t:=[(19,_,_),(20,_,_)],bx:=[],ow:=[] } (fun k=>[(21,true,xi (k : Int))]) (fun k=>[]) (fun k=>k≤t.kids.length∧errs (rawE uAI) (t.kids.drop k)=rawE uAI t) (fun k=>t.kids.length - k) (0) (⟨by simp,by rw [he]; rfl⟩) (uAj (⟨sx rfl,sx rfl,sx rfl,trivial⟩) trivial trivial) ?_
    intro k hok
    dsimp only [List.cons_append,List.nil_append]
    obtain ⟨hk,hi⟩:=hok
    refine uAe (uAb ?_);refine uAa rfl rfl rfl (uAk rfl rfl gU gU rfl) ?_;refine uAf ?_;refine uAe ?_;refine uAm rfl (fun hc3=>?_) (fun hc3=>?_)
    ·try simp only [nn,uAi,T.rows_len,Fs.rows_len,Sp.rows_len,Gl.rows_len] at hc3
     have hlt : k < t.kids.length:=by omega
     have h2:=T.getD_size hlt
     have hd:=uCi (d:=default) hlt hi
     refine uAo ?_;refine uAe ?_;refine uAt ?_;refine uAe (uAb ?_);refine uAa rfl rfl rfl (uAq rfl rfl gU gU rfl rfl rfl (fun hh=>T.rows_at (by first | omega | (simp at hh ⊢; omega)))) ?_;refine uAa rfl rfl rfl (uAF rfl gU rfl rfl rfl rfl) ?_;refine uAw rfl (uAT rfl rfl rfl) ?_;refine uAw rfl (uAB rfl rfl rfl rfl rfl rfl rfl) ?_;refine uAf ?_;refine uAe (uAb ?_);refine uAa rfl rfl rfl (uAv rfl gU rfl rfl rfl rfl rfl) ?_;refine uAx rfl rfl rfl rfl rfl rfl gU gU (ih (t.kids.getD k default) (by omega) (by omega)) rfl ?_;refine uAa rfl rfl rfl (uAd rfl gU) ?_;refine uAf ?_;refine uAn (s:=⟨[(5,_,_),(19,_,_),(20,_,_),(21,_,_)],[],[],[]⟩) (uAj (⟨sx rfl,sx rfl,sx rfl,sx rfl,trivial⟩) trivial trivial) ?_;refine uAe (uAb ?_);refine uAa rfl rfl rfl (uAc rfl gU) ?_;refine uAa rfl rfl rfl (uAk rfl rfl gU gU rfl) ?_;refine uAf ?_;refine uAm rfl (fun hc1=>?_) (fun hc1=>?_)
     ·try simp only [nn,uAi,T.rows_len,Fs.rows_len,Sp.rows_len,Gl.rows_len] at hc1
      refine uAe (uAb ?_);refine uAa rfl rfl rfl (uAc rfl gU) ?_;refine uAa rfl rfl rfl (uAd rfl gU) ?_;refine uAf ?_;refine uAp ?_
      repeat (first | refine tR ?_ | refine bR ?_)
      refine uAs rfl ?_ trivial;exact uBb (hd.1 (by assumption)).symm
     ·try simp only [nn,uAi,T.rows_len,Fs.rows_len,Sp.rows_len,Gl.rows_len] at hc1
      refine uAo ?_;refine uAb ?_;refine uAa rfl rfl rfl (uAr rfl rfl gU gU rfl (IntWalk.i64_in _ (by omega))) ?_;refine uAa rfl rfl rfl (uAc rfl gU) ?_;refine uAf ?_;refine ⟨k + 1,?_,?_,uAj (⟨⟨_,rfl,?_⟩,⟨sx rfl,sx rfl,trivial⟩⟩) trivial trivial⟩
      all_goals (first | rfl | omega | exact ⟨by omega,hd.2 (by assumption)⟩)
    ·try simp only [nn,uAi,T.rows_len,Fs.rows_len,Sp.rows_len,Gl.rows_len] at hc3
     refine uAM ?_
     repeat (first | refine uAE ?_ | refine uAD ?_ | refine uAC rfl ?_)
     refine uAe (uAb ?_);refine uAa rfl rfl rfl (uAd rfl gU) ?_;refine uAf ?_;refine uAp ?_
     repeat (first | refine tR ?_ | refine bR ?_)
     refine uAs rfl ?_ trivial;exact uBb (uDp (by omega) hi).symm
theorem uDV (t : T) (ht : t.size≤900000) : Ctr sys 67 [xm t] [] (xi (uC6 uAI t)) none []:=by
 refine uAy Tryz.func67 rfl rfl rfl rfl rfl rfl ?_;refine uAe (uAb ?_);refine uAw rfl (uAW rfl rfl rfl rfl) ?_;refine uAa rfl rfl rfl (uAd rfl gU) ?_;refine uAf ?_;refine uAe ?_;refine uAe (uAb ?_);refine uAa rfl rfl rfl (uAv rfl gU rfl rfl rfl rfl rfl) ?_;refine uAx rfl rfl rfl rfl rfl rfl gU gU (uJq _ (by omega)) rfl ?_;refine uAa rfl rfl rfl (uAd rfl gU) ?_;refine uAf ?_;refine uAn (s:=⟨[(1,_,_),(3,_,_)],[(.l 1,_)],[],[]⟩) (uAj (⟨sx rfl,sx rfl,trivial⟩) (⟨sx rfl,trivial⟩) trivial) ?_;refine uAe (uAb ?_);refine uAa rfl rfl rfl (uAc rfl gU) ?_;refine uAa rfl rfl rfl (uAk rfl rfl gU gU rfl) ?_;refine uAf ?_;refine uAm rfl (fun hc=>?_) (fun hc=>?_)
 ·try simp only [nn,uAi,T.rows_len,Fs.rows_len,Sp.rows_len,Gl.rows_len] at hc
  refine uAe (uAb ?_);refine uAa rfl rfl rfl (uAc rfl gU) ?_;refine uAa rfl rfl rfl (uAd rfl gU) ?_;refine uAf ?_;refine uAp ?_
  repeat (first | refine tR ?_ | refine bR ?_)
  refine uAs rfl ?_ trivial
  (rw [uC6,if_pos hc]; rfl)
 ·try simp only [nn,uAi,T.rows_len,Fs.rows_len,Sp.rows_len,Gl.rows_len] at hc
  refine uAo ?_;refine uAe (uAb ?_);refine uAa rfl rfl rfl (uAv rfl gU rfl rfl rfl rfl rfl) ?_;refine uAx rfl rfl rfl rfl rfl rfl gU gU (uN8 _ _ (Nat.le_refl _) (by omega)) rfl ?_;refine uAa rfl rfl rfl (uAd rfl gU) ?_;refine uAf ?_;refine uAp ?_
  repeat (first | refine tR ?_ | refine bR ?_)
  refine uAs rfl ?_ trivial
  (rw [uC6,if_neg (by simpa using hc)]; rfl)
theorem uFC (t : T) (ht : t.size≤900000) : Ctr sys 51 [xm t] [] (xi (msgE uAI t)) none []:=by
 refine uAy Tryz.func51 rfl rfl rfl rfl rfl rfl ?_;refine uAe (uAb ?_);refine uAw rfl (uAW rfl rfl rfl rfl) ?_;refine uAa rfl rfl rfl (uAd rfl gU) ?_;refine uAf ?_;refine uAe ?_;refine uAe (uAb ?_);refine uAa rfl rfl rfl (uAv rfl gU rfl rfl rfl rfl rfl) ?_;refine uAx rfl rfl rfl rfl rfl rfl gU gU (uDV _ (by omega)) rfl ?_;refine uAa rfl rfl rfl (uAd rfl gU) ?_;refine uAf ?_;refine uAn (s:=⟨[(1,_,_),(3,_,_)],[(.l 1,_)],[],[]⟩) (uAj (⟨sx rfl,sx rfl,trivial⟩) (⟨sx rfl,trivial⟩) trivial) ?_;refine uAe (uAb ?_);refine uAa rfl rfl rfl (uAc rfl gU) ?_;refine uAa rfl rfl rfl (uAk rfl rfl gU gU rfl) ?_;refine uAf ?_;refine uAm rfl (fun hc=>?_) (fun hc=>?_)
 ·try simp only [nn,uAi,T.rows_len,Fs.rows_len,Sp.rows_len,Gl.rows_len] at hc
  refine uAe (uAb ?_);refine uAa rfl rfl rfl (uAc rfl gU) ?_;refine uAa rfl rfl rfl (uAd rfl gU) ?_;refine uAf ?_;refine uAp ?_
  repeat (first | refine tR ?_ | refine bR ?_)
  refine uAs rfl ?_ trivial
  (rw [msgE,if_pos hc]; rfl)
 ·try simp only [nn,uAi,T.rows_len,Fs.rows_len,Sp.rows_len,Gl.rows_len] at hc
  refine uAo ?_;refine uAe ?_;refine uAe (uAb ?_);refine uAa rfl rfl rfl (uAv rfl gU rfl rfl rfl rfl rfl) ?_;refine uAx rfl rfl rfl rfl rfl rfl gU gU (uLq _ _ (Nat.le_refl _) (by omega)) rfl ?_;refine uAa rfl rfl rfl (uAk rfl rfl gU gU rfl) ?_;refine uAf ?_;refine uAn (s:=⟨[(11,_,_)],[],[],[]⟩) (uAj (⟨sx rfl,trivial⟩) trivial trivial) ?_;refine uAm rfl (fun hc2=>?_) (fun hc2=>?_)
  ·try simp only [nn,uAi,T.rows_len,Fs.rows_len,Sp.rows_len,Gl.rows_len] at hc2
   refine uAe (uAb ?_);refine uAa rfl rfl rfl (uAd rfl gU) ?_;refine uAf ?_;refine uAp ?_
   repeat (first | refine tR ?_ | refine bR ?_)
   refine uAs rfl ?_ trivial
   (rw [msgE,if_neg (by simpa using hc),if_pos (by omega)]; rfl)
  ·try simp only [nn,uAi,T.rows_len,Fs.rows_len,Sp.rows_len,Gl.rows_len] at hc2
   refine uAo ?_;refine uAe (uAb ?_);refine uAa rfl rfl rfl (uAd rfl gU) ?_;refine uAf ?_;refine uAp ?_
   repeat (first | refine tR ?_ | refine bR ?_)
   refine uAs rfl ?_ trivial
   (rw [msgE,if_neg (by simpa using hc),if_neg (by omega)]; rfl)
theorem uB7 (g : Gl) : Ctr sys 96 [xg g] [] (xb (uBo g.kind)) none []:=by
 refine uAy Tryz.func96 rfl rfl rfl rfl rfl rfl ?_;refine uAe (uAb ?_);refine uAw rfl (uAW rfl rfl rfl rfl) ?_;refine uAa rfl rfl rfl (uAd rfl gU) ?_;refine uAf ?_;refine uAe (uAb ?_);refine uAa rfl rfl rfl (uAg rfl gU rfl rfl) ?_;refine uAa rfl rfl rfl (uAl rfl gU rfl rfl rfl rfl) ?_;refine uAa rfl rfl rfl (uAk rfl rfl gU gU rfl) ?_;refine uAa rfl rfl rfl (uAc rfl gU) ?_;refine uAa rfl rfl rfl (uAg rfl gU rfl rfl) ?_;refine uAa rfl rfl rfl (uAl rfl (fun hh=>hh) rfl rfl rfl rfl) ?_;refine uAa rfl rfl rfl (uAk rfl rfl (fun hh=>hh) gU rfl) ?_;refine uAa rfl rfl rfl (uAJ rfl rfl gU (fun _ hi=>gP rfl hi)) ?_;refine uAa rfl rfl rfl (uAd rfl gU) ?_;refine uAf ?_;refine uAp ?_
 repeat (first | refine tR ?_ | refine bR ?_)
 refine uAs rfl ?_ trivial
 rfl
theorem uCV (s : List UInt8) : Ctr sys 50 [xs s] [] (xb (!uAI s)) none []:=by
 refine uAy Tryz.func50 rfl rfl rfl rfl rfl rfl ?_;refine uAe (uAb ?_);refine uAa rfl rfl rfl (uAd rfl gU) ?_;refine uAf ?_;refine uAe (uAb ?_);refine uAa rfl rfl rfl (uAc rfl gU) ?_;refine uAx rfl rfl rfl rfl rfl rfl gU gU (uDS _) rfl ?_;refine uAa rfl rfl rfl (uAV rfl gU) ?_;refine uAa rfl rfl rfl (uAd rfl gU) ?_;refine uAf ?_;refine uAp ?_
 repeat (first | refine tR ?_ | refine bR ?_)
 refine uAs rfl ?_ trivial
 rfl
theorem uMW (g : Gl) (hg : T.sizes g.data≤900000) : Ctr sys 52 [xg g] [] (xi (uB1 uAI g)) none []:=by
 have hls:=T.len_sizes g.data
 have hrl:=T.rows_len g.data
 refine uAy Tryz.func52 rfl rfl rfl rfl rfl rfl ?_;refine uAe (uAb ?_);refine uAw rfl (uAW rfl rfl rfl rfl) ?_;refine uAa rfl rfl rfl (uAd rfl gU) ?_;refine uAf ?_;refine uAe (uAb ?_);refine uAa rfl rfl rfl (uAg rfl gU rfl rfl) ?_;refine uAa rfl rfl rfl (uAl rfl gU rfl rfl rfl rfl) ?_;refine uAL rfl rfl rfl rfl rfl gU rfl rfl ?_ (fun hh=>by simp at hh); intro hlen;refine uAa rfl rfl rfl (uAd rfl gU) ?_;refine uAf ?_;refine uAn (s:=⟨[(1,_,_),(3,_,_)],[(.l 1,_)],[],[]⟩) (uAj (⟨sx rfl,sx rfl,trivial⟩) (⟨sx rfl,trivial⟩) trivial) ?_;refine uAe ?_;refine uAt ?_;refine uAe (uAb ?_);refine uAa rfl rfl rfl (uAg rfl gU rfl rfl) ?_;refine uAa rfl rfl rfl (uAl rfl gU rfl rfl rfl rfl) ?_;refine uAa rfl rfl rfl (uAk rfl rfl gU gU rfl) ?_;refine uAa rfl rfl rfl (uAc rfl gU) ?_;refine uAa rfl rfl rfl (uAg rfl gU rfl rfl) ?_;refine uAa rfl rfl rfl (uAl rfl (fun hh=>hh) rfl rfl rfl rfl) ?_;refine uAa rfl rfl rfl (uAk rfl rfl (fun hh=>hh) gU rfl) ?_;refine uAa rfl rfl rfl (uAJ rfl rfl gU (fun _ hi=>gP rfl hi)) ?_;refine uAa rfl rfl rfl (uAd rfl gU) ?_;refine uAf ?_;refine uAn (s:=⟨[(1,_,_),(3,_,_),(10,_,_)],[(.l 1,_)],[],[]⟩) (uAj (⟨sx rfl,sx rfl,sx rfl,trivial⟩) (⟨sx rfl,trivial⟩) trivial) ?_
 refine uAm rfl (fun hc=>?_) (fun hc=>?_)
 ·try simp only [nn,uAi,T.rows_len,Fs.rows_len,Sp.rows_len,Gl.rows_len] at hc
  refine uAe (uAb ?_);refine uAa rfl rfl rfl (uAd rfl gU) ?_;refine uAf ?_;refine uAp ?_
  repeat (first | refine tR ?_ | refine bR ?_)
  refine uAs rfl ?_ trivial
  (rw [uB1,if_pos (by grind)]; rfl)
 ·try simp only [nn,uAi,T.rows_len,Fs.rows_len,Sp.rows_len,Gl.rows_len] at hc
  refine uAe (uAb ?_);refine uAa rfl rfl rfl (uAg rfl gU rfl rfl) ?_;refine uAa rfl rfl rfl (uAl rfl gU rfl rfl rfl rfl) ?_;refine uAx rfl rfl rfl rfl rfl rfl gU gU (uDS _) rfl ?_;refine uAa rfl rfl rfl (uAV rfl gU) ?_;refine uAa rfl rfl rfl (uAc rfl gU) ?_;refine uAa rfl rfl rfl (uAv rfl gU rfl rfl rfl rfl rfl) ?_;refine uAx rfl rfl rfl rfl rfl rfl gU (fun hh=>gA ((fun hh=>hh) hh) (rfl)) (uB7 _) rfl ?_;refine uAa rfl rfl rfl (uAc rfl (fun hh=>hh)) ?_;refine uAa rfl rfl rfl (uAg rfl gU rfl rfl) ?_;refine uAa rfl rfl rfl (uAl rfl (fun hh=>hh) rfl rfl rfl rfl) ?_;refine uAx rfl rfl rfl rfl rfl rfl gU (fun hh=>gA ((fun hh=>hh) hh) (rfl)) (uDS _) rfl ?_;refine uAa rfl rfl rfl (uAV rfl (fun hh=>hh)) ?_;refine uBl (s:=⟨[(1,_,_),(3,_,_),(24,_,_),(27,_,_),(31,_,_)],[(.l 1,_)],[],[]⟩) (uAj (⟨sx rfl,sx rfl,sx rfl,sx rfl,sx rfl,trivial⟩) (⟨sx rfl,trivial⟩) trivial) ?_;refine uAa rfl rfl rfl (uAR rfl rfl (fun hh=>hh) (fun hh hi=>gP hh hi)) ?_;refine uAa rfl rfl rfl (uAJ rfl rfl gU (fun _ hi=>gP rfl hi)) ?_;refine uAa rfl rfl rfl (uAd rfl gU) ?_;refine uAf ?_;refine uAm rfl (fun hc2=>?_) (fun hc2=>?_)
  ·try simp only [nn,uAi,T.rows_len,Fs.rows_len,Sp.rows_len,Gl.rows_len] at hc2
   refine uAe (uAb ?_);refine uAa rfl rfl rfl (uAd rfl gU) ?_;refine uAf ?_;refine uAp ?_
   repeat (first | refine tR ?_ | refine bR ?_)
   refine uAs rfl ?_ trivial
   (rw [uB1,if_neg (by grind),if_pos (by grind)]; rfl)
  ·try simp only [nn,uAi,T.rows_len,Fs.rows_len,Sp.rows_len,Gl.rows_len] at hc2
   refine uAe (uAb ?_);refine uAa rfl rfl rfl (uAv rfl gU rfl rfl rfl rfl rfl) ?_;refine uAx rfl rfl rfl rfl rfl rfl gU gU (uB7 _) rfl ?_;refine uAa rfl rfl rfl (uAV rfl gU) ?_;refine uAa rfl rfl rfl (uAc rfl gU) ?_;refine uAa rfl rfl rfl (uAg rfl gU rfl rfl) ?_;refine uAa rfl rfl rfl (uAl rfl (fun hh=>hh) rfl rfl rfl rfl) ?_;refine uAa rfl rfl rfl (uAX rfl rfl (fun hh=>hh) gU rfl) ?_;refine uAa rfl rfl rfl (uAR rfl rfl gU (fun _ hi=>gP rfl hi)) ?_;refine uAa rfl rfl rfl (uAd rfl gU) ?_;refine uAf ?_;refine uAn (s:=⟨[(1,_,_),(3,_,_),(34,_,_)],[(.l 1,_)],[],[]⟩) (uAj (⟨sx rfl,sx rfl,sx rfl,trivial⟩) (⟨sx rfl,trivial⟩) trivial) ?_;refine uAm rfl (fun hc3=>?_) (fun hc3=>?_)
   ·try simp only [nn,uAi,T.rows_len,Fs.rows_len,Sp.rows_len,Gl.rows_len] at hc3
    refine uAe (uAb ?_);refine uAa rfl rfl rfl (uAd rfl gU) ?_;refine uAf ?_;refine uAp ?_
    repeat (first | refine tR ?_ | refine bR ?_)
    refine uAs rfl ?_ trivial
    (rw [uB1,if_neg (by grind),if_neg (by grind),if_pos (by grind)]; rfl)
   ·try simp only [nn,uAi,T.rows_len,Fs.rows_len,Sp.rows_len,Gl.rows_len] at hc3
    refine uAe (uAb ?_);refine uAa rfl rfl rfl (uAv rfl gU rfl rfl rfl rfl rfl) ?_;refine uAx rfl rfl rfl rfl rfl rfl gU gU (uB7 _) rfl ?_;refine uAa rfl rfl rfl (uAc rfl gU) ?_;refine uAa rfl rfl rfl (uAc rfl gU) ?_;refine uAa rfl rfl rfl (uAk rfl rfl (fun hh=>hh) gU rfl) ?_;refine uAa rfl rfl rfl (uAc rfl (fun hh=>hh)) ?_;refine uAa rfl rfl rfl (uAc rfl gU) ?_;refine uAa rfl rfl rfl (uAk rfl rfl (fun hh=>hh) gU rfl) ?_;refine uAa rfl rfl rfl (uAJ rfl rfl (fun hh=>hh) (fun hh hi=>gP hh hi)) ?_;refine uAa rfl rfl rfl (uAR rfl rfl gU (fun _ hi=>gP rfl hi)) ?_;refine uAa rfl rfl rfl (uAc rfl gU) ?_;refine uAa rfl rfl rfl (uAv rfl gU rfl rfl rfl rfl rfl) ?_;refine uBl (s:=⟨[(1,_,_),(3,_,_),(54,_,_),(55,_,_)],[(.l 1,_)],[],[]⟩) (uAj (⟨sx rfl,sx rfl,sx rfl,sx rfl,trivial⟩) (⟨sx rfl,trivial⟩) trivial) ?_;refine uAx rfl rfl rfl rfl rfl rfl gU (fun hh=>gA ((fun hh=>hh) hh) (rfl)) (uB7 _) rfl ?_;refine uAa rfl rfl rfl (uAV rfl (fun hh=>hh)) ?_;refine uAa rfl rfl rfl (uAc rfl (fun hh=>hh)) ?_;refine uAa rfl rfl rfl (uAc rfl gU) ?_;refine uAa rfl rfl rfl (uAk rfl rfl (fun hh=>hh) gU rfl) ?_;refine uAa rfl rfl rfl (uAR rfl rfl (fun hh=>hh) (fun hh hi=>gP hh hi)) ?_;refine uAa rfl rfl rfl (uAJ rfl rfl gU (fun _ hi=>gP rfl hi)) ?_
    refine uAa rfl rfl rfl (uAd rfl gU) ?_;refine uAf ?_;refine uAn (s:=⟨[(1,_,_),(43,_,_)],[(.l 1,_)],[],[]⟩) (uAj (⟨sx rfl,sx rfl,trivial⟩) (⟨sx rfl,trivial⟩) trivial) ?_;refine uAm rfl (fun hc4=>?_) (fun hc4=>?_)
    ·try simp only [nn,uAi,T.rows_len,Fs.rows_len,Sp.rows_len,Gl.rows_len] at hc4
     refine uAe (uAb ?_);refine uAa rfl rfl rfl (uAd rfl gU) ?_;refine uAf ?_;refine uAp ?_
     repeat (first | refine tR ?_ | refine bR ?_)
     refine uAs rfl ?_ trivial
     (rw [uB1,if_neg (by grind),if_neg (by grind),if_neg (by grind),if_pos (by grind)]; rfl)
    ·try simp only [nn,uAi,T.rows_len,Fs.rows_len,Sp.rows_len,Gl.rows_len] at hc4
     have he : uB1 uAI g=errs (msgE uAI) g.data:=by rw [uB1,if_neg (by grind),if_neg (by grind),if_neg (by grind),if_neg (by grind)]
     refine uAo ?_;refine uAe ?_;refine uAe (uAb ?_);refine uAa rfl rfl rfl (uAg rfl gU rfl rfl) ?_;refine uAa rfl rfl rfl (uAl rfl gU rfl rfl rfl rfl) ?_;refine uAL rfl rfl rfl rfl rfl gU rfl rfl ?_ (fun hh=>by simp at hh); intro hlen;refine uAa rfl rfl rfl (uAc rfl gU) ?_;refine uAf ?_;refine uAt ?_;refine uAY (ι:=Nat) { t:=[(64,_,_),(65,_,_)],bx:=[],ow:=[] } (fun k=>[(66,true,xi (k : Int))]) (fun k=>[]) (fun k=>k≤g.data.length∧errs (msgE uAI) (g.data.drop k)=uB1 uAI g) (fun k=>g.data.length - k) (0) (⟨by simp,by rw [he]; rfl⟩) (uAj (⟨sx rfl,sx rfl,sx rfl,trivial⟩) trivial trivial) ?_
     intro k hok
     dsimp only [List.cons_append,List.nil_append]
     obtain ⟨hk,hi⟩:=hok
     refine uAe (uAb ?_);refine uAa rfl rfl rfl (uAk rfl rfl gU gU rfl) ?_;refine uAf ?_;refine uAe ?_;refine uAm rfl (fun hc5=>?_) (fun hc5=>?_)
     ·try simp only [nn,uAi,T.rows_len,Fs.rows_len,Sp.rows_len,Gl.rows_len] at hc5
      have hlt : k < g.data.length:=by omega
      have h2:=T.getD_size hlt
      have hd:=uCi (d:=default) hlt hi
      refine uAo ?_;refine uAe ?_;refine uAt ?_;refine uAe (uAb ?_);refine uAa rfl rfl rfl (uAq rfl rfl gU gU rfl rfl rfl (fun hh=>T.rows_at (by first | omega | (simp at hh ⊢; omega)))) ?_;refine uAa rfl rfl rfl (uAF rfl gU rfl rfl rfl rfl) ?_;refine uAw rfl (uAT rfl rfl rfl) ?_;refine uAw rfl (uAB rfl rfl rfl rfl rfl rfl rfl) ?_;refine uAf ?_;refine uAe (uAb ?_);refine uAa rfl rfl rfl (uAv rfl gU rfl rfl rfl rfl rfl) ?_;refine uAx rfl rfl rfl rfl rfl rfl gU gU (uFC _ (by omega)) rfl ?_;refine uAa rfl rfl rfl (uAd rfl gU) ?_;refine uAf ?_;refine uAn (s:=⟨[(6,_,_),(64,_,_),(65,_,_),(66,_,_)],[],[],[]⟩) (uAj (⟨sx rfl,sx rfl,sx rfl,sx rfl,trivial⟩) trivial trivial) ?_;refine uAe (uAb ?_);refine uAa rfl rfl rfl (uAc rfl gU) ?_;refine uAa rfl rfl rfl (uAk rfl rfl gU gU rfl) ?_;refine uAf ?_;refine uAm rfl (fun hc1=>?_) (fun hc1=>?_)
      ·try simp only [nn,uAi,T.rows_len,Fs.rows_len,Sp.rows_len,Gl.rows_len] at hc1
       refine uAe (uAb ?_);refine uAa rfl rfl rfl (uAc rfl gU) ?_;refine uAa rfl rfl rfl (uAd rfl gU) ?_;refine uAf ?_;refine uAp ?_
       repeat (first | refine tR ?_ | refine bR ?_)
       refine uAs rfl ?_ trivial;exact uBb (hd.1 (by assumption)).symm
      ·try simp only [nn,uAi,T.rows_len,Fs.rows_len,Sp.rows_len,Gl.rows_len] at hc1
       refine uAo ?_;refine uAb ?_;refine uAa rfl rfl rfl (uAr rfl rfl gU gU rfl (IntWalk.i64_in _ (by omega))) ?_;refine uAa rfl rfl rfl (uAc rfl gU) ?_;refine uAf ?_;refine ⟨k + 1,?_,?_,uAj (⟨⟨_,rfl,?_⟩,⟨sx rfl,sx rfl,trivial⟩⟩) trivial trivial⟩
       all_goals (first | rfl | omega | exact ⟨by omega,hd.2 (by assumption)⟩)
     ·try simp only [nn,uAi,T.rows_len,Fs.rows_len,Sp.rows_len,Gl.rows_len] at hc5
      refine uAM ?_
      repeat (first | refine uAE ?_ | refine uAD ?_ | refine uAC rfl ?_)
      refine uAe (uAb ?_);refine uAa rfl rfl rfl (uAd rfl gU) ?_;refine uAf ?_;refine uAp ?_
      repeat (first | refine tR ?_ | refine bR ?_)
      refine uAs rfl ?_ trivial;exact uBb (uDp (by omega) hi).symm
end Go.Proofs.YtnjjdbapadkomaaGreatDoor
namespace Go.Proofs.YtnjjdbapadkomaaGreatDoor
open Go Go.Abs
def idxF (p : List UInt8→Bool) : List (List UInt8)→Int
 | []=>-1
 | x :: r=>if p x=true then 0 else if idxF p r < 0 then -1 else idxF p r + 1
theorem uIr {p : List UInt8→Bool} {l : List (List UInt8)} {k : Nat} {e : Int} (h : k < l.length) (hi : (if idxF p (l.drop k) < 0 then -1 else idxF p (l.drop k) + k)=e) :
  (p (l.getD k [])=true→e=k)∧(p (l.getD k [])=false→(if idxF p (l.drop (k + 1)) < 0 then -1 else idxF p (l.drop (k + 1)) + (k + 1 : Nat))=e):=by
 rw [uGU (d:=[]) h,idxF] at hi
 refine ⟨fun q=>?_,fun q=>?_⟩
 ·rw [if_pos q] at hi; simp at hi; omega
 ·rw [q] at hi
  simp only [Bool.false_eq_true,if_false] at hi
  generalize idxF p (List.drop (k + 1) l)=x at hi ⊢
  rw [← hi]
  by_cases hx : x < 0
  ·rw [if_pos hx,if_pos hx]; simp
  ·rw [if_neg hx,if_neg hx,if_neg (by omega)]; push_cast; omega
theorem uBw {α : Type} {l : List α} {d : α} {k : Nat} (h : k < l.length) : l.getD k d ∈ l:=by
 rw [List.getD_eq_getElem?_getD,List.getElem?_eq_getElem h]
 exact List.getElem_mem h
theorem uKx {p : List UInt8→Bool} {l : List (List UInt8)} {k : Nat} {e : Int} (h : l.length≤k) (hi : (if idxF p (l.drop k) < 0 then -1 else idxF p (l.drop k) + k)=e) : e = -1:=by
 rw [List.drop_of_length_le h] at hi; simpa [idxF] using hi.symm
theorem uHA (p : List UInt8→Bool) (l : List (List UInt8)) : (if idxF p (l.drop 0) < 0 then -1 else idxF p (l.drop 0) + ((0 : Nat) : Int))=if idxF p l < 0 then -1 else idxF p l:=by simp
theorem uLS (p : List UInt8→Bool) : ∀ l : List (List UInt8),-1≤idxF p l
 | []=>by simp [idxF]
 | x :: r=>by have := uLS p r; rw [idxF]; split; omega; split <;> omega
theorem uIT (p : List UInt8→Bool) (l : List (List UInt8)) : (if idxF p l < 0 then -1 else idxF p l)=idxF p l := by have := uLS p l; split <;> omega
theorem uHi (p : List UInt8→Bool) : ∀ l : List (List UInt8),decide (idxF p l ≥ 0)=l.any p
 | []=>by simp [idxF]
 | x :: r=>by
  have ih:=uHi p r
  rw [idxF,List.any_cons,← ih]
  by_cases h : p x=true
  ·rw [if_pos h,h]; simp
  ·rw [if_neg h]
   have h' : p x=false:=by simpa using h
   rw [h',Bool.false_or]
   split
   ·rename_i h1; simp; omega
   ·rename_i h1; rw [Bool.eq_iff_iff]; simp; omega
theorem uH5 (l : List (List UInt8)) : Ctr sys 140 [xss l, .fn 50 []] [] (xi (idxF (fun s=>!uAI s) l)) none []:=by
 have hrl:=uAi l
 refine uAy Tryz.func140 rfl rfl rfl rfl rfl rfl ?_;refine uAe (uAb ?_);refine uAa rfl rfl rfl (uAd rfl gU) ?_;refine uAf ?_;refine uAe ?_;refine uAe (uAb ?_);refine uAa rfl rfl rfl (uAc rfl gU) ?_;refine uAL rfl rfl rfl rfl rfl gU rfl rfl ?_ (fun hh=>by simp at hh); intro hlen;refine uAa rfl rfl rfl (uAc rfl gU) ?_;refine uAf ?_;refine uAt ?_;refine uAY (ι:=Nat) { t:=[(0,_,_),(1,_,_),(7,_,_)],bx:=[],ow:=[] } (fun k=>[(8,true,xi (k : Int))]) (fun k=>[]) (fun k=>k≤l.length∧(if idxF (fun s=>!uAI s) (l.drop k) < 0 then -1 else idxF (fun s=>!uAI s) (l.drop k) + k)=idxF (fun s=>!uAI s) l) (fun k=>l.length - k) (0) (⟨by simp,(uHA _ _).trans (uIT _ _)⟩) (uAj (⟨sx rfl,sx rfl,sx rfl,sx rfl,trivial⟩) trivial trivial) ?_
 intro k hok
 dsimp only [List.cons_append,List.nil_append]
 obtain ⟨hk,hi⟩:=hok
 refine uAe (uAb ?_);refine uAa rfl rfl rfl (uAk rfl rfl gU gU rfl) ?_;refine uAf ?_;refine uAe ?_;refine uAm rfl (fun hc=>?_) (fun hc=>?_)
 ·try simp only [nn,uAi,T.rows_len,Fs.rows_len,Sp.rows_len,Gl.rows_len] at hc
  have hd:=uIr (k:=k) (l:=l) (by omega) hi
  refine uAo ?_;refine uAe ?_;refine uAt ?_;refine uAe (uAb ?_);refine uAa rfl rfl rfl (uAc rfl gU) ?_;refine uAa rfl rfl rfl (uAd rfl gU) ?_;refine uAf ?_;refine uAe (uAb ?_);refine uAa rfl rfl rfl (uAc rfl gU) ?_;refine uAa rfl rfl rfl (uAc rfl gU) ?_;refine uAa rfl rfl rfl (uAc rfl gU) ?_;refine uAa rfl rfl rfl (uAq rfl rfl gU gU rfl rfl rfl (fun hh=>uCe (by first | omega | (simp at hh ⊢; omega)))) ?_;refine uAa rfl rfl rfl (uAK rfl gU rfl rfl rfl) ?_;refine uAx rfl rfl rfl rfl rfl rfl gU gU (uCV _) rfl ?_;refine uAf ?_;refine uAn (s:=⟨[(0,_,_),(1,_,_),(5,_,_),(7,_,_),(8,_,_),(16,_,_)],[],[],[]⟩) (uAj (⟨sx rfl,sx rfl,sx rfl,sx rfl,sx rfl,sx rfl,trivial⟩) trivial trivial) ?_;refine uAm rfl (fun hc2=>?_) (fun hc2=>?_)
  ·try simp only [nn,uAi,T.rows_len,Fs.rows_len,Sp.rows_len,Gl.rows_len] at hc2
   refine uAe (uAb ?_);refine uAa rfl rfl rfl (uAc rfl gU) ?_;refine uAa rfl rfl rfl (uAd rfl gU) ?_;refine uAf ?_;refine uAp ?_
   repeat (first | refine tR ?_ | refine bR ?_)
   refine uAs rfl ?_ trivial;exact uBb (hd.1 (by simpa using hc2)).symm
  ·try simp only [nn,uAi,T.rows_len,Fs.rows_len,Sp.rows_len,Gl.rows_len] at hc2
   refine uAo ?_;refine uAb ?_;refine uAa rfl rfl rfl (uAr rfl rfl gU gU rfl (IntWalk.i64_in _ (by omega))) ?_;refine uAa rfl rfl rfl (uAc rfl gU) ?_;refine uAf ?_;refine ⟨k + 1,?_,?_,uAj (⟨⟨_,rfl,?_⟩,⟨sx rfl,sx rfl,sx rfl,trivial⟩⟩) trivial trivial⟩
   all_goals (first | rfl | omega | exact ⟨by omega,hd.2 (by simpa using hc2)⟩)
 ·try simp only [nn,uAi,T.rows_len,Fs.rows_len,Sp.rows_len,Gl.rows_len] at hc
  refine uAM ?_
  repeat (first | refine uAE ?_ | refine uAD ?_ | refine uAC rfl ?_)
  refine uAe (uAb ?_);refine uAa rfl rfl rfl (uAd rfl gU) ?_;refine uAf ?_;refine uAp ?_
  repeat (first | refine tR ?_ | refine bR ?_)
  refine uAs rfl ?_ trivial;exact uBb (uKx (by omega) hi).symm
theorem uE0 (l : List (List UInt8)) : Ctr sys 102 [xss l, .fn 50 []] [] (xb (l.any fun s=>!uAI s)) none []:=by
 refine uAy Tryz.func102 rfl rfl rfl rfl rfl rfl ?_;refine uAe (uAb ?_);refine uAa rfl rfl rfl (uAd rfl gU) ?_;refine uAf ?_;refine uAe (uAb ?_);refine uAa rfl rfl rfl (uAc rfl gU) ?_;refine uAa rfl rfl rfl (uAc rfl gU) ?_;refine uAx rfl rfl rfl rfl rfl rfl gU gU (uH5 _) rfl ?_;refine uAa rfl rfl rfl (uAk rfl rfl gU gU rfl) ?_;refine uAa rfl rfl rfl (uAd rfl gU) ?_;refine uAf ?_;refine uAp ?_
 repeat (first | refine tR ?_ | refine bR ?_)
 refine uAs rfl ?_ trivial;exact uB3 (uHi _ l)
theorem uGK (l : List (List UInt8)) : (l.any fun s=>!uAI s) = !(l.all uAI):=by
 induction l with
 | nil=>rfl
 | cons x r ih=>rw [List.any_cons,List.all_cons,ih,Bool.not_and]
theorem uMy (n : Nar) : Ctr sys 49 [xn n] [] (xi (uC9 uAI n)) none []:=by
 have h1:=uAi n.roles
 have h2:=uAi n.tags
 have h3:=Fs.rows_len n.fresh
 have h4:=Sp.rows_len n.steps
 have h5:=Gl.rows_len n.goals
 refine uAy Tryz.func49 rfl rfl rfl rfl rfl rfl ?_;refine uAe (uAb ?_);refine uAw rfl (uAW rfl rfl rfl rfl) ?_;refine uAa rfl rfl rfl (uAd rfl gU) ?_;refine uAf ?_;refine uAe ?_;refine uAt ?_;refine uAe (uAb ?_);refine uAa rfl rfl rfl (uAg rfl gU rfl rfl) ?_;refine uAa rfl rfl rfl (uAl rfl gU rfl rfl rfl rfl) ?_;refine uAx rfl rfl rfl rfl rfl rfl gU gU (uCV _) rfl ?_;refine uAa rfl rfl rfl (uAd rfl gU) ?_;refine uAf ?_;refine uAn (s:=⟨[(1,_,_),(5,_,_)],[(.l 1,_)],[],[]⟩) (uAj (⟨sx rfl,sx rfl,trivial⟩) (⟨sx rfl,trivial⟩) trivial) ?_;refine uAm rfl (fun hc=>?_) (fun hc=>?_)
 ·try simp only [nn,uAi,T.rows_len,Fs.rows_len,Sp.rows_len,Gl.rows_len] at hc
  refine uAe (uAb ?_);refine uAa rfl rfl rfl (uAd rfl gU) ?_;refine uAf ?_;refine uAp ?_
  repeat (first | refine tR ?_ | refine bR ?_)
  refine uAs rfl ?_ trivial
  (rw [uC9,if_pos (by simpa using hc)]; rfl)
 ·try simp only [nn,uAi,T.rows_len,Fs.rows_len,Sp.rows_len,Gl.rows_len] at hc
  have hn : uAI n.name=true:=by simpa using hc
  have e1 : uC9 uAI n=if cntE n≠0 then cntE n else if n.roles.all uAI=false then 2 else if errs (frE uAI) n.fresh≠0 then errs (frE uAI) n.fresh else if n.tags.all uAI=false then 2 else 0:=by rw [uC9,if_neg (by rw [hn]; simp)]
  refine uAe (uAb ?_);refine uAa rfl rfl rfl (uAg rfl gU rfl rfl) ?_;refine uAa rfl rfl rfl (uAl rfl gU rfl rfl rfl rfl) ?_;refine uAL rfl rfl rfl rfl rfl gU rfl rfl ?_ (fun hh=>by simp at hh); intro hlen;refine uAa rfl rfl rfl (uAk rfl rfl gU gU rfl) ?_;refine uAa rfl rfl rfl (uAd rfl gU) ?_;refine uAf ?_;refine uAn (s:=⟨[(1,_,_),(9,_,_)],[(.l 1,_)],[],[]⟩) (uAj (⟨sx rfl,sx rfl,trivial⟩) (⟨sx rfl,trivial⟩) trivial) ?_;refine uAm rfl (fun hc2=>?_) (fun hc2=>?_)
  ·try simp only [nn,uAi,T.rows_len,Fs.rows_len,Sp.rows_len,Gl.rows_len] at hc2
   have : cntE n=8:=by rw [cntE,if_pos (by omega)]
   refine uAe (uAb ?_);refine uAa rfl rfl rfl (uAd rfl gU) ?_;refine uAf ?_;refine uAp ?_
   repeat (first | refine tR ?_ | refine bR ?_)
   refine uAs rfl ?_ trivial
   (rw [e1,this]; rfl)
  ·try simp only [nn,uAi,T.rows_len,Fs.rows_len,Sp.rows_len,Gl.rows_len] at hc2
   refine uAe (uAb ?_);refine uAa rfl rfl rfl (uAg rfl gU rfl rfl) ?_;refine uAa rfl rfl rfl (uAl rfl gU rfl rfl rfl rfl) ?_;refine uAL rfl rfl rfl rfl rfl gU rfl rfl ?_ (fun hh=>by simp at hh); intro hlen;refine uAa rfl rfl rfl (uAk rfl rfl gU gU rfl) ?_;refine uAa rfl rfl rfl (uAc rfl gU) ?_;refine uAa rfl rfl rfl (uAg rfl gU rfl rfl) ?_;refine uAa rfl rfl rfl (uAl rfl (fun hh=>hh) rfl rfl rfl rfl) ?_;refine uAa rfl rfl rfl (uAZ rfl (fun hh=>hh) rfl rfl) ?_;refine uAa rfl rfl rfl (uAk rfl rfl (fun hh=>hh) gU rfl) ?_;refine uAa rfl rfl rfl (uAJ rfl rfl gU (fun _ hi=>gP rfl hi)) ?_;refine uAa rfl rfl rfl (uAc rfl gU) ?_;refine uAa rfl rfl rfl (uAg rfl gU rfl rfl) ?_;refine uBl (s:=⟨[(1,_,_),(25,_,_),(26,_,_)],[(.l 1,_)],[],[]⟩) (uAj (⟨sx rfl,sx rfl,sx rfl,trivial⟩) (⟨sx rfl,trivial⟩) trivial) ?_;refine uAa rfl rfl rfl (uAl rfl (fun hh=>hh) rfl rfl rfl rfl) ?_;refine uAa rfl rfl rfl (uAZ rfl (fun hh=>hh) rfl rfl) ?_;refine uAa rfl rfl rfl (uAk rfl rfl (fun hh=>hh) gU rfl) ?_;refine uAa rfl rfl rfl (uAJ rfl rfl gU (fun _ hi=>gP rfl hi)) ?_;refine uAa rfl rfl rfl (uAd rfl gU) ?_;refine uAf ?_;refine uAn (s:=⟨[(1,_,_),(14,_,_)],[(.l 1,_)],[],[]⟩) (uAj (⟨sx rfl,sx rfl,trivial⟩) (⟨sx rfl,trivial⟩) trivial) ?_
   refine uAm rfl (fun hc3=>?_) (fun hc3=>?_)
   ·try simp only [nn,uAi,T.rows_len,Fs.rows_len,Sp.rows_len,Gl.rows_len] at hc3
    have : cntE n=3:=by rw [cntE,if_neg (by omega),if_pos (by omega)]
    refine uAe (uAb ?_);refine uAa rfl rfl rfl (uAd rfl gU) ?_;refine uAf ?_;refine uAp ?_
    repeat (first | refine tR ?_ | refine bR ?_)
    refine uAs rfl ?_ trivial
    (rw [e1,this]; rfl)
   ·try simp only [nn,uAi,T.rows_len,Fs.rows_len,Sp.rows_len,Gl.rows_len] at hc3
    refine uAe (uAb ?_);refine uAa rfl rfl rfl (uAg rfl gU rfl rfl) ?_;refine uAa rfl rfl rfl (uAl rfl gU rfl rfl rfl rfl) ?_;refine uAL rfl rfl rfl rfl rfl gU rfl rfl ?_ (fun hh=>by simp at hh); intro hlen;refine uAa rfl rfl rfl (uAk rfl rfl gU gU rfl) ?_;refine uAa rfl rfl rfl (uAd rfl gU) ?_;refine uAf ?_;refine uAn (s:=⟨[(1,_,_),(31,_,_)],[(.l 1,_)],[],[]⟩) (uAj (⟨sx rfl,sx rfl,trivial⟩) (⟨sx rfl,trivial⟩) trivial) ?_;refine uAm rfl (fun hc4=>?_) (fun hc4=>?_)
    ·try simp only [nn,uAi,T.rows_len,Fs.rows_len,Sp.rows_len,Gl.rows_len] at hc4
     have : cntE n=8:=by rw [cntE,if_neg (by omega),if_neg (by omega),if_pos (by omega)]
     refine uAe (uAb ?_);refine uAa rfl rfl rfl (uAd rfl gU) ?_;refine uAf ?_;refine uAp ?_
     repeat (first | refine tR ?_ | refine bR ?_)
     refine uAs rfl ?_ trivial
     (rw [e1,this]; rfl)
    ·try simp only [nn,uAi,T.rows_len,Fs.rows_len,Sp.rows_len,Gl.rows_len] at hc4
     refine uAe (uAb ?_);refine uAa rfl rfl rfl (uAg rfl gU rfl rfl) ?_;refine uAa rfl rfl rfl (uAl rfl gU rfl rfl rfl rfl) ?_;refine uAL rfl rfl rfl rfl rfl gU rfl rfl ?_ (fun hh=>by simp at hh); intro hlen;refine uAa rfl rfl rfl (uAk rfl rfl gU gU rfl) ?_;refine uAa rfl rfl rfl (uAc rfl gU) ?_;refine uAa rfl rfl rfl (uAg rfl gU rfl rfl) ?_;refine uAa rfl rfl rfl (uAl rfl (fun hh=>hh) rfl rfl rfl rfl) ?_;refine uAa rfl rfl rfl (uAZ rfl (fun hh=>hh) rfl rfl) ?_;refine uAa rfl rfl rfl (uAk rfl rfl (fun hh=>hh) gU rfl) ?_;refine uAa rfl rfl rfl (uAJ rfl rfl gU (fun _ hi=>gP rfl hi)) ?_;refine uAa rfl rfl rfl (uAd rfl gU) ?_;refine uAf ?_;refine uAn (s:=⟨[(1,_,_),(36,_,_)],[(.l 1,_)],[],[]⟩) (uAj (⟨sx rfl,sx rfl,trivial⟩) (⟨sx rfl,trivial⟩) trivial) ?_;refine uAm rfl (fun hc5=>?_) (fun hc5=>?_)
     ·try simp only [nn,uAi,T.rows_len,Fs.rows_len,Sp.rows_len,Gl.rows_len] at hc5
      have : cntE n=3:=by rw [cntE,if_neg (by omega),if_neg (by omega),if_neg (by omega),if_pos (by omega)]
      refine uAe (uAb ?_);refine uAa rfl rfl rfl (uAd rfl gU) ?_;refine uAf ?_;refine uAp ?_
      repeat (first | refine tR ?_ | refine bR ?_)
      refine uAs rfl ?_ trivial
      (rw [e1,this]; rfl)
     ·try simp only [nn,uAi,T.rows_len,Fs.rows_len,Sp.rows_len,Gl.rows_len] at hc5
      have : cntE n=0:=by rw [cntE,if_neg (by omega),if_neg (by omega),if_neg (by omega),if_neg (by omega)]
      rw [if_neg (by rw [this]; simp)] at e1
      refine uAe (uAb ?_);refine uAa rfl rfl rfl (uAg rfl gU rfl rfl) ?_;refine uAa rfl rfl rfl (uAl rfl gU rfl rfl rfl rfl) ?_;refine uAx rfl rfl rfl rfl rfl rfl gU gU (uE0 _) rfl ?_;refine uAa rfl rfl rfl (uAd rfl gU) ?_;refine uAf ?_;refine uAm rfl (fun hc6=>?_) (fun hc6=>?_)
      ·rw [uGK] at hc6
       refine uAe (uAb ?_);refine uAa rfl rfl rfl (uAd rfl gU) ?_;refine uAf ?_;refine uAp ?_
       repeat (first | refine tR ?_ | refine bR ?_)
       refine uAs rfl ?_ trivial
       (rw [e1,if_pos (by simpa using hc6)]; rfl)
      ·rw [uGK] at hc6
       rw [if_neg (by simpa using hc6)] at e1
       refine uAo ?_;refine uAe ?_;refine uAe (uAb ?_);refine uAa rfl rfl rfl (uAg rfl gU rfl rfl) ?_;refine uAa rfl rfl rfl (uAl rfl gU rfl rfl rfl rfl) ?_;refine uAL rfl rfl rfl rfl rfl gU rfl rfl ?_ (fun hh=>by simp at hh); intro hlen;refine uAa rfl rfl rfl (uAc rfl gU) ?_;refine uAf ?_;refine uAn (s:=⟨[(1,_,_),(52,_,_),(53,_,_),(54,_,_)],[(.l 1,_)],[],[]⟩) (uAj (⟨sx rfl,sx rfl,sx rfl,sx rfl,trivial⟩) (⟨sx rfl,trivial⟩) trivial) ?_;refine uAt ?_;refine uAY (ι:=Nat) { t:=[(1,_,_),(52,_,_),(53,_,_)],bx:=[(.l 1,_)],ow:=[] } (fun k=>[(54,true,xi (k : Int))]) (fun k=>[]) (fun k=>k≤n.fresh.length∧errs (frE uAI) (n.fresh.drop k)=errs (frE uAI) n.fresh) (fun k=>n.fresh.length - k) (0) (by simp) (uAj (⟨sx rfl,sx rfl,sx rfl,sx rfl,trivial⟩) (⟨sx rfl,trivial⟩) trivial) ?_
       intro k hok
       dsimp only [List.cons_append,List.nil_append]
       obtain ⟨hk,hi⟩:=hok
       refine uAe (uAb ?_);refine uAa rfl rfl rfl (uAk rfl rfl gU gU rfl) ?_;refine uAf ?_;refine uAe ?_;refine uAm rfl (fun hc7=>?_) (fun hc7=>?_)
       ·try simp only [nn,uAi,T.rows_len,Fs.rows_len,Sp.rows_len,Gl.rows_len] at hc7
        have hd:=uCi (d:=default) (k:=k) (l:=n.fresh) (by omega) hi
        have hf : frE uAI (n.fresh.getD k default)=if uAI (n.fresh.getD k default).role=false∨uAI (n.fresh.getD k default).name=false then 2 else if (n.fresh.getD k default).sort < 2∨4 < (n.fresh.getD k default).sort then 10 else 0:=rfl
        refine uAo ?_;refine uAe ?_;refine uAt ?_;refine uAe (uAb ?_);refine uAa rfl rfl rfl (uAq rfl rfl gU gU rfl rfl rfl (fun hh=>Fs.rows_at (by first | omega | (simp at hh ⊢; omega)))) ?_;refine uAa rfl rfl rfl (uAF rfl gU rfl rfl rfl rfl) ?_;refine uAw rfl (uAT rfl rfl rfl) ?_;refine uAw rfl (uAB rfl rfl rfl rfl rfl rfl rfl) ?_;refine uAf ?_;refine uAt ?_;refine uAe (uAb ?_);refine uAa rfl rfl rfl (uAg rfl gU rfl rfl) ?_;refine uAa rfl rfl rfl (uAl rfl gU rfl rfl rfl rfl) ?_;refine uAx rfl rfl rfl rfl rfl rfl gU gU (uCV _) rfl ?_;refine uAa rfl rfl rfl (uAc rfl gU) ?_;refine uAa rfl rfl rfl (uAg rfl gU rfl rfl) ?_;refine uAa rfl rfl rfl (uAl rfl (fun hh=>hh) rfl rfl rfl rfl) ?_;refine uAx rfl rfl rfl rfl rfl rfl gU (fun hh=>gA ((fun hh=>hh) hh) (rfl)) (uCV _) rfl ?_;refine uAa rfl rfl rfl (uAJ rfl rfl gU (fun _ hi=>gP rfl hi)) ?_;refine uBl (s:=⟨[(1,_,_),(4,_,_),(52,_,_),(53,_,_),(54,_,_),(66,_,_)],[(.l 1,_),(.l 4,_)],[],[]⟩) (uAj (⟨sx rfl,sx rfl,sx rfl,sx rfl,sx rfl,sx rfl,trivial⟩) (⟨sx rfl,sx rfl,trivial⟩) trivial) ?_;refine uAa rfl rfl rfl (uAd rfl gU) ?_;refine uAf ?_;refine uAm rfl (fun hc8=>?_) (fun hc8=>?_)
        ·try simp only [nn,uAi,T.rows_len,Fs.rows_len,Sp.rows_len,Gl.rows_len] at hc8
         rw [if_pos (by grind)] at hf
         have := hd.1 (by rw [hf]; simp)
         refine uAe (uAb ?_);refine uAa rfl rfl rfl (uAd rfl gU) ?_;refine uAf ?_;refine uAp ?_
         repeat (first | refine tR ?_ | refine bR ?_)
         refine uAs rfl ?_ trivial
         (rw [e1,this,hf]; rfl)
        ·try simp only [nn,uAi,T.rows_len,Fs.rows_len,Sp.rows_len,Gl.rows_len] at hc8
         rw [if_neg (by grind)] at hf
         refine uAe (uAb ?_);refine uAa rfl rfl rfl (uAg rfl gU rfl rfl) ?_;refine uAa rfl rfl rfl (uAl rfl gU rfl rfl rfl rfl) ?_;refine uAa rfl rfl rfl (uAk rfl rfl gU gU rfl) ?_;refine uAa rfl rfl rfl (uAc rfl gU) ?_;refine uAa rfl rfl rfl (uAg rfl gU rfl rfl) ?_;refine uAa rfl rfl rfl (uAl rfl (fun hh=>hh) rfl rfl rfl rfl) ?_;refine uAa rfl rfl rfl (uAk rfl rfl (fun hh=>hh) gU rfl) ?_;refine uAa rfl rfl rfl (uAJ rfl rfl gU (fun _ hi=>gP rfl hi)) ?_;refine uAa rfl rfl rfl (uAd rfl gU) ?_;refine uAf ?_;refine uAn (s:=⟨[(1,_,_),(52,_,_),(53,_,_),(54,_,_),(67,_,_)],[(.l 1,_)],[],[]⟩) (uAj (⟨sx rfl,sx rfl,sx rfl,sx rfl,sx rfl,trivial⟩) (⟨sx rfl,trivial⟩) trivial) ?_;refine uAm rfl (fun hc9=>?_) (fun hc9=>?_)
         ·try simp only [nn,uAi,T.rows_len,Fs.rows_len,Sp.rows_len,Gl.rows_len] at hc9
          rw [if_pos (by omega)] at hf
          have := hd.1 (by rw [hf]; simp)
          refine uAe (uAb ?_);refine uAa rfl rfl rfl (uAd rfl gU) ?_;refine uAf ?_;refine uAp ?_
          repeat (first | refine tR ?_ | refine bR ?_)
          refine uAs rfl ?_ trivial
          (rw [e1,this,hf]; rfl)
         ·try simp only [nn,uAi,T.rows_len,Fs.rows_len,Sp.rows_len,Gl.rows_len] at hc9
          rw [if_neg (by omega)] at hf
          refine uAo ?_;refine uAb ?_;refine uAa rfl rfl rfl (uAr rfl rfl gU gU rfl (IntWalk.i64_in _ (by omega))) ?_;refine uAa rfl rfl rfl (uAc rfl gU) ?_;refine uAf ?_;refine ⟨k + 1,?_,?_,uAj (⟨⟨_,rfl,?_⟩,⟨sx rfl,sx rfl,sx rfl,trivial⟩⟩) (⟨sx rfl,trivial⟩) trivial⟩
          all_goals (first | rfl | omega | exact ⟨by omega,hd.2 hf⟩)
       ·try simp only [nn,uAi,T.rows_len,Fs.rows_len,Sp.rows_len,Gl.rows_len] at hc7
        have hz:=uDp (by omega) hi
        rw [hz] at e1
        rw [if_neg (by simp)] at e1
        refine uAM ?_
        repeat (first | refine uAE ?_ | refine uAD ?_ | refine uAC rfl ?_)
        refine uAe ?_;refine uAe (uAb ?_);refine uAa rfl rfl rfl (uAg rfl gU rfl rfl) ?_;refine uAa rfl rfl rfl (uAl rfl gU rfl rfl rfl rfl) ?_;refine uAx rfl rfl rfl rfl rfl rfl gU gU (uE0 _) rfl ?_;refine uAf ?_;refine uAm rfl (fun hc8=>?_) (fun hc8=>?_)
        ·rw [uGK] at hc8
         refine uAe (uAb ?_);refine uAa rfl rfl rfl (uAd rfl gU) ?_;refine uAf ?_;refine uAp ?_
         repeat (first | refine tR ?_ | refine bR ?_)
         refine uAs rfl ?_ trivial
         (rw [e1,if_pos (by simpa using hc8)]; rfl)
        ·rw [uGK] at hc8
         refine uAo ?_;refine uAe (uAb ?_);refine uAa rfl rfl rfl (uAd rfl gU) ?_;refine uAf ?_;refine uAp ?_
         repeat (first | refine tR ?_ | refine bR ?_)
         refine uAs rfl ?_ trivial
         (rw [e1,if_neg (by simpa using hc8)]; rfl)
theorem uDn (n : Nar) (hs : ∀ s ∈ n.steps,s.msg.size≤900000) (hg : ∀ g ∈ n.goals,T.sizes g.data≤900000) : Ctr sys 14 [xn n] [] (xi (narE uAI n)) none []:=by
 have h4:=Sp.rows_len n.steps
 have h5:=Gl.rows_len n.goals
 refine uAy Tryz.func14 rfl rfl rfl rfl rfl rfl ?_;refine uAe (uAb ?_);refine uAw rfl (uAW rfl rfl rfl rfl) ?_;refine uAa rfl rfl rfl (uAd rfl gU) ?_;refine uAf ?_;refine uAe ?_;refine uAe (uAb ?_);refine uAa rfl rfl rfl (uAv rfl gU rfl rfl rfl rfl rfl) ?_;refine uAx rfl rfl rfl rfl rfl rfl gU gU (uMy _) rfl ?_;refine uAa rfl rfl rfl (uAd rfl gU) ?_;refine uAf ?_;refine uAn (s:=⟨[(1,_,_),(3,_,_)],[(.l 1,_)],[],[]⟩) (uAj (⟨sx rfl,sx rfl,trivial⟩) (⟨sx rfl,trivial⟩) trivial) ?_;refine uAe (uAb ?_);refine uAa rfl rfl rfl (uAc rfl gU) ?_;refine uAa rfl rfl rfl (uAk rfl rfl gU gU rfl) ?_;refine uAf ?_;refine uAm rfl (fun hc=>?_) (fun hc=>?_)
 ·try simp only [nn,uAi,T.rows_len,Fs.rows_len,Sp.rows_len,Gl.rows_len] at hc
  refine uAe (uAb ?_);refine uAa rfl rfl rfl (uAc rfl gU) ?_;refine uAa rfl rfl rfl (uAd rfl gU) ?_;refine uAf ?_;refine uAp ?_
  repeat (first | refine tR ?_ | refine bR ?_)
  refine uAs rfl ?_ trivial
  (rw [narE,if_pos hc]; rfl)
 ·try simp only [nn,uAi,T.rows_len,Fs.rows_len,Sp.rows_len,Gl.rows_len] at hc
  have e1 : narE uAI n=if errs (spE uAI) n.steps≠0 then errs (spE uAI) n.steps else errs (uB1 uAI) n.goals:=by rw [narE,if_neg (by simpa using hc)]
  refine uAo ?_;refine uAe ?_;refine uAe (uAb ?_);refine uAa rfl rfl rfl (uAg rfl gU rfl rfl) ?_;refine uAa rfl rfl rfl (uAl rfl gU rfl rfl rfl rfl) ?_;refine uAL rfl rfl rfl rfl rfl gU rfl rfl ?_ (fun hh=>by simp at hh); intro hlen;refine uAa rfl rfl rfl (uAc rfl gU) ?_;refine uAf ?_;refine uAn (s:=⟨[(1,_,_),(16,_,_),(17,_,_),(18,_,_)],[(.l 1,_)],[],[]⟩) (uAj (⟨sx rfl,sx rfl,sx rfl,sx rfl,trivial⟩) (⟨sx rfl,trivial⟩) trivial) ?_;refine uAt ?_;refine uAY (ι:=Nat) { t:=[(1,_,_),(16,_,_),(17,_,_)],bx:=[(.l 1,_)],ow:=[] } (fun k=>[(18,true,xi (k : Int))]) (fun k=>[]) (fun k=>k≤n.steps.length∧errs (spE uAI) (n.steps.drop k)=errs (spE uAI) n.steps) (fun k=>n.steps.length - k) (0) (by simp) (uAj (⟨sx rfl,sx rfl,sx rfl,sx rfl,trivial⟩) (⟨sx rfl,trivial⟩) trivial) ?_
  intro k hok
  dsimp only [List.cons_append,List.nil_append]
  obtain ⟨hk,hi⟩:=hok
  refine uAe (uAb ?_);refine uAa rfl rfl rfl (uAk rfl rfl gU gU rfl) ?_;refine uAf ?_;refine uAe ?_;refine uAm rfl (fun hc2=>?_) (fun hc2=>?_)
  ·try simp only [nn,uAi,T.rows_len,Fs.rows_len,Sp.rows_len,Gl.rows_len] at hc2
   have hlt : k < n.steps.length:=by omega
   have hd:=uCi (d:=default) (k:=k) (l:=n.steps) (by omega) hi
   have hm:=hs _ (uBw (d:=default) hlt)
   have hf : spE uAI (n.steps.getD k default)=if uAI (n.steps.getD k default).frm=false∨uAI (n.steps.getD k default).dst=false then 2 else msgE uAI (n.steps.getD k default).msg:=rfl
   refine uAo ?_;refine uAe ?_;refine uAt ?_;refine uAe (uAb ?_);refine uAa rfl rfl rfl (uAq rfl rfl gU gU rfl rfl rfl (fun hh=>Sp.rows_at (by first | omega | (simp at hh ⊢; omega)))) ?_;refine uAa rfl rfl rfl (uAF rfl gU rfl rfl rfl rfl) ?_;refine uAw rfl (uAT rfl rfl rfl) ?_;refine uAw rfl (uAB rfl rfl rfl rfl rfl rfl rfl) ?_;refine uAf ?_;refine uAe ?_;refine uAe (uAb ?_);refine uAa rfl rfl rfl (uAg rfl gU rfl rfl) ?_;refine uAa rfl rfl rfl (uAl rfl gU rfl rfl rfl rfl) ?_;refine uAx rfl rfl rfl rfl rfl rfl gU gU (uCV _) rfl ?_;refine uAa rfl rfl rfl (uAc rfl gU) ?_;refine uAa rfl rfl rfl (uAg rfl gU rfl rfl) ?_;refine uAa rfl rfl rfl (uAl rfl (fun hh=>hh) rfl rfl rfl rfl) ?_;refine uAx rfl rfl rfl rfl rfl rfl gU (fun hh=>gA ((fun hh=>hh) hh) (rfl)) (uCV _) rfl ?_;refine uAa rfl rfl rfl (uAJ rfl rfl gU (fun _ hi=>gP rfl hi)) ?_;refine uAf ?_;refine uAn (s:=⟨[(1,_,_),(5,_,_),(16,_,_),(17,_,_),(18,_,_),(29,_,_)],[(.l 1,_),(.l 5,_)],[],[]⟩) (uAj (⟨sx rfl,sx rfl,sx rfl,sx rfl,sx rfl,sx rfl,trivial⟩) (⟨sx rfl,sx rfl,trivial⟩) trivial) ?_;refine uAm rfl (fun hc3=>?_) (fun hc3=>?_)
   ·try simp only [nn,uAi,T.rows_len,Fs.rows_len,Sp.rows_len,Gl.rows_len] at hc3
    rw [if_pos (by grind)] at hf
    have := hd.1 (by rw [hf]; simp)
    refine uAe (uAb ?_);refine uAa rfl rfl rfl (uAd rfl gU) ?_;refine uAf ?_;refine uAp ?_
    repeat (first | refine tR ?_ | refine bR ?_)
    refine uAs rfl ?_ trivial
    (rw [e1,this,hf]; rfl)
   ·try simp only [nn,uAi,T.rows_len,Fs.rows_len,Sp.rows_len,Gl.rows_len] at hc3
    rw [if_neg (by grind)] at hf
    refine uAo ?_;refine uAe (uAb ?_);refine uAa rfl rfl rfl (uAg rfl gU rfl rfl) ?_;refine uAa rfl rfl rfl (uAv rfl gU rfl rfl rfl rfl rfl) ?_;refine uAx rfl rfl rfl rfl rfl rfl gU gU (uFC (n.steps.getD k default).msg hm) rfl ?_;refine uAa rfl rfl rfl (uAd rfl gU) ?_;refine uAf ?_;refine uAe (uAb ?_);refine uAa rfl rfl rfl (uAc rfl gU) ?_;refine uAa rfl rfl rfl (uAk rfl rfl gU gU rfl) ?_;refine uAf ?_;refine uAn (s:=⟨[(1,_,_),(6,_,_),(16,_,_),(17,_,_),(18,_,_),(34,_,_)],[(.l 1,_)],[],[]⟩) (uAj (⟨sx rfl,sx rfl,sx rfl,sx rfl,sx rfl,sx rfl,trivial⟩) (⟨sx rfl,trivial⟩) trivial) ?_;refine uAm rfl (fun hc4=>?_) (fun hc4=>?_)
    ·try simp only [nn,uAi,T.rows_len,Fs.rows_len,Sp.rows_len,Gl.rows_len] at hc4
     have := hd.1 (by rw [hf]; exact hc4)
     refine uAe (uAb ?_);refine uAa rfl rfl rfl (uAc rfl gU) ?_;refine uAa rfl rfl rfl (uAd rfl gU) ?_;refine uAf ?_;refine uAp ?_
     repeat (first | refine tR ?_ | refine bR ?_)
     refine uAs rfl ?_ trivial
     (rw [e1,this,hf,if_pos hc4]; rfl)
    ·try simp only [nn,uAi,T.rows_len,Fs.rows_len,Sp.rows_len,Gl.rows_len] at hc4
     refine uAo ?_;refine uAb ?_;refine uAa rfl rfl rfl (uAr rfl rfl gU gU rfl (IntWalk.i64_in _ (by omega))) ?_;refine uAa rfl rfl rfl (uAc rfl gU) ?_;refine uAf ?_;refine ⟨k + 1,?_,?_,uAj (⟨⟨_,rfl,?_⟩,⟨sx rfl,sx rfl,sx rfl,trivial⟩⟩) (⟨sx rfl,trivial⟩) trivial⟩
     all_goals (first | rfl | omega | exact ⟨by omega,hd.2 (by rw [hf]; simpa using hc4)⟩)
  ·try simp only [nn,uAi,T.rows_len,Fs.rows_len,Sp.rows_len,Gl.rows_len] at hc2
   have hz:=uDp (by omega) hi
   rw [hz,if_neg (by simp)] at e1
   refine uAM ?_
   repeat (first | refine uAE ?_ | refine uAD ?_ | refine uAC rfl ?_)
   refine uAe ?_;refine uAe (uAb ?_);refine uAa rfl rfl rfl (uAg rfl gU rfl rfl) ?_;refine uAa rfl rfl rfl (uAl rfl gU rfl rfl rfl rfl) ?_;refine uAL rfl rfl rfl rfl rfl gU rfl rfl ?_ (fun hh=>by simp at hh); intro hlen;refine uAa rfl rfl rfl (uAc rfl gU) ?_;refine uAf ?_;refine uAn (s:=⟨[(38,_,_),(39,_,_),(40,_,_)],[],[],[]⟩) (uAj (⟨sx rfl,sx rfl,sx rfl,trivial⟩) trivial trivial) ?_;refine uAt ?_;refine uAY (ι:=Nat) { t:=[(38,_,_),(39,_,_)],bx:=[],ow:=[] } (fun k=>[(40,true,xi (k : Int))]) (fun k=>[]) (fun k=>k≤n.goals.length∧errs (uB1 uAI) (n.goals.drop k)=errs (uB1 uAI) n.goals) (fun k=>n.goals.length - k) (0) (by simp) (uAj (⟨sx rfl,sx rfl,sx rfl,trivial⟩) trivial trivial) ?_
   intro k hok2
   dsimp only [List.cons_append,List.nil_append]
   obtain ⟨hk2,hi2⟩:=hok2
   refine uAe (uAb ?_);refine uAa rfl rfl rfl (uAk rfl rfl gU gU rfl) ?_;refine uAf ?_;refine uAe ?_;refine uAm rfl (fun hc5=>?_) (fun hc5=>?_)
   ·try simp only [nn,uAi,T.rows_len,Fs.rows_len,Sp.rows_len,Gl.rows_len] at hc5
    have hlt : k < n.goals.length:=by omega
    have hd:=uCi (d:=default) (k:=k) (l:=n.goals) (by omega) hi2
    have hm:=hg _ (uBw (d:=default) hlt)
    refine uAo ?_;refine uAe ?_;refine uAt ?_;refine uAe (uAb ?_);refine uAa rfl rfl rfl (uAq rfl rfl gU gU rfl rfl rfl (fun hh=>Gl.rows_at (by first | omega | (simp at hh ⊢; omega)))) ?_;refine uAa rfl rfl rfl (uAF rfl gU rfl rfl rfl rfl) ?_;refine uAw rfl (uAT rfl rfl rfl) ?_;refine uAw rfl (uAB rfl rfl rfl rfl rfl rfl rfl) ?_;refine uAf ?_;refine uAe (uAb ?_);refine uAa rfl rfl rfl (uAv rfl gU rfl rfl rfl rfl rfl) ?_;refine uAx rfl rfl rfl rfl rfl rfl gU gU (uMW (n.goals.getD k default) hm) rfl ?_;refine uAa rfl rfl rfl (uAd rfl gU) ?_;refine uAf ?_;refine uAn (s:=⟨[(9,_,_),(38,_,_),(39,_,_),(40,_,_)],[],[],[]⟩) (uAj (⟨sx rfl,sx rfl,sx rfl,sx rfl,trivial⟩) trivial trivial) ?_;refine uAe (uAb ?_);refine uAa rfl rfl rfl (uAc rfl gU) ?_;refine uAa rfl rfl rfl (uAk rfl rfl gU gU rfl) ?_;refine uAf ?_;refine uAm rfl (fun hc6=>?_) (fun hc6=>?_)
    ·try simp only [nn,uAi,T.rows_len,Fs.rows_len,Sp.rows_len,Gl.rows_len] at hc6
     have := hd.1 hc6
     refine uAe (uAb ?_);refine uAa rfl rfl rfl (uAc rfl gU) ?_;refine uAa rfl rfl rfl (uAd rfl gU) ?_;refine uAf ?_;refine uAp ?_
     repeat (first | refine tR ?_ | refine bR ?_)
     refine uAs rfl ?_ trivial
     (rw [e1,this]; rfl)
    ·try simp only [nn,uAi,T.rows_len,Fs.rows_len,Sp.rows_len,Gl.rows_len] at hc6
     refine uAo ?_;refine uAb ?_;refine uAa rfl rfl rfl (uAr rfl rfl gU gU rfl (IntWalk.i64_in _ (by omega))) ?_;refine uAa rfl rfl rfl (uAc rfl gU) ?_;refine uAf ?_;refine ⟨k + 1,?_,?_,uAj (⟨⟨_,rfl,?_⟩,⟨sx rfl,sx rfl,trivial⟩⟩) trivial trivial⟩
     all_goals (first | rfl | omega | exact ⟨by omega,hd.2 (by simpa using hc6)⟩)
   ·try simp only [nn,uAi,T.rows_len,Fs.rows_len,Sp.rows_len,Gl.rows_len] at hc5
    have hz2:=uDp (by omega) hi2
    refine uAM ?_
    repeat (first | refine uAE ?_ | refine uAD ?_ | refine uAC rfl ?_)
    refine uAe (uAb ?_);refine uAa rfl rfl rfl (uAd rfl gU) ?_;refine uAf ?_;refine uAp ?_
    repeat (first | refine tR ?_ | refine bR ?_)
    refine uAs rfl ?_ trivial
    (rw [e1,hz2]; rfl)
end Go.Proofs.YtnjjdbapadkomaaGreatDoor
namespace Go.Proofs.YtnjjdbapadkomaaGreatDoor
open Go Go.Abs
open Go.RowKit (Below)
theorem uKe : ∀ (L : List (List UInt8)),(L.map fun s : List UInt8=>(⟨s.toArray⟩ : ByteArray)).map (·.data.toList)=L
 | []=>rfl
 | s :: L=>by rw [List.map_cons,List.map_cons,uKe L]
theorem uDK (L : List (List UInt8)) (sep : List UInt8) (hL : L.length≤2000000) (hsl : sep.length≤1000) (hj : (Lib.join L sep).length≤140737488355328) : Ctr sys 40 [xss L,xs sep] [] (xs (Lib.join L sep)) none []:=by
 refine uIt (v:=.string ⟨(Lib.join L sep).toArray⟩) ⟨_,Tryz.func40,by kernel_rfl,by kernel_rfl⟩ (fun w G vs hv hwf hgl=>?_) (fun w G=>CRep.s _ (by omega))
 match vs,hv with
 | [u,v],⟨h1,h2,_⟩ =>
  rw [XRep.str h2]
  have h1 : CRep w G.S (.sl 1 (strR L)) u:=h1
  have hnone : ∀ (a : Option Addr) (c : Nat),L=[]→Calls Tryz.prog 40 #[.slice a 0 c, .string ⟨sep.toArray⟩] w fun e w'=>e = .returned (.string ⟨(Lib.join L sep).toArray⟩)∧Below w.heap.size w w':=by
   intro a c hnil
   subst hnil
   refine (Any.strings_Join_none uLI uEc a c ⟨sep.toArray⟩ w).mono ?_
   rintro e w' ⟨he,hw⟩
   subst hw
   exact ⟨he,Below.refl _ _⟩
  generalize hes : strR L=es at h1
  cases h1 with
  | emp sz a=>exact hnone a 0 (by simpa [strR] using hes)
  | sl sz es blk off len cap vals hl hc hm hsz hcell hrep =>
   by_cases hnil : L=[]
   ·have : len=0:=by rw [← hl,← hes,hnil]; rfl
    subst this
    exact hnone _ cap hnil
   ·have hlen : len=L.length:=by rw [← hl,← hes,uAi]
    subst hlen
    have hpos : 0 < L.length:=List.length_pos_iff.2 hnil
    have hx : (L.map fun s : List UInt8=>(⟨s.toArray⟩ : ByteArray)).map (·.data.toList)=L:=uKe L
    have key:=Any.strings_Join uLI uEc blk off cap (L.map fun s : List UInt8=>(⟨s.toArray⟩ : ByteArray)) ⟨sep.toArray⟩ w (fun j x hj=>by
      rw [List.getElem?_map,Option.map_eq_some_iff] at hj
      obtain ⟨s,hs,rfl⟩:=hj
      have hjl:=(List.getElem?_eq_some_iff.1 hs).1
      obtain ⟨_,h5⟩:=hcell j 0 (by omega) (by omega)
      have hrow : es[j]? = some [.s s]:=by rw [← hes,strR,List.getElem?_map,hs]; rfl
      have h6:=hrep j _ 0 (.s s) hrow rfl
      have h7 : vals j 0 = .string ⟨s.toArray⟩:=XRep.str (G:=G) (w:=w) h6
      rw [show off + j=off + j * 1 + 0 by omega,h5,h7]) (by
      obtain ⟨_,h5⟩:=hcell 0 0 (by omega) (by omega)
      exact World.block_lt_of_cell? (a:=⟨blk,off + 0 * 1 + 0,none⟩) w h5) (by rw [List.length_map]; omega) (by rw [List.length_map]; omega) (by rw [hx]; exact hj)
    rw [hx,List.length_map] at key
    exact key
theorem uOj (t : T) (s : List UInt8) : Ctr sys 137 [xm t,xs s] [] (xb (decide (t.kind=3) && decide (t.name=s))) none []:=by
 refine uAy Tryz.func137 rfl rfl rfl rfl rfl rfl ?_;refine uAe (uAb ?_);refine uAw rfl (uAW rfl rfl rfl rfl) ?_;refine uAa rfl rfl rfl (uAd rfl gU) ?_;refine uAf ?_;refine uAe (uAb ?_);refine uAa rfl rfl rfl (uAg rfl gU rfl rfl) ?_;refine uAa rfl rfl rfl (uAl rfl gU rfl rfl rfl rfl) ?_;refine uAa rfl rfl rfl (uAk rfl rfl gU gU rfl) ?_;refine uAa rfl rfl rfl (uAc rfl gU) ?_;refine uAa rfl rfl rfl (uAg rfl gU rfl rfl) ?_;refine uAa rfl rfl rfl (uAl rfl (fun hh=>hh) rfl rfl rfl rfl) ?_;refine uAa rfl rfl rfl (uAc rfl gU) ?_;refine uAa rfl rfl rfl (uAX rfl rfl (fun hh=>hh) (fun hh=>hh) rfl) ?_;refine uAa rfl rfl rfl (uAR rfl rfl gU (fun _ hi=>gP rfl hi)) ?_;refine uAa rfl rfl rfl (uAd rfl gU) ?_;refine uAf ?_;refine uAp ?_
 repeat (first | refine tR ?_ | refine bR ?_)
 refine uAs rfl ?_ trivial;refine uB3 ?_
 rw [Bool.eq_iff_iff]; simp
theorem uFJ (l : List T) (t : T) : X.v (.c (.sl 4 (T.rows l++[t.cells])))=xl (l++[t]):=by simp [xl,T.rows_eq]
theorem uJc (t : T) (h : t.size≤900000) : Ctr sys 94 [xm t] [] (xl (untE t)) none []:=by
 refine uAy Tryz.func94 rfl rfl rfl rfl rfl rfl ?_;refine uAe (uAb ?_);refine uAw rfl (uAW rfl rfl rfl rfl) ?_;refine uAw rfl (uBv (.inr rfl) rfl rfl) ?_;refine uAf ?_;refine uAe (uAb ?_);refine uAw rfl (uBv (.inr rfl) rfl rfl) ?_;refine uAf ?_;refine uAe ?_;refine uAt ?_;refine uAY (ι:=List T × T) { t:=[(1,_,_)],bx:=[],ow:=[(.t 3,_)] } (fun p=>[(3,true,xl p.1)]) (fun p=>[((.l 1),p.2.cells)]) (fun p=>p.1++untE p.2=untE t∧p.1.length + p.2.size≤t.size) (fun p=>p.2.size) (([],t)) (⟨rfl,by simp⟩) (uAj (⟨sx rfl,sx rfl,trivial⟩) (⟨sx rfl,trivial⟩) (⟨rfl,trivial⟩)) ?_
 intro p hok
 dsimp only [List.cons_append,List.nil_append] at *
 obtain ⟨l,u⟩:=p
 dsimp only at hok ⊢
 obtain ⟨hi,hl⟩:=hok
 have hrl:=T.rows_len l
 have hrk:=T.rows_len u.kids
 have hu:=uDU u
 refine uAe ?_;refine uAe (uAb ?_);refine uAa rfl rfl rfl (uAv rfl gU rfl rfl rfl rfl rfl) ?_;refine uAx rfl rfl rfl rfl rfl rfl gU gU (uOj _ _) rfl ?_;refine uAa rfl rfl rfl (uAc rfl gU) ?_;refine uAa rfl rfl rfl (uAg rfl gU rfl rfl) ?_;refine uAa rfl rfl rfl (uAl rfl (fun hh=>hh) rfl rfl rfl rfl) ?_;refine uAa rfl rfl rfl (uAZ rfl (fun hh=>hh) rfl rfl) ?_;refine uAa rfl rfl rfl (uAk rfl rfl (fun hh=>hh) gU rfl) ?_;refine uAa rfl rfl rfl (uAR rfl rfl gU (fun _ hi=>gP rfl hi)) ?_;refine uAf ?_;refine uAn (s:=⟨[(1,_,_),(3,_,_),(11,_,_)],[(.l 1,_)],[(.t 3,_)],[]⟩) (uAj (⟨sx rfl,sx rfl,sx rfl,trivial⟩) (⟨sx rfl,trivial⟩) (⟨rfl,trivial⟩)) ?_;refine uAm rfl (fun hc=>?_) (fun hc=>?_)
 ·try simp only [nn,uAi,T.rows_len,Fs.rows_len,Sp.rows_len,Gl.rows_len] at hc
  have hp : uB6 u=true:=by simp only [uB6]; grind [wPair]
  have hps:=uCj hp
  have h0:=(u.kids.getD 0 default).size_pos
  have h1:=(u.kids.getD 1 default).size_pos
  have hk : u.kids.length=2:=by grind
  rw [if_pos hp] at hu
  refine uAo ?_;refine uAt ?_;refine uAe (uAb ?_);refine uAw rfl (uAP (.inl rfl) rfl rfl rfl) ?_;refine uAa rfl rfl rfl (uAg rfl gU rfl rfl) ?_;refine uAa rfl rfl rfl (uAl rfl gU rfl rfl rfl rfl) ?_;refine uAa rfl rfl rfl (uAq (j:=0) rfl rfl gU gU rfl rfl (by first | omega | (simp at hh ⊢; omega)) (fun hh=>T.rows_at (by first | omega | (simp at hh ⊢; omega)))) ?_;refine uAa rfl rfl rfl (uAF rfl gU rfl rfl rfl rfl) ?_;refine uAx rfl rfl rfl rfl rfl rfl gU gU (uGp (u.kids.getD 0 default) (by omega)) rfl ?_;refine uAQ (xs:=[_]) rfl rfl rfl rfl rfl rfl rfl rfl rfl gU rfl ?_;refine uAw rfl (uA4 rfl rfl rfl rfl rfl rfl rfl (by first | omega | (simp only [List.length_append,List.length_singleton,T.rows_len]; omega)) (by first | omega | (simp only [List.length_append,List.length_singleton,T.rows_len]; omega))) ?_;refine uAw rfl (uAP (.inr rfl) rfl rfl rfl) ?_;refine uAf ?_;refine uAn (s:=⟨[(1,_,_),(3,_,_)],[(.l 1,_)],[(.t 3,_)],[]⟩) (uAj (⟨sx rfl,sx rfl,trivial⟩) (⟨sx rfl,trivial⟩) (⟨rfl,trivial⟩)) ?_;refine uAb ?_;refine uAa rfl rfl rfl (uAg rfl gU rfl rfl) ?_;refine uAa rfl rfl rfl (uAl rfl gU rfl rfl rfl rfl) ?_;refine uAa rfl rfl rfl (uAq (j:=1) rfl rfl gU gU rfl rfl (by first | omega | (simp at hh ⊢; omega)) (fun hh=>T.rows_at (by first | omega | (simp at hh ⊢; omega)))) ?_
  refine uAa rfl rfl rfl (uAF rfl gU rfl rfl rfl rfl) ?_;refine uAw rfl (uAB rfl rfl rfl rfl rfl rfl rfl) ?_;refine uAf ?_;refine ⟨(l++[u.kids.getD 0 default],u.kids.getD 1 default),?_,?_,uAj (⟨⟨_,rfl,?_⟩,⟨sx rfl,trivial⟩⟩) (⟨⟨_,rfl,?_⟩,trivial⟩) (⟨rfl,trivial⟩)⟩
  ·refine ⟨?_,?_⟩
   ·dsimp only; rw [← hi,hu]; simp
   ·simp only [List.length_append,List.length_singleton]; omega
  ·dsimp only; omega
  ·exact tx (uFJ _ _)
  ·rfl
 ·try simp only [nn,uAi,T.rows_len,Fs.rows_len,Sp.rows_len,Gl.rows_len] at hc
  have hp : ¬uB6 u=true:=by simp only [uB6]; grind [wPair]
  rw [if_neg hp] at hu
  have hus:=u.size_pos
  refine uAM ?_
  repeat (first | refine uAE ?_ | refine uAD ?_ | refine uAC rfl ?_)
  refine uAe (uAb ?_);refine uAw rfl (uAP (.inl rfl) rfl rfl rfl) ?_;refine uAa rfl rfl rfl (uAv rfl gU rfl rfl rfl rfl rfl) ?_;refine uAx rfl rfl rfl rfl rfl rfl gU gU (uGp u (by omega)) rfl ?_;refine uAQ (xs:=[_]) rfl rfl rfl rfl rfl rfl rfl rfl rfl gU rfl ?_;refine uAw rfl (uA4 rfl rfl rfl rfl rfl rfl rfl (by first | omega | (simp only [List.length_append,List.length_singleton,T.rows_len]; omega)) (by first | omega | (simp only [List.length_append,List.length_singleton,T.rows_len]; omega))) ?_;refine uAw rfl (uAP (.inr rfl) rfl rfl rfl) ?_;refine uAf ?_;refine uAp ?_
  repeat (first | refine tR ?_ | refine bR ?_)
  refine uAs rfl ?_ trivial
  (rw [← hi,hu]; exact uFJ _ _)
theorem uJV {l : List T} {k : Nat} (h : k < l.length) : (l.take (k + 1)).map uBF=(l.take k).map uBF++[uBF (l.getD k default)]:=by rw [uET (d:=default) h,List.map_append]; rfl
theorem uHz (n : Nat) (ih : ∀ t : T,t.size≤n→okB t=true→Ctr sys 43 [xm t] [] (xs (uBF t)) none []) (l : List T) (hl : ∀ x ∈ l,x.size≤n) (ho : ∀ x ∈ l,okB x=true) (hs : T.sizes l≤900000) :
  Ctr sys 93 [xl l] [] (xs (uBV l)) none []:=by
 have hrl:=T.rows_len l
 have hls:=T.len_sizes l
 have hte:=uG0 ho
 refine uAy Tryz.func93 rfl rfl rfl rfl rfl rfl ?_;refine uAe (uAb ?_);refine uAa rfl rfl rfl (uAd rfl gU) ?_;refine uAf ?_;refine uAe (uAb ?_);refine uAw rfl (uBv (.inr rfl) rfl rfl) ?_;refine uAf ?_;refine uAe ?_;refine uAe (uAb ?_);refine uAa rfl rfl rfl (uAc rfl gU) ?_;refine uAL rfl rfl rfl rfl rfl gU rfl rfl ?_ (fun hh=>by simp at hh); intro hlen;refine uAa rfl rfl rfl (uAc rfl gU) ?_;refine uAf ?_;refine uAn (s:=⟨[(3,_,_),(6,_,_),(7,_,_),(8,_,_)],[],[(.t 3,_)],[]⟩) (uAj (⟨sx rfl,sx rfl,sx rfl,sx rfl,trivial⟩) trivial (⟨rfl,trivial⟩)) ?_;refine uAt ?_;refine uAY (ι:=Nat) { t:=[(6,_,_),(7,_,_)],bx:=[],ow:=[(.t 3,_)] } (fun k=>[(8,true,xi (k : Int)),(3,true,xss ((l.take k).map uBF))]) (fun k=>[]) (fun k=>k≤l.length) (fun k=>l.length - k) (0) (by simp) (uAj (⟨sx rfl,sx rfl,sx rfl,sx rfl,trivial⟩) trivial (⟨rfl,trivial⟩)) ?_
 intro k hok
 dsimp only [List.cons_append,List.nil_append]
 refine uAe (uAb ?_);refine uAa rfl rfl rfl (uAk rfl rfl gU gU rfl) ?_;refine uAf ?_;refine uAe ?_;refine uAm rfl (fun hc=>?_) (fun hc=>?_)
 ·try simp only [nn,uAi,T.rows_len,Fs.rows_len,Sp.rows_len,Gl.rows_len] at hc
  have hlt : k < l.length:=by omega
  refine uAo ?_;refine uAe ?_;refine uAt ?_;refine uAe (uAb ?_);refine uAa rfl rfl rfl (uAq rfl rfl gU gU rfl rfl rfl (fun hh=>T.rows_at (by first | omega | (simp at hh ⊢; omega)))) ?_;refine uAa rfl rfl rfl (uAF rfl gU rfl rfl rfl rfl) ?_;refine uAw rfl (uAT rfl rfl rfl) ?_;refine uAw rfl (uAB rfl rfl rfl rfl rfl rfl rfl) ?_;refine uAf ?_;refine uAb ?_;refine uAw rfl (uAP (.inl rfl) rfl rfl rfl) ?_;refine uAa rfl rfl rfl (uAv rfl gU rfl rfl rfl rfl rfl) ?_;refine uAx rfl rfl rfl rfl rfl rfl gU gU (ih (l.getD k default) (hl _ (uBw hlt)) (ho _ (uBw hlt))) rfl ?_;refine uAQ (xs:=[_]) rfl rfl rfl rfl rfl rfl rfl rfl rfl gU rfl ?_;refine uAw rfl (uA4 rfl rfl rfl rfl rfl rfl rfl (by first | omega | (simp only [List.length_append,List.length_singleton,uAi,List.length_map,List.length_take]; omega)) (by first | omega | (simp only [List.length_append,List.length_singleton,uAi,List.length_map,List.length_take]; omega))) ?_;refine uAw rfl (uAP (.inr rfl) rfl rfl rfl) ?_;refine uAf ?_;refine uAn (s:=⟨[(3,_,_),(6,_,_),(7,_,_),(8,_,_)],[],[(.t 3,_)],[]⟩) (uAj (⟨sx rfl,sx rfl,sx rfl,sx rfl,trivial⟩) trivial (⟨rfl,trivial⟩)) ?_;refine uAb ?_;refine uAa rfl rfl rfl (uAr rfl rfl gU gU rfl (IntWalk.i64_in _ (by omega))) ?_;refine uAa rfl rfl rfl (uAc rfl gU) ?_
  refine uAf ?_;refine ⟨k + 1,?_,?_,uAj (⟨⟨_,rfl,?_⟩,⟨⟨_,rfl,?_⟩,⟨sx rfl,sx rfl,trivial⟩⟩⟩) trivial (⟨rfl,trivial⟩)⟩
  all_goals first | rfl | omega | exact tx ((uCq _ _).trans (by rw [uJV hlt]))
 ·try simp only [nn,uAi,T.rows_len,Fs.rows_len,Sp.rows_len,Gl.rows_len] at hc
  have : k=l.length:=by omega
  subst this
  rw [List.take_length]
  refine uAM ?_
  repeat (first | refine uAE ?_ | refine uAD ?_ | refine uAC rfl ?_)
  refine uAe (uAb ?_);refine uAa rfl rfl rfl (uAc rfl gU) ?_;refine uAx rfl rfl rfl rfl rfl rfl gU gU (uDK _ [44,32] (by rw [List.length_map]; omega) (by decide) (by show (uBV l).length≤_; omega)) rfl ?_;refine uAa rfl rfl rfl (uAd rfl gU) ?_;refine uAf ?_;refine uAp ?_
  repeat (first | refine tR ?_ | refine bR ?_)
  refine uAs rfl ?_ trivial
  rfl
theorem uME : ∀ (n : Nat) (t : T),t.size≤n→n≤900000→okB t=true→Ctr sys 43 [xm t] [] (xs (uBF t)) none []:=by
 intro n
 induction n with
 | zero=>intro t h; have := t.size_pos; omega
 | succ n ih =>
  intro t ht hn ho
  have hse:=t.size_eq
  have hrl:=T.rows_len t.kids
  have hls:=T.len_sizes t.kids
  have hk:=(uEm ho).1
  have hnl:=(uEm ho).2
  have he:=uFz t
  have hle:=uFL ho
  have ihh:=fun (x : T) (hx : x.size≤n) (hxo : okB x=true)=>ih x hx (by omega) hxo
  refine uAy Tryz.func43 rfl rfl rfl rfl rfl rfl ?_;refine uAe (uAb ?_);refine uAw rfl (uAW rfl rfl rfl rfl) ?_;refine uAa rfl rfl rfl (uAd rfl gU) ?_;refine uAf ?_;refine uAe ?_;refine uAe (uAb ?_);refine uAa rfl rfl rfl (uAg rfl gU rfl rfl) ?_;refine uAa rfl rfl rfl (uAl rfl gU rfl rfl rfl rfl) ?_;refine uAa rfl rfl rfl (uAk rfl rfl gU gU rfl) ?_;refine uAf ?_;refine uAn (s:=⟨[(1,_,_),(5,_,_)],[(.l 1,_)],[],[]⟩) (uAj (⟨sx rfl,sx rfl,trivial⟩) (⟨sx rfl,trivial⟩) trivial) ?_;refine uAm rfl (fun hc=>?_) (fun hc=>?_)
  ·try simp only [nn,uAi,T.rows_len,Fs.rows_len,Sp.rows_len,Gl.rows_len] at hc
   refine uAe (uAb ?_);refine uAa rfl rfl rfl (uAg rfl gU rfl rfl) ?_;refine uAa rfl rfl rfl (uAl rfl gU rfl rfl rfl rfl) ?_;refine uAa rfl rfl rfl (uAd rfl gU) ?_;refine uAf ?_;refine uAp ?_
   repeat (first | refine tR ?_ | refine bR ?_)
   refine uAs rfl ?_ trivial
   (rw [he,if_pos hc]; rfl)
  ·try simp only [nn,uAi,T.rows_len,Fs.rows_len,Sp.rows_len,Gl.rows_len] at hc
   rw [if_neg hc] at he
   refine uAo ?_;refine uAe ?_;refine uAe (uAb ?_);refine uAa rfl rfl rfl (uAg rfl gU rfl rfl) ?_;refine uAa rfl rfl rfl (uAl rfl gU rfl rfl rfl rfl) ?_;refine uAa rfl rfl rfl (uAX rfl rfl gU gU rfl) ?_;refine uAa rfl rfl rfl (uAc rfl gU) ?_;refine uAa rfl rfl rfl (uAg rfl gU rfl rfl) ?_;refine uAa rfl rfl rfl (uAl rfl (fun hh=>hh) rfl rfl rfl rfl) ?_;refine uAa rfl rfl rfl (uAZ rfl (fun hh=>hh) rfl rfl) ?_;refine uAa rfl rfl rfl (uAk rfl rfl (fun hh=>hh) gU rfl) ?_;refine uAa rfl rfl rfl (uAR rfl rfl gU (fun _ hi=>gP rfl hi)) ?_;refine uAf ?_;refine uAn (s:=⟨[(1,_,_),(16,_,_)],[(.l 1,_)],[],[]⟩) (uAj (⟨sx rfl,sx rfl,trivial⟩) (⟨sx rfl,trivial⟩) trivial) ?_;refine uAm rfl (fun hc2=>?_) (fun hc2=>?_)
   ·try simp only [nn,uAi,T.rows_len,Fs.rows_len,Sp.rows_len,Gl.rows_len] at hc2
    have hp : uB6 t=true:=by simp only [uB6]; grind [wPair]
    rw [if_pos hp] at he
    have hus:=uD0 hp
    have htl : (uBV (untE t)).length≤28 * t.size:=by rw [he] at hle; simp only [List.length_append,List.length_cons,List.length_nil] at hle; omega
    have htx := uHz n ihh (untE t) (fun x hx=>by have := uDD hp hx; omega) (uGN _ ho) (by omega)
    refine uAe (uAb ?_);refine uAa rfl rfl rfl (uAv rfl gU rfl rfl rfl rfl rfl) ?_;refine uAx rfl rfl rfl rfl rfl rfl gU gU (uJc _ (by omega)) rfl ?_;refine uAx rfl rfl rfl rfl rfl rfl gU gU (htx) rfl ?_;refine uAa rfl rfl rfl (uAu rfl rfl gU gU (by first | omega | (simp only [List.length_append,List.length_cons,List.length_nil]; omega))) ?_;refine uAa rfl rfl rfl (uAu rfl rfl gU gU (by first | omega | (simp only [List.length_append,List.length_cons,List.length_nil]; omega))) ?_;refine uAa rfl rfl rfl (uAd rfl gU) ?_;refine uAf ?_;refine uAp ?_
    repeat (first | refine tR ?_ | refine bR ?_)
    refine uAs rfl ?_ trivial
    (rw [he]; rfl)
   ·try simp only [nn,uAi,T.rows_len,Fs.rows_len,Sp.rows_len,Gl.rows_len] at hc2
    have hp : ¬uB6 t=true:=by simp only [uB6]; grind [wPair]
    rw [if_neg hp] at he
    have htl : (uBV t.kids).length≤28 * t.size:=by rw [he] at hle; simp only [List.length_append,List.length_cons,List.length_nil] at hle; omega
    have htx := uHz n ihh t.kids (fun x hx=>by have := uCB hx; omega) (uGP ho) (by omega)
    refine uAo ?_;refine uAe ?_;refine awp_drawn' (by kernel_rfl) ?_;refine uAh rfl rfl rfl rfl (uAg rfl gU rfl rfl) ?_;refine uAS rfl rfl rfl rfl rfl rfl rfl gU rfl rfl rfl rfl ?_;refine uAh rfl rfl rfl rfl (uAu rfl rfl gU gU (by first | omega | (simp only [List.length_append,List.length_cons,List.length_nil]; omega))) ?_;refine uAh rfl rfl rfl rfl (uAg rfl gU rfl rfl) ?_;refine uAS rfl rfl rfl rfl rfl rfl rfl gU rfl rfl rfl rfl ?_;refine uA2 rfl rfl rfl rfl rfl rfl rfl gU gU (htx) rfl ?_;refine uAh rfl rfl rfl rfl (uAu rfl rfl gU gU (by first | omega | (simp only [List.length_append,List.length_cons,List.length_nil]; omega))) ?_;refine uAh rfl rfl rfl rfl (uAu rfl rfl gU gU (by first | omega | (simp only [List.length_append,List.length_cons,List.length_nil]; omega))) ?_;refine uAh rfl rfl rfl rfl (uAd rfl gU) ?_;refine uA6 (by kernel_rfl) ?_;refine uAp ?_
    repeat (first | refine tR ?_ | refine bR ?_)
    refine uAs rfl ?_ trivial
    (rw [he]; rfl)
theorem uD7 (t : T) (ht : t.size≤900000) (ho : okB t=true) : Ctr sys 43 [xm t] [] (xs (uBF t)) none []:=uME _ t (Nat.le_refl _) ht ho
theorem uHj (l : List T) (hs : T.sizes l≤900000) (ho : ∀ x ∈ l,okB x=true) : Ctr sys 93 [xl l] [] (xs (uBV l)) none [] :=
 uHz 900000 (fun t h o=>uD7 t h o) l (fun x hx=>by have := uFM hx; omega) ho hs
def ftE (t : T) : List UInt8 × Int:=if uC6 uAI t≠0 then ([],uC6 uAI t) else (uBF t,0)
theorem uGD (t : T) (ht : t.size≤900000) : Ctr sys 21 [xm t] [] (xse (ftE t)) none []:=by
 refine uAy Tryz.func21 rfl rfl rfl rfl rfl rfl ?_;refine uAe (uAb ?_);refine uAw rfl (uAW rfl rfl rfl rfl) ?_;refine uAa rfl rfl rfl (uAd rfl gU) ?_;refine uAa rfl rfl rfl (uAd rfl gU) ?_;refine uAf ?_;refine uAe ?_;refine uAe (uAb ?_);refine uAa rfl rfl rfl (uAv rfl gU rfl rfl rfl rfl rfl) ?_;refine uAx rfl rfl rfl rfl rfl rfl gU gU (uDV _ (by omega)) rfl ?_;refine uAa rfl rfl rfl (uAd rfl gU) ?_;refine uAf ?_;refine uAn (s:=⟨[(1,_,_),(4,_,_)],[(.l 1,_)],[],[]⟩) (uAj (⟨sx rfl,sx rfl,trivial⟩) (⟨sx rfl,trivial⟩) trivial) ?_;refine uAe (uAb ?_);refine uAa rfl rfl rfl (uAc rfl gU) ?_;refine uAa rfl rfl rfl (uAk rfl rfl gU gU rfl) ?_;refine uAf ?_;refine uAm rfl (fun hc=>?_) (fun hc=>?_)
 ·try simp only [nn,uAi,T.rows_len,Fs.rows_len,Sp.rows_len,Gl.rows_len] at hc
  refine uAe (uAb ?_);refine uAa rfl rfl rfl (uAc rfl gU) ?_;refine uAa rfl rfl rfl (uAd rfl gU) ?_;refine uAa rfl rfl rfl (uAd rfl gU) ?_;refine uAf ?_;refine uAp ?_
  repeat (first | refine tR ?_ | refine bR ?_)
  refine uAs rfl ?_ trivial
  (rw [ftE,if_pos hc]; rfl)
 ·try simp only [nn,uAi,T.rows_len,Fs.rows_len,Sp.rows_len,Gl.rows_len] at hc
  have ho:=(uNd hc).1
  refine uAo ?_;refine uAe (uAb ?_);refine uAa rfl rfl rfl (uAv rfl gU rfl rfl rfl rfl rfl) ?_;refine uAx rfl rfl rfl rfl rfl rfl gU gU (uD7 t ht ho) rfl ?_;refine uAa rfl rfl rfl (uAd rfl gU) ?_;refine uAa rfl rfl rfl (uAd rfl gU) ?_;refine uAf ?_;refine uAp ?_
  repeat (first | refine tR ?_ | refine bR ?_)
  refine uAs rfl ?_ trivial
  (rw [ftE,if_neg (by simpa using hc)]; rfl)
end Go.Proofs.YtnjjdbapadkomaaGreatDoor
namespace Go.Proofs.YtnjjdbapadkomaaGreatDoor
open Go Go.Abs
def pbx (l : List Tk) (p : PS) : List C:=[.sl 5 (Tk.rows l), .i .i64 (p.at' : Int), .b p.bad]
abbrev xpp : X:=.v (.ptr (.o 0) 0)
def symP (l : List Tk) (p : PS) (c : List UInt8) : PS:=if symQ l p c=true then p.go else p
theorem uNO {l : List Tk} {a : Int} {b : Bool} {p : PS} (h1 : a=p.at') (h2 : b=p.bad) : ([.sl 5 (Tk.rows l), .i .i64 a, .b b] : List C)=pbx l p:=by rw [h1,h2]; rfl
theorem uFh (l : List (List UInt8)) (s : List UInt8) : Ctr sys 132 [xss l,xs s] [] (xi (idxF (fun x=>decide (s=x)) l)) none []:=by
 have hrl:=uAi l
 refine uAy Tryz.func132 rfl rfl rfl rfl rfl rfl ?_;refine uAe (uAb ?_);refine uAa rfl rfl rfl (uAd rfl gU) ?_;refine uAf ?_;refine uAe ?_;refine uAe (uAb ?_);refine uAa rfl rfl rfl (uAc rfl gU) ?_;refine uAL rfl rfl rfl rfl rfl gU rfl rfl ?_ (fun hh=>by simp at hh); intro hlen;refine uAa rfl rfl rfl (uAc rfl gU) ?_;refine uAf ?_;refine uAt ?_;refine uAY (ι:=Nat) { t:=[(0,_,_),(1,_,_),(7,_,_)],bx:=[],ow:=[] } (fun k=>[(8,true,xi (k : Int))]) (fun k=>[]) (fun k=>k≤l.length∧(if idxF (fun x=>decide (s=x)) (l.drop k) < 0 then -1 else idxF (fun x=>decide (s=x)) (l.drop k) + k)=idxF (fun x=>decide (s=x)) l) (fun k=>l.length - k) (0) (⟨by simp,(uHA _ _).trans (uIT _ _)⟩) (uAj (⟨sx rfl,sx rfl,sx rfl,sx rfl,trivial⟩) trivial trivial) ?_
 intro k hok
 dsimp only [List.cons_append,List.nil_append]
 obtain ⟨hk,hi⟩:=hok
 refine uAe (uAb ?_);refine uAa rfl rfl rfl (uAk rfl rfl gU gU rfl) ?_;refine uAf ?_;refine uAe ?_;refine uAm rfl (fun hc=>?_) (fun hc=>?_)
 ·try simp only [nn,uAi,T.rows_len,Tk.rows_len] at hc
  have hd:=uIr (k:=k) (l:=l) (by omega) hi
  refine uAo ?_;refine uAe ?_;refine uAt ?_;refine uAe (uAb ?_);refine uAa rfl rfl rfl (uAc rfl gU) ?_;refine uAa rfl rfl rfl (uAd rfl gU) ?_;refine uAf ?_;refine uAe (uAb ?_);refine uAa rfl rfl rfl (uAc rfl gU) ?_;refine uAa rfl rfl rfl (uAc rfl gU) ?_;refine uAa rfl rfl rfl (uAc rfl gU) ?_;refine uAa rfl rfl rfl (uAq rfl rfl gU gU rfl rfl rfl (fun hh=>uCe (by first | omega | (simp at hh ⊢; omega)))) ?_;refine uAa rfl rfl rfl (uAK rfl gU rfl rfl rfl) ?_;refine uAa rfl rfl rfl (uAX rfl rfl gU gU rfl) ?_;refine uAf ?_;refine uAn (s:=⟨[(0,_,_),(1,_,_),(5,_,_),(7,_,_),(8,_,_),(16,_,_)],[],[],[]⟩) (uAj (⟨sx rfl,sx rfl,sx rfl,sx rfl,sx rfl,sx rfl,trivial⟩) trivial trivial) ?_;refine uAm rfl (fun hc2=>?_) (fun hc2=>?_)
  ·try simp only [nn,uAi,T.rows_len,Tk.rows_len] at hc2
   refine uAe (uAb ?_);refine uAa rfl rfl rfl (uAc rfl gU) ?_;refine uAa rfl rfl rfl (uAd rfl gU) ?_;refine uAf ?_;refine uAp ?_
   repeat (first | refine tR ?_ | refine bR ?_)
   refine uAs rfl ?_ trivial;exact uBb (hd.1 (by simpa using hc2)).symm
  ·try simp only [nn,uAi,T.rows_len,Tk.rows_len] at hc2
   refine uAo ?_;refine uAb ?_;refine uAa rfl rfl rfl (uAr rfl rfl gU gU rfl (IntWalk.i64_in _ (by omega))) ?_;refine uAa rfl rfl rfl (uAc rfl gU) ?_;refine uAf ?_;refine ⟨k + 1,?_,?_,uAj (⟨⟨_,rfl,?_⟩,⟨sx rfl,sx rfl,sx rfl,trivial⟩⟩) trivial trivial⟩
   all_goals (first | rfl | omega | exact ⟨by omega,hd.2 (by simpa using hc2)⟩)
 ·try simp only [nn,uAi,T.rows_len,Tk.rows_len] at hc
  refine uAM ?_
  repeat (first | refine uAE ?_ | refine uAD ?_ | refine uAC rfl ?_)
  refine uAe (uAb ?_);refine uAa rfl rfl rfl (uAd rfl gU) ?_;refine uAf ?_;refine uAp ?_
  repeat (first | refine tR ?_ | refine bR ?_)
  refine uAs rfl ?_ trivial;exact uBb (uKx (by omega) hi).symm
theorem uFI (s : List UInt8) : ∀ l : List (List UInt8),(l.any fun x=>decide (s=x))=l.contains s
 | []=>rfl
 | x :: l=>by
  rw [List.any_cons,List.contains_cons,uFI s l]
  congr 1
  rw [Bool.eq_iff_iff]; simp
theorem uH4 (l : List (List UInt8)) (s : List UInt8) : Ctr sys 85 [xss l,xs s] [] (xb (l.contains s)) none []:=by
 refine uAy Tryz.func85 rfl rfl rfl rfl rfl rfl ?_;refine uAe (uAb ?_);refine uAa rfl rfl rfl (uAd rfl gU) ?_;refine uAf ?_;refine uAe (uAb ?_);refine uAa rfl rfl rfl (uAc rfl gU) ?_;refine uAa rfl rfl rfl (uAc rfl gU) ?_;refine uAx rfl rfl rfl rfl rfl rfl gU gU (uFh _ _) rfl ?_;refine uAa rfl rfl rfl (uAk rfl rfl gU gU rfl) ?_;refine uAa rfl rfl rfl (uAd rfl gU) ?_;refine uAf ?_;refine uAp ?_
 repeat (first | refine tR ?_ | refine bR ?_)
 refine uAs rfl ?_ trivial;exact uB3 ((uHi _ l).trans (uFI s l))
theorem uBY (l : List Tk) (p : PS) (c : List UInt8) (hl : l.length≤2000000) (hp : p.at'≤3000000) : Ctr sys 61 [xpp,xs c] [pbx l p] (xb (symQ l p c)) none [pbx l (symP l p c)]:=by
 have hrl:=Tk.rows_len l
 refine uAy Tryz.func61 rfl rfl rfl rfl rfl rfl ?_;refine uAe (uAb ?_);refine uAa rfl rfl rfl (uAd rfl gU) ?_;refine uAf ?_;refine uAe ?_;refine uAe ?_;refine awp_drawn' (by kernel_rfl) ?_;refine uAh rfl rfl rfl rfl (uAc rfl gU) ?_;refine uAh rfl rfl rfl rfl (uAA rfl gU) ?_;refine uAh rfl rfl rfl rfl (uAg rfl gU rfl rfl) ?_;refine uAS rfl rfl rfl rfl rfl rfl rfl gU rfl rfl rfl rfl ?_;refine uAh rfl rfl rfl rfl (uAc rfl gU) ?_;refine uAh rfl rfl rfl rfl (uAc rfl gU) ?_;refine uAh rfl rfl rfl rfl (uAA rfl (fun hh=>hh)) ?_;refine uAh rfl rfl rfl rfl (uAg rfl (fun hh=>hh) rfl rfl) ?_;refine uAS rfl rfl rfl rfl rfl rfl rfl (fun hh=>hh) rfl rfl rfl rfl ?_;refine uAh rfl rfl rfl rfl (uAc rfl gU) ?_;refine uAh rfl rfl rfl rfl (uAA rfl (fun hh=>hh)) ?_;refine uAh rfl rfl rfl rfl (uAg rfl (fun hh=>hh) rfl rfl) ?_;refine uAS rfl rfl rfl rfl rfl rfl rfl (fun hh=>hh) rfl rfl rfl rfl ?_;refine uAh rfl rfl rfl rfl (uAZ rfl (fun hh=>hh) rfl rfl) ?_;refine uAh rfl rfl rfl rfl (uAk rfl rfl (fun hh=>hh) (fun hh=>hh) rfl) ?_;refine uAh rfl rfl rfl rfl (uAJ rfl rfl gU (fun _ hi=>gP rfl hi)) ?_;refine uAh rfl rfl rfl rfl (uAc rfl gU) ?_;refine uAh rfl rfl rfl rfl (uAc rfl gU) ?_;refine uAh rfl rfl rfl rfl (uAA rfl (fun hh=>hh)) ?_;refine uAh rfl rfl rfl rfl (uAg rfl (fun hh=>hh) rfl rfl) ?_
 refine uAS rfl rfl rfl rfl rfl rfl rfl (fun hh=>hh) rfl rfl rfl rfl ?_;refine uAh rfl rfl rfl rfl (uAc rfl gU) ?_;refine uAh rfl rfl rfl rfl (uAA rfl (fun hh=>hh)) ?_;refine uAh rfl rfl rfl rfl (uAg rfl (fun hh=>hh) rfl rfl) ?_;refine uAS rfl rfl rfl rfl rfl rfl rfl (fun hh=>hh) rfl rfl rfl rfl ?_;refine uAh rfl rfl rfl rfl (uAq (j:=p.at') rfl rfl (fun hh=>hh) (fun hh=>hh) rfl rfl (by first | omega | (simp at hh ⊢; omega)) (fun hh=>Tk.rows_at (by first | omega | (simp at hh ⊢; omega)))) ?_;refine uAh rfl rfl rfl rfl (uAO rfl (fun hh=>hh) rfl rfl) ?_;refine uAh rfl rfl rfl rfl (uAK rfl (fun hh=>hh) rfl rfl rfl) ?_;refine uAh rfl rfl rfl rfl (uAk rfl rfl (fun hh=>hh) gU rfl) ?_;refine uAh rfl rfl rfl rfl (uAJ rfl rfl gU (fun _ hi=>gP rfl hi)) ?_;refine uAh rfl rfl rfl rfl (uAc rfl gU) ?_;refine uAh rfl rfl rfl rfl (uAc rfl gU) ?_;refine uAh rfl rfl rfl rfl (uAA rfl (fun hh=>hh)) ?_;refine uAh rfl rfl rfl rfl (uAg rfl (fun hh=>hh) rfl rfl) ?_;refine uAS rfl rfl rfl rfl rfl rfl rfl (fun hh=>hh) rfl rfl rfl rfl ?_;refine uAh rfl rfl rfl rfl (uAc rfl gU) ?_;refine uAh rfl rfl rfl rfl (uAA rfl (fun hh=>hh)) ?_;refine uAh rfl rfl rfl rfl (uAg rfl (fun hh=>hh) rfl rfl) ?_;refine uAS rfl rfl rfl rfl rfl rfl rfl (fun hh=>hh) rfl rfl rfl rfl ?_;refine uAh rfl rfl rfl rfl (uAq (j:=p.at') rfl rfl (fun hh=>hh) (fun hh=>hh) rfl rfl (by first | omega | (simp at hh ⊢; omega)) (fun hh=>Tk.rows_at (by first | omega | (simp at hh ⊢; omega)))) ?_
 refine uAh rfl rfl rfl rfl (uAO rfl (fun hh=>hh) rfl rfl) ?_;refine uAh rfl rfl rfl rfl (uAK rfl (fun hh=>hh) rfl rfl rfl) ?_;refine uAh rfl rfl rfl rfl (uAc rfl gU) ?_;refine uAh rfl rfl rfl rfl (uAX rfl rfl (fun hh=>hh) (fun hh=>hh) rfl) ?_;refine uAh rfl rfl rfl rfl (uAJ rfl rfl gU (fun _ hi=>gP rfl hi)) ?_;refine uA6 (by kernel_rfl) ?_;refine uAn (s:=⟨[(0,_,_),(49,_,_)],[(.o 0,_)],[],[]⟩) (uAj (⟨sx rfl,sx rfl,trivial⟩) (⟨sx rfl,trivial⟩) trivial) ?_;refine uAm rfl (fun hc=>?_) (fun hc=>?_)
 ·try simp only [nn,uAi,T.rows_len,Tk.rows_len] at hc
  have h : symQ l p c=false:=by simp only [symQ]; grind
  have h2 : symP l p c=p:=by rw [symP,h]; rfl
  rw [h,h2]
  refine uAe (uAb ?_);refine uAa rfl rfl rfl (uAd rfl gU) ?_;refine uAf ?_;refine uAp ?_
  repeat (first | refine tR ?_ | refine bR ?_)
  refine uAs rfl ?_ (⟨⟨_,rfl,?_⟩,trivial⟩)
  (all_goals rfl)
 ·try simp only [nn,uAi,T.rows_len,Tk.rows_len] at hc
  have h : symQ l p c=true:=by simp only [symQ]; grind
  have h2 : symP l p c=p.go:=by rw [symP,if_pos h]
  rw [h,h2]
  refine uAo ?_;refine uAe (uAb ?_);refine uAa rfl rfl rfl (uAc rfl gU) ?_;refine uAa rfl rfl rfl (uAA rfl gU) ?_;refine uAa rfl rfl rfl (uAg rfl gU rfl rfl) ?_;refine uAa rfl rfl rfl (uAl rfl gU rfl rfl rfl rfl) ?_;refine uAa rfl rfl rfl (uAr rfl rfl gU gU rfl (IntWalk.i64_in _ (by omega))) ?_;refine uAa rfl rfl rfl (uAA rfl gU) ?_;refine uAa rfl rfl rfl (uAg rfl gU rfl rfl) ?_;refine uAw rfl (uAB rfl rfl rfl rfl rfl rfl rfl) ?_;refine uAf ?_;refine uAn (s:=⟨[],[(.o 0,_)],[],[]⟩) (uAj trivial (⟨sx rfl,trivial⟩) trivial) ?_;refine uAe (uAb ?_);refine uAa rfl rfl rfl (uAd rfl gU) ?_;refine uAf ?_;refine uAp ?_
  repeat (first | refine tR ?_ | refine bR ?_)
  refine uAs rfl ?_ (⟨⟨_,rfl,?_⟩,trivial⟩)
  (all_goals first | rfl | exact uNO (by simp [PS.go]) rfl)
theorem uBd (l : List Tk) (p : PS) (c : List UInt8) (hl : l.length≤2000000) (hp : p.at'≤3000000) : Ctr sys 60 [xpp,xs c] [pbx l p] (.tup []) none [pbx l (uA8 l c p)]:=by
 refine uAy Tryz.func60 rfl rfl rfl rfl rfl rfl ?_;refine uAe (uAb ?_);refine uAa rfl rfl rfl (uAc rfl gU) ?_;refine uAa rfl rfl rfl (uAc rfl gU) ?_;refine uAN (.o 0) rfl rfl rfl rfl rfl rfl (uBY _ _ _ (by omega) (by omega)) rfl (by rfl) (by rfl) rfl rfl rfl ?_;refine uAa rfl rfl rfl (uAV rfl gU) ?_;refine uAf ?_;refine uAm rfl (fun hc=>?_) (fun hc=>?_)
 ·try simp only [nn,uAi,T.rows_len,Tk.rows_len] at hc
  have h2 : symP l p c=p:=by rw [symP,hc]; rfl
  have h3 : uA8 l c p=p.off:=by rw [uA8,hc]; rfl
  rw [h2,h3]
  refine uAb ?_;refine uAa rfl rfl rfl (uAc rfl gU) ?_;refine uAa rfl rfl rfl (uAA rfl gU) ?_;refine uAa rfl rfl rfl (uAg rfl gU rfl rfl) ?_;refine uAw rfl (uAB rfl rfl rfl rfl rfl rfl rfl) ?_;refine uAf ?_;refine uLZ rfl ?_ (⟨⟨_,rfl,?_⟩,trivial⟩)
  (all_goals rfl)
 ·try simp only [nn,uAi,T.rows_len,Tk.rows_len] at hc
  have h2 : symP l p c=p.go:=by rw [symP,if_pos hc]
  have h3 : uA8 l c p=p.go:=by rw [uA8,if_pos hc]
  rw [h2,h3]
  refine uAo ?_;refine uLZ rfl ?_ (⟨⟨_,rfl,?_⟩,trivial⟩)
  (all_goals rfl)
theorem uBG (l : List Tk) (p : PS) (ws : List (List UInt8)) (hl : l.length≤2000000) (hp : p.at'≤3000000) : Ctr sys 59 [xpp,xss ws] [pbx l p] (xs (uAz l ws p).1) none [pbx l (uAz l ws p).2]:=by
 have hrl:=Tk.rows_len l
 have hws:=uAi ws
 refine uAy Tryz.func59 rfl rfl rfl rfl rfl rfl ?_;refine uAe (uAb ?_);refine uAa rfl rfl rfl (uAd rfl gU) ?_;refine uAf ?_;refine uAe ?_;refine uAe ?_;refine awp_drawn' (by kernel_rfl) ?_;refine uAh rfl rfl rfl rfl (uAc rfl gU) ?_;refine uAh rfl rfl rfl rfl (uAA rfl gU) ?_;refine uAh rfl rfl rfl rfl (uAg rfl gU rfl rfl) ?_;refine uAS rfl rfl rfl rfl rfl rfl rfl gU rfl rfl rfl rfl ?_;refine uAh rfl rfl rfl rfl (uAc rfl gU) ?_;refine uAh rfl rfl rfl rfl (uAc rfl gU) ?_;refine uAh rfl rfl rfl rfl (uAA rfl (fun hh=>hh)) ?_;refine uAh rfl rfl rfl rfl (uAg rfl (fun hh=>hh) rfl rfl) ?_;refine uAS rfl rfl rfl rfl rfl rfl rfl (fun hh=>hh) rfl rfl rfl rfl ?_;refine uAh rfl rfl rfl rfl (uAc rfl gU) ?_;refine uAh rfl rfl rfl rfl (uAA rfl (fun hh=>hh)) ?_;refine uAh rfl rfl rfl rfl (uAg rfl (fun hh=>hh) rfl rfl) ?_;refine uAS rfl rfl rfl rfl rfl rfl rfl (fun hh=>hh) rfl rfl rfl rfl ?_;refine uAh rfl rfl rfl rfl (uAZ rfl (fun hh=>hh) rfl rfl) ?_;refine uAh rfl rfl rfl rfl (uAk rfl rfl (fun hh=>hh) (fun hh=>hh) rfl) ?_;refine uAh rfl rfl rfl rfl (uAJ rfl rfl gU (fun _ hi=>gP rfl hi)) ?_;refine uAh rfl rfl rfl rfl (uAc rfl gU) ?_;refine uAh rfl rfl rfl rfl (uAc rfl gU) ?_;refine uAh rfl rfl rfl rfl (uAA rfl (fun hh=>hh)) ?_;refine uAh rfl rfl rfl rfl (uAg rfl (fun hh=>hh) rfl rfl) ?_
 refine uAS rfl rfl rfl rfl rfl rfl rfl (fun hh=>hh) rfl rfl rfl rfl ?_;refine uAh rfl rfl rfl rfl (uAc rfl gU) ?_;refine uAh rfl rfl rfl rfl (uAA rfl (fun hh=>hh)) ?_;refine uAh rfl rfl rfl rfl (uAg rfl (fun hh=>hh) rfl rfl) ?_;refine uAS rfl rfl rfl rfl rfl rfl rfl (fun hh=>hh) rfl rfl rfl rfl ?_;refine uAh rfl rfl rfl rfl (uAq (j:=p.at') rfl rfl (fun hh=>hh) (fun hh=>hh) rfl rfl (by first | omega | (simp at hh ⊢; omega)) (fun hh=>Tk.rows_at (by first | omega | (simp at hh ⊢; omega)))) ?_;refine uAh rfl rfl rfl rfl (uAO rfl (fun hh=>hh) rfl rfl) ?_;refine uAh rfl rfl rfl rfl (uAK rfl (fun hh=>hh) rfl rfl rfl) ?_;refine uAh rfl rfl rfl rfl (uAk rfl rfl (fun hh=>hh) gU rfl) ?_;refine uAh rfl rfl rfl rfl (uAJ rfl rfl gU (fun _ hi=>gP rfl hi)) ?_;refine uAh rfl rfl rfl rfl (uAc rfl gU) ?_;refine uAh rfl rfl rfl rfl (uAc rfl gU) ?_;refine uAh rfl rfl rfl rfl (uAZ rfl (fun hh=>hh) rfl rfl) ?_;refine uAh rfl rfl rfl rfl (uAk rfl rfl (fun hh=>hh) gU rfl) ?_;refine uAh rfl rfl rfl rfl (uAc rfl (fun hh=>hh)) ?_;refine uAh rfl rfl rfl rfl (uAc rfl gU) ?_;refine uAh rfl rfl rfl rfl (uAc rfl gU) ?_;refine uAh rfl rfl rfl rfl (uAA rfl (fun hh=>hh)) ?_;refine uAh rfl rfl rfl rfl (uAg rfl (fun hh=>hh) rfl rfl) ?_;refine uAS rfl rfl rfl rfl rfl rfl rfl (fun hh=>hh) rfl rfl rfl rfl ?_
 refine uAh rfl rfl rfl rfl (uAc rfl gU) ?_;refine uAh rfl rfl rfl rfl (uAA rfl (fun hh=>hh)) ?_;refine uAh rfl rfl rfl rfl (uAg rfl (fun hh=>hh) rfl rfl) ?_;refine uAS rfl rfl rfl rfl rfl rfl rfl (fun hh=>hh) rfl rfl rfl rfl ?_;refine uAh rfl rfl rfl rfl (uAq (j:=p.at') rfl rfl (fun hh=>hh) (fun hh=>hh) rfl rfl (by first | omega | (simp at hh ⊢; omega)) (fun hh=>Tk.rows_at (by first | omega | (simp at hh ⊢; omega)))) ?_;refine uAh rfl rfl rfl rfl (uAO rfl (fun hh=>hh) rfl rfl) ?_;refine uAh rfl rfl rfl rfl (uAK rfl (fun hh=>hh) rfl rfl rfl) ?_;refine uA2 rfl rfl rfl rfl rfl rfl rfl gU (fun hh=>gA ((fun hh=>hh) hh) (gA ((fun hh=>hh) hh) (rfl))) (uH4 _ _) rfl ?_;refine uAh rfl rfl rfl rfl (uAV rfl (fun hh=>hh)) ?_;refine uAh rfl rfl rfl rfl (uAR rfl rfl (fun hh=>hh) (fun hh hi=>gP hh hi)) ?_;refine uAh rfl rfl rfl rfl (uAJ rfl rfl gU (fun _ hi=>gP rfl hi)) ?_;refine uA6 (by kernel_rfl) ?_;refine uAn (s:=⟨[(0,_,_),(55,_,_)],[(.o 0,_)],[],[]⟩) (uAj (⟨sx rfl,sx rfl,trivial⟩) (⟨sx rfl,trivial⟩) trivial) ?_;refine uAm rfl (fun hc=>?_) (fun hc=>?_)
 ·try simp only [nn,uAi,T.rows_len,Tk.rows_len] at hc
  have h : namQ l p ws=false:=by
   simp only [namQ]
   by_cases hw : ws=[]
   ·subst hw; simp at hc ⊢; grind
   ·have : 0 < ws.length:=List.length_pos_iff.2 hw
    simp [hw]; grind
  have h2 : uAz l ws p=([],p.off):=by rw [uAz,h]; rfl
  rw [h2]
  refine uAe (uAb ?_);refine uAa rfl rfl rfl (uAc rfl gU) ?_;refine uAa rfl rfl rfl (uAA rfl gU) ?_;refine uAa rfl rfl rfl (uAg rfl gU rfl rfl) ?_;refine uAw rfl (uAB rfl rfl rfl rfl rfl rfl rfl) ?_;refine uAf ?_;refine uAe (uAb ?_);refine uAa rfl rfl rfl (uAd rfl gU) ?_;refine uAf ?_;refine uAp ?_
  repeat (first | refine tR ?_ | refine bR ?_)
  refine uAs rfl ?_ (⟨⟨_,rfl,?_⟩,trivial⟩)
  (all_goals rfl)
 ·try simp only [nn,uAi,T.rows_len,Tk.rows_len] at hc
  have h : namQ l p ws=true:=by
   simp only [namQ]
   by_cases hw : ws=[]
   ·subst hw; simp at hc ⊢; grind
   ·have : 0 < ws.length:=List.length_pos_iff.2 hw
    simp [hw]; grind
  have h2 : uAz l ws p=((l.getD p.at' tk0).text,p.go):=by rw [uAz,if_pos h]
  rw [h2]
  refine uAo ?_;refine uAe (uAb ?_);refine uAa rfl rfl rfl (uAc rfl gU) ?_;refine uAa rfl rfl rfl (uAA rfl gU) ?_;refine uAa rfl rfl rfl (uAg rfl gU rfl rfl) ?_;refine uAa rfl rfl rfl (uAl rfl gU rfl rfl rfl rfl) ?_;refine uAa rfl rfl rfl (uAr rfl rfl gU gU rfl (IntWalk.i64_in _ (by omega))) ?_;refine uAa rfl rfl rfl (uAA rfl gU) ?_;refine uAa rfl rfl rfl (uAg rfl gU rfl rfl) ?_;refine uAw rfl (uAB rfl rfl rfl rfl rfl rfl rfl) ?_;refine uAf ?_;refine uAn (s:=⟨[(0,_,_)],[(.o 0,_)],[],[]⟩) (uAj (⟨sx rfl,trivial⟩) (⟨sx rfl,trivial⟩) trivial) ?_;refine uAe ?_;refine awp_drawn' (by kernel_rfl) ?_;refine uAh rfl rfl rfl rfl (uAc rfl gU) ?_;refine uAh rfl rfl rfl rfl (uAA rfl gU) ?_;refine uAh rfl rfl rfl rfl (uAg rfl gU rfl rfl) ?_;refine uAS rfl rfl rfl rfl rfl rfl rfl gU rfl rfl rfl rfl ?_;refine uAh rfl rfl rfl rfl (uAc rfl gU) ?_;refine uAh rfl rfl rfl rfl (uAA rfl gU) ?_;refine uAh rfl rfl rfl rfl (uAg rfl gU rfl rfl) ?_;refine uAS rfl rfl rfl rfl rfl rfl rfl gU rfl rfl rfl rfl ?_;refine uAh rfl rfl rfl rfl (uAr rfl rfl gU gU rfl (IntWalk.i64_in _ (by omega))) ?_;refine uAh rfl rfl rfl rfl (uAq (j:=p.at') rfl rfl gU gU rfl rfl (by first | omega | (simp at hh ⊢; omega)) (fun hh=>Tk.rows_at (by first | omega | (simp at hh ⊢; omega)))) ?_
  refine uAh rfl rfl rfl rfl (uAO rfl gU rfl rfl) ?_;refine uAh rfl rfl rfl rfl (uAK rfl gU rfl rfl rfl) ?_;refine uAh rfl rfl rfl rfl (uAd rfl gU) ?_;refine uA6 (by kernel_rfl) ?_;refine uAp ?_
  repeat (first | refine tR ?_ | refine bR ?_)
  refine uAs rfl ?_ (⟨⟨_,rfl,?_⟩,trivial⟩)
  (all_goals first | rfl | exact uNO (by simp [PS.go]) rfl)
theorem uK6 (l : List Tk) (p : PS) (hl : l.length≤2000000) : Ctr sys 113 [xpp] [pbx l p] (xi (uKG l p)) none [pbx l p]:=by
 have hrl:=Tk.rows_len l
 refine uAy Tryz.func113 rfl rfl rfl rfl rfl rfl ?_;refine uAe (uAb ?_);refine uAa rfl rfl rfl (uAd rfl gU) ?_;refine uAf ?_;refine uAe ?_;refine uAt ?_;refine uAe (uAb ?_);refine uAa rfl rfl rfl (uAc rfl gU) ?_;refine uAa rfl rfl rfl (uAA rfl gU) ?_;refine uAa rfl rfl rfl (uAg rfl gU rfl rfl) ?_;refine uAa rfl rfl rfl (uAl rfl gU rfl rfl rfl rfl) ?_;refine uAL rfl rfl rfl rfl rfl gU rfl rfl ?_ (fun hh=>by simp at hh); intro hlen;refine uAa rfl rfl rfl (uAk rfl rfl gU gU rfl) ?_;refine uAa rfl rfl rfl (uAd rfl gU) ?_;refine uAf ?_;refine uAn (s:=⟨[(0,_,_),(3,_,_)],[(.o 0,_)],[],[]⟩) (uAj (⟨sx rfl,sx rfl,trivial⟩) (⟨sx rfl,trivial⟩) trivial) ?_;refine uAm rfl (fun hc=>?_) (fun hc=>?_)
 ·try simp only [nn,uAi,T.rows_len,Tk.rows_len] at hc
  refine uAe (uAb ?_);refine uAa rfl rfl rfl (uAd rfl gU) ?_;refine uAf ?_;refine uAp ?_
  repeat (first | refine tR ?_ | refine bR ?_)
  refine uAs rfl ?_ (⟨⟨_,rfl,?_⟩,trivial⟩)
  (all_goals first | rfl | (rw [uKG,if_pos (by omega)]; rfl))
 ·try simp only [nn,uAi,T.rows_len,Tk.rows_len] at hc
  refine uAe ?_;refine awp_drawn' (by kernel_rfl) ?_;refine uAh rfl rfl rfl rfl (uAc rfl gU) ?_;refine uAh rfl rfl rfl rfl (uAA rfl gU) ?_;refine uAh rfl rfl rfl rfl (uAg rfl gU rfl rfl) ?_;refine uAS rfl rfl rfl rfl rfl rfl rfl gU rfl rfl rfl rfl ?_;refine uAh rfl rfl rfl rfl (uAc rfl gU) ?_;refine uAh rfl rfl rfl rfl (uAA rfl gU) ?_;refine uAh rfl rfl rfl rfl (uAg rfl gU rfl rfl) ?_;refine uAS rfl rfl rfl rfl rfl rfl rfl gU rfl rfl rfl rfl ?_;refine uAh rfl rfl rfl rfl (uAZ rfl gU rfl rfl) ?_;refine uAh rfl rfl rfl rfl (uAk rfl rfl gU gU rfl) ?_;refine uAh rfl rfl rfl rfl (uAd rfl gU) ?_;refine uA6 (by kernel_rfl) ?_;refine uAn (s:=⟨[(0,_,_),(10,_,_)],[(.o 0,_)],[],[]⟩) (uAj (⟨sx rfl,sx rfl,trivial⟩) (⟨sx rfl,trivial⟩) trivial) ?_;refine uAm rfl (fun hc2=>?_) (fun hc2=>?_)
  ·try simp only [nn,uAi,T.rows_len,Tk.rows_len] at hc2
   refine uAe ?_;refine awp_drawn' (by kernel_rfl) ?_;refine uAh rfl rfl rfl rfl (uAc rfl gU) ?_;refine uAh rfl rfl rfl rfl (uAA rfl gU) ?_;refine uAh rfl rfl rfl rfl (uAg rfl gU rfl rfl) ?_;refine uAS rfl rfl rfl rfl rfl rfl rfl gU rfl rfl rfl rfl ?_;refine uAh rfl rfl rfl rfl (uAc rfl gU) ?_;refine uAh rfl rfl rfl rfl (uAA rfl gU) ?_;refine uAh rfl rfl rfl rfl (uAg rfl gU rfl rfl) ?_;refine uAS rfl rfl rfl rfl rfl rfl rfl gU rfl rfl rfl rfl ?_;refine uAh rfl rfl rfl rfl (uAZ rfl gU rfl rfl) ?_;refine uAh rfl rfl rfl rfl (uAr rfl rfl gU gU rfl (IntWalk.i64_in _ (by omega))) ?_;refine uAh rfl rfl rfl rfl (uAq (j:=(l.length - 1)) rfl rfl gU gU rfl rfl (by first | omega | (simp at hh ⊢; omega)) (fun hh=>Tk.rows_at (by first | omega | (simp at hh ⊢; omega)))) ?_;refine uAh rfl rfl rfl rfl (uAO rfl gU rfl rfl) ?_;refine uAh rfl rfl rfl rfl (uAK rfl gU rfl rfl rfl) ?_;refine uAh rfl rfl rfl rfl (uAd rfl gU) ?_;refine uA6 (by kernel_rfl) ?_;refine uAp ?_
   repeat (first | refine tR ?_ | refine bR ?_)
   refine uAs rfl ?_ (⟨⟨_,rfl,?_⟩,trivial⟩)
   (all_goals first | rfl | (rw [uKG,if_neg (by omega),if_pos (by omega)]; rfl))
  ·try simp only [nn,uAi,T.rows_len,Tk.rows_len] at hc2
   refine uAo ?_;refine uAe ?_;refine awp_drawn' (by kernel_rfl) ?_;refine uAh rfl rfl rfl rfl (uAc rfl gU) ?_;refine uAh rfl rfl rfl rfl (uAA rfl gU) ?_;refine uAh rfl rfl rfl rfl (uAg rfl gU rfl rfl) ?_;refine uAS rfl rfl rfl rfl rfl rfl rfl gU rfl rfl rfl rfl ?_;refine uAh rfl rfl rfl rfl (uAc rfl gU) ?_;refine uAh rfl rfl rfl rfl (uAA rfl gU) ?_;refine uAh rfl rfl rfl rfl (uAg rfl gU rfl rfl) ?_;refine uAS rfl rfl rfl rfl rfl rfl rfl gU rfl rfl rfl rfl ?_;refine uAh rfl rfl rfl rfl (uAq (j:=p.at') rfl rfl gU gU rfl rfl (by first | omega | (simp at hh ⊢; omega)) (fun hh=>Tk.rows_at (by first | omega | (simp at hh ⊢; omega)))) ?_;refine uAh rfl rfl rfl rfl (uAO rfl gU rfl rfl) ?_;refine uAh rfl rfl rfl rfl (uAK rfl gU rfl rfl rfl) ?_;refine uAh rfl rfl rfl rfl (uAd rfl gU) ?_;refine uA6 (by kernel_rfl) ?_;refine uAp ?_
   repeat (first | refine tR ?_ | refine bR ?_)
   refine uAs rfl ?_ (⟨⟨_,rfl,?_⟩,trivial⟩)
   (all_goals first | rfl | (rw [uKG,if_neg (by omega),if_neg (by omega)]; rfl))
theorem uFX (l : List Tk) (p : PS) (hl : l.length≤2000000) : Ctr sys 63 [xpp] [pbx l p] (.tup [.c (.i .i64 (endE l p).1), .c (.i .i64 (endE l p).2)]) none [pbx l p]:=by
 have hrl:=Tk.rows_len l
 refine uAy Tryz.func63 rfl rfl rfl rfl rfl rfl ?_;refine uAe (uAb ?_);refine uAa rfl rfl rfl (uAd rfl gU) ?_;refine uAa rfl rfl rfl (uAd rfl gU) ?_;refine uAf ?_;refine uAe ?_;refine uAe ?_;refine awp_drawn' (by kernel_rfl) ?_;refine uAh rfl rfl rfl rfl (uAc rfl gU) ?_;refine uAh rfl rfl rfl rfl (uAA rfl gU) ?_;refine uAh rfl rfl rfl rfl (uAg rfl gU rfl rfl) ?_;refine uAS rfl rfl rfl rfl rfl rfl rfl gU rfl rfl rfl rfl ?_;refine uAh rfl rfl rfl rfl (uAc rfl gU) ?_;refine uAh rfl rfl rfl rfl (uAc rfl gU) ?_;refine uAh rfl rfl rfl rfl (uAA rfl (fun hh=>hh)) ?_;refine uAh rfl rfl rfl rfl (uAg rfl (fun hh=>hh) rfl rfl) ?_;refine uAS rfl rfl rfl rfl rfl rfl rfl (fun hh=>hh) rfl rfl rfl rfl ?_;refine uAh rfl rfl rfl rfl (uAc rfl gU) ?_;refine uAh rfl rfl rfl rfl (uAA rfl (fun hh=>hh)) ?_;refine uAh rfl rfl rfl rfl (uAg rfl (fun hh=>hh) rfl rfl) ?_;refine uAS rfl rfl rfl rfl rfl rfl rfl (fun hh=>hh) rfl rfl rfl rfl ?_;refine uAh rfl rfl rfl rfl (uAZ rfl (fun hh=>hh) rfl rfl) ?_;refine uAh rfl rfl rfl rfl (uAk rfl rfl (fun hh=>hh) (fun hh=>hh) rfl) ?_;refine uAh rfl rfl rfl rfl (uAJ rfl rfl gU (fun _ hi=>gP rfl hi)) ?_;refine uA6 (by kernel_rfl) ?_;refine uAn (s:=⟨[(0,_,_),(19,_,_)],[(.o 0,_)],[],[]⟩) (uAj (⟨sx rfl,sx rfl,trivial⟩) (⟨sx rfl,trivial⟩) trivial) ?_
 refine uAm rfl (fun hc=>?_) (fun hc=>?_)
 ·try simp only [nn,uAi,T.rows_len,Tk.rows_len] at hc
  refine uAe (uAb ?_);refine uAa rfl rfl rfl (uAc rfl gU) ?_;refine uAN (.o 0) rfl rfl rfl rfl rfl rfl (uK6 _ _ (by omega)) rfl (by rfl) (by rfl) rfl rfl rfl ?_;refine uAa rfl rfl rfl (uAd rfl gU) ?_;refine uAa rfl rfl rfl (uAd rfl gU) ?_;refine uAf ?_;refine uAp ?_
  repeat (first | refine tR ?_ | refine bR ?_)
  refine uAs rfl ?_ (⟨⟨_,rfl,?_⟩,trivial⟩)
  (all_goals first | rfl | (rw [endE,if_pos (by grind)]; rfl))
 ·try simp only [nn,uAi,T.rows_len,Tk.rows_len] at hc
  refine uAo ?_;refine uAe (uAb ?_);refine uAa rfl rfl rfl (uAd rfl gU) ?_;refine uAa rfl rfl rfl (uAd rfl gU) ?_;refine uAf ?_;refine uAp ?_
  repeat (first | refine tR ?_ | refine bR ?_)
  refine uAs rfl ?_ (⟨⟨_,rfl,?_⟩,trivial⟩)
  (all_goals first | rfl | (rw [endE,if_neg (by grind)]; rfl))
end Go.Proofs.YtnjjdbapadkomaaGreatDoor
namespace Go.Proofs.YtnjjdbapadkomaaGreatDoor
open Go Go.Abs
theorem uCz {l : List Tk} {p : PS} {c : List UInt8} (h : symQ l p c=true) : p.at' < l.length∧p.bad=false:=by
 simp only [symQ,Bool.and_eq_true,decide_eq_true_eq,Bool.not_eq_true'] at h
 exact ⟨h.1.1.2,h.1.1.1⟩
theorem uBt (l : List Tk) (c : List UInt8) (p : PS) : p.at'≤(uA8 l c p).at'∧(p.at'≤l.length→(uA8 l c p).at'≤l.length):=by
 unfold uA8
 split
 ·rename_i h; have := (uCz h).1; simp only [PS.go]; omega
 ·simp [PS.off]
theorem uA7 (l : List Tk) (ws : List (List UInt8)) (p : PS) : p.at'≤(uAz l ws p).2.at'∧(p.at'≤l.length→(uAz l ws p).2.at'≤l.length):=by
 unfold uAz
 split
 ·rename_i h
  simp only [namQ,Bool.and_eq_true,decide_eq_true_eq] at h
  have := h.1.1.2
  simp only [PS.go]; omega
 ·simp [PS.off]
theorem uCW {α : Type} {l : List Tk} {f : PS→α × PS} {p : PS} {out : List α} (h : symQ l p [44]=false) : ∀ n,uBL l f n p out=(out,p)
 | 0=>rfl
 | n + 1=>by rw [uBL,h]; rfl
theorem uFE {α : Type} {l : List Tk} {f : PS→α × PS} {p : PS} {out : List α} {n : Nat} (h : symQ l p [44]=true) : uBL l f (n + 1) p out=uBL l f n (f p.go).2 (out++[(f p.go).1]):=by rw [uBL,if_pos h]
theorem uD9 (l : List Tk) (p : PS) (hl : l.length≤2000000) (hp : p.at'≤l.length) : Ctr sys 109 [xpp] [pbx l p] (xss (uBH l p).1) none [pbx l (uBH l p).2]:=by
 have hrl:=Tk.rows_len l
 have h0:=uA7 l [] p
 refine uAy Tryz.func109 rfl rfl rfl rfl rfl rfl ?_;refine uAe (uAb ?_);refine uAw rfl (uBv (.inr rfl) rfl rfl) ?_;refine uAf ?_;refine uAe (uAb ?_);refine uAa rfl rfl rfl (uAc rfl gU) ?_;refine uAN (.o 0) rfl rfl rfl rfl rfl rfl (uBG l _ [] (by omega) (by first | omega | (simp only [PS.go]; omega))) rfl (by rfl) (by rfl) rfl rfl rfl ?_;refine uAQ (xs:=[_]) rfl rfl rfl rfl rfl rfl rfl rfl rfl gU rfl ?_;refine uAw rfl (uAP (.inr rfl) rfl rfl rfl) ?_;refine uAf ?_;refine uAn (s:=⟨[(0,_,_),(3,_,_)],[(.o 0,_)],[(.t 3,_)],[]⟩) (uAj (⟨sx rfl,sx rfl,trivial⟩) (⟨sx rfl,trivial⟩) (⟨rfl,trivial⟩)) ?_;refine uAe ?_;refine uAt ?_;refine uAY (ι:=PS × List (List UInt8)) { t:=[(0,_,_)],bx:=[],ow:=[(.t 3,_)] } (fun q=>[(3,true,xss q.2)]) (fun q=>[((.o 0),pbx l q.1)]) (fun q=>q.1.at'≤l.length∧q.2.length≤q.1.at' + 1 ∧ ∃ n,l.length + 1≤n + q.1.at'∧uBL l (uAz l []) n q.1 q.2=uBH l p) (fun q=>l.length - q.1.at') (((uAz l [] p).2,[(uAz l [] p).1])) (⟨h0.2 hp,by simp,_,by dsimp only; omega,rfl⟩) (uAj (⟨sx rfl,sx rfl,trivial⟩) (⟨sx rfl,trivial⟩) (⟨rfl,trivial⟩)) ?_
 intro q hok
 dsimp only [List.cons_append,List.nil_append] at *
 obtain ⟨q,out⟩:=q
 dsimp only at hok ⊢
 obtain ⟨hq,ho,n,hn,hi⟩:=hok
 have hro:=uAi out
 refine uAe ?_;refine uAe (uAb ?_);refine uAa rfl rfl rfl (uAc rfl gU) ?_;refine uAN (.o 0) rfl rfl rfl rfl rfl rfl (uBY _ _ _ (by omega) (by omega)) rfl (by rfl) (by rfl) rfl rfl rfl ?_;refine uAf ?_;refine uAm rfl (fun hc=>?_) (fun hc=>?_)
 ·try simp only [nn,uAi,T.rows_len,Tk.rows_len] at hc
  have hlt:=(uCz hc).1
  have hs : symP l q [44]=q.go:=by rw [symP,if_pos hc]
  have h1:=uA7 l [] q.go
  have hg : q.go.at'=q.at' + 1:=rfl
  obtain ⟨n,rfl⟩ : ∃ k,n=k + 1:=⟨n - 1,by omega⟩
  rw [uFE hc] at hi
  rw [hs]
  refine uAo ?_;refine uAt ?_;refine uAb ?_;refine uAw rfl (uAP (.inl rfl) rfl rfl rfl) ?_;refine uAa rfl rfl rfl (uAc rfl gU) ?_;refine uAN (.o 0) rfl rfl rfl rfl rfl rfl (uBG l _ [] (by omega) (by first | omega | (simp only [PS.go]; omega))) rfl (by rfl) (by rfl) rfl rfl rfl ?_;refine uAQ (xs:=[_]) rfl rfl rfl rfl rfl rfl rfl rfl rfl gU rfl ?_;refine uAw rfl (uA4 rfl rfl rfl rfl rfl rfl rfl (by first | omega | (simp only [List.length_append,List.length_singleton,uAi]; omega)) (by first | omega | (simp only [List.length_append,List.length_singleton,uAi]; omega))) ?_;refine uAw rfl (uAP (.inr rfl) rfl rfl rfl) ?_;refine uAf ?_;refine ⟨((uAz l [] q.go).2,out++[(uAz l [] q.go).1]),?_,?_,uAj (⟨⟨_,rfl,?_⟩,⟨sx rfl,trivial⟩⟩) (⟨⟨_,rfl,?_⟩,trivial⟩) (⟨rfl,trivial⟩)⟩
  ·exact ⟨h1.2 (by omega),by simp only [List.length_append,List.length_singleton]; omega,n,by dsimp only; omega,hi⟩
  ·dsimp only; omega
  ·exact tx (uCq _ _)
  ·rfl
 ·try simp only [nn,uAi,T.rows_len,Tk.rows_len] at hc
  have hs : symP l q [44]=q:=by rw [symP,hc]; rfl
  rw [uCW hc] at hi
  rw [hs]
  refine uAM ?_
  repeat (first | refine uAE ?_ | refine uAD ?_ | refine uAC rfl ?_)
  refine uAe (uAb ?_);refine uAw rfl (uAP (.inl rfl) rfl rfl rfl) ?_;refine uAw rfl (uAP (.inr rfl) rfl rfl rfl) ?_;refine uAf ?_;refine uAp ?_
  repeat (first | refine tR ?_ | refine bR ?_)
  refine uAs rfl ?_ (⟨⟨_,rfl,?_⟩,trivial⟩)
  (all_goals first | (rw [← hi]; done) | (rw [← hi]; rfl))
end Go.Proofs.YtnjjdbapadkomaaGreatDoor
namespace Go.Proofs.YtnjjdbapadkomaaGreatDoor
open Go Go.Abs
theorem uJB {α : Type} {l : List Tk} {f : PS→α × PS} (hf : ∀ p,p.at'≤(f p).2.at'∧(p.at'≤l.length→(f p).2.at'≤l.length)) : ∀ (n : Nat) (p : PS) (out : List α),p.at'≤(uBL l f n p out).2.at'∧(p.at'≤l.length→(uBL l f n p out).2.at'≤l.length)
 | 0,p,out=>by simp [uBL]
 | n + 1,p,out=>by
  rw [uBL]
  split
  ·rename_i h
   have h1:=(uCz h).1
   have h2:=hf p.go
   have h3:=uJB hf n (f p.go).2 (out++[(f p.go).1])
   have hg : p.go.at'=p.at' + 1:=rfl
   omega
  ·simp
theorem uC4 {α : Type} {l : List Tk} {f : PS→α × PS} (hf : ∀ p,p.at'≤(f p).2.at'∧(p.at'≤l.length→(f p).2.at'≤l.length)) (p : PS) : p.at'≤(uBi l f p).2.at'∧(p.at'≤l.length→(uBi l f p).2.at'≤l.length):=by
 have h1:=hf p
 have h2:=uJB hf (l.length + 1) (f p).2 [(f p).1]
 unfold uBi; omega
theorem uCC (l : List Tk) : ∀ (n : Nat) (p : PS),p.at'≤(uAU l n p).2.at'∧(p.at'≤l.length→(uAU l n p).2.at'≤l.length)
 | 0,p=>by simp [uAU]
 | n + 1,p=>by
  have ih:=uCC l n
  have hg : ∀ q : PS,q.go.at'=q.at' + 1:=fun _=>rfl
  rw [uAU]
  split
  ·rename_i h
   have h1:=(uCz h).1
   have h2:=ih p.go
   have h3:=uBt l [44] (uAU l n p.go).2
   have h4:=uC4 ih (uA8 l [44] (uAU l n p.go).2)
   have h5:=uBt l [62] (uBi l (uAU l n) (uA8 l [44] (uAU l n p.go).2)).2
   have := hg p
   dsimp only; omega
  ·have h1:=uA7 l [] p
   split
   ·rename_i h
    have h2:=(uCz h).1
    split
    ·rename_i h3
     have h4:=(uCz h3).1
     have := hg (uAz l [] p).2
     have := hg (uAz l [] p).2.go
     dsimp only; omega
    ·have h3:=uC4 ih (uAz l [] p).2.go
     have h4:=uBt l [41] (uBi l (uAU l n) (uAz l [] p).2.go).2
     have := hg (uAz l [] p).2
     dsimp only; omega
   ·exact h1
theorem uJI (l : List Tk) (n : Nat) (hl : l.length≤2000000) (ih : ∀ p : PS,p.at'≤l.length→l.length - p.at' < n→Ctr sys 66 [xpp] [pbx l p] (xm (uAU l n p).1) none [pbx l (uAU l n p).2]) (p : PS) (hp : p.at'≤l.length) (hn : l.length - p.at' < n) :
  Ctr sys 116 [xpp] [pbx l p] (xl (uBi l (uAU l n) p).1) none [pbx l (uBi l (uAU l n) p).2]:=by
 have hrl:=Tk.rows_len l
 have h0:=uCC l n p
 refine uAy Tryz.func116 rfl rfl rfl rfl rfl rfl ?_;refine uAe (uAb ?_);refine uAw rfl (uBv (.inr rfl) rfl rfl) ?_;refine uAf ?_;refine uAe (uAb ?_);refine uAa rfl rfl rfl (uAc rfl gU) ?_;refine uAN (.o 0) rfl rfl rfl rfl rfl rfl (ih _ (by first | omega | (simp only [PS.go]; omega)) (by first | omega | (simp only [PS.go]; omega))) rfl (by rfl) (by rfl) rfl rfl rfl ?_;refine uAQ (xs:=[_]) rfl rfl rfl rfl rfl rfl rfl rfl rfl gU rfl ?_;refine uAw rfl (uAP (.inr rfl) rfl rfl rfl) ?_;refine uAf ?_;refine uAn (s:=⟨[(0,_,_),(3,_,_)],[(.o 0,_)],[(.t 3,_)],[]⟩) (uAj (⟨sx rfl,sx rfl,trivial⟩) (⟨sx rfl,trivial⟩) (⟨rfl,trivial⟩)) ?_;refine uAe ?_;refine uAt ?_;refine uAY (ι:=PS × List T) { t:=[(0,_,_)],bx:=[],ow:=[(.t 3,_)] } (fun q=>[(3,true,xl q.2)]) (fun q=>[((.o 0),pbx l q.1)]) (fun q=>p.at'≤q.1.at'∧q.1.at'≤l.length∧q.2.length≤q.1.at' + 1 ∧ ∃ k,l.length + 1≤k + q.1.at'∧uBL l (uAU l n) k q.1 q.2=uBi l (uAU l n) p) (fun q=>l.length - q.1.at') (((uAU l n p).2,[(uAU l n p).1])) (⟨h0.1,h0.2 hp,by simp,_,by dsimp only; omega,rfl⟩) (uAj (⟨⟨_,rfl,by simp [T.rows_eq]⟩,⟨sx rfl,trivial⟩⟩) (⟨sx rfl,trivial⟩) (⟨rfl,trivial⟩)) ?_
 intro q hok
 dsimp only [List.cons_append,List.nil_append] at *
 obtain ⟨q,out⟩:=q
 dsimp only at hok ⊢
 obtain ⟨hq0,hq,ho,k,hk,hi⟩:=hok
 have hro:=T.rows_len out
 refine uAe ?_;refine uAe (uAb ?_);refine uAa rfl rfl rfl (uAc rfl gU) ?_;refine uAN (.o 0) rfl rfl rfl rfl rfl rfl (uBY _ _ _ (by omega) (by omega)) rfl (by rfl) (by rfl) rfl rfl rfl ?_;refine uAf ?_;refine uAm rfl (fun hc=>?_) (fun hc=>?_)
 ·try simp only [nn,uAi,T.rows_len,Tk.rows_len] at hc
  have hlt:=(uCz hc).1
  have hs : symP l q [44]=q.go:=by rw [symP,if_pos hc]
  have h1:=uCC l n q.go
  have hg : q.go.at'=q.at' + 1:=rfl
  obtain ⟨k,rfl⟩ : ∃ j,k=j + 1:=⟨k - 1,by omega⟩
  rw [uFE hc] at hi
  rw [hs]
  refine uAo ?_;refine uAt ?_;refine uAb ?_;refine uAw rfl (uAP (.inl rfl) rfl rfl rfl) ?_;refine uAa rfl rfl rfl (uAc rfl gU) ?_;refine uAN (.o 0) rfl rfl rfl rfl rfl rfl (ih _ (by first | omega | (simp only [PS.go]; omega)) (by first | omega | (simp only [PS.go]; omega))) rfl (by rfl) (by rfl) rfl rfl rfl ?_;refine uAQ (xs:=[_]) rfl rfl rfl rfl rfl rfl rfl rfl rfl gU rfl ?_;refine uAw rfl (uA4 rfl rfl rfl rfl rfl rfl rfl (by first | omega | (simp only [List.length_append,List.length_singleton,T.rows_len]; omega)) (by first | omega | (simp only [List.length_append,List.length_singleton,T.rows_len]; omega))) ?_;refine uAw rfl (uAP (.inr rfl) rfl rfl rfl) ?_;refine uAf ?_;refine ⟨((uAU l n q.go).2,out++[(uAU l n q.go).1]),?_,?_,uAj (⟨⟨_,rfl,?_⟩,⟨sx rfl,trivial⟩⟩) (⟨⟨_,rfl,?_⟩,trivial⟩) (⟨rfl,trivial⟩)⟩
  ·exact ⟨by dsimp only; omega,h1.2 (by omega),by simp only [List.length_append,List.length_singleton]; omega,k,by dsimp only; omega,hi⟩
  ·dsimp only; omega
  ·exact tx (uFJ _ _)
  ·rfl
 ·try simp only [nn,uAi,T.rows_len,Tk.rows_len] at hc
  have hs : symP l q [44]=q:=by rw [symP,hc]; rfl
  rw [uCW hc] at hi
  rw [hs]
  refine uAM ?_
  repeat (first | refine uAE ?_ | refine uAD ?_ | refine uAC rfl ?_)
  refine uAe (uAb ?_);refine uAw rfl (uAP (.inl rfl) rfl rfl rfl) ?_;refine uAw rfl (uAP (.inr rfl) rfl rfl rfl) ?_;refine uAf ?_;refine uAp ?_
  repeat (first | refine tR ?_ | refine bR ?_)
  refine uAs rfl ?_ (⟨⟨_,rfl,?_⟩,trivial⟩)
  (all_goals first | (rw [← hi]; done) | (rw [← hi]; rfl))
end Go.Proofs.YtnjjdbapadkomaaGreatDoor
namespace Go.Proofs.YtnjjdbapadkomaaGreatDoor
open Go Go.Abs
def sortW0 : List (List UInt8):=[] :: [] :: sortW
def kindW0 : List (List UInt8):=[] :: kindW
def Keeps {α : Type} (f : PS→α × PS) : Prop:=∀ p : PS,p.bad=true→(f p).2=p
theorem uLN {p : PS} (h : p.bad=true) : p.off=p:=by cases p; simp [PS.off] at h ⊢; exact h
theorem uEQ {l : List Tk} {p : PS} {c : List UInt8} (h : p.bad=true) : symQ l p c=false:=by simp [symQ,h]
theorem uMk {l : List Tk} {p : PS} {ws : List (List UInt8)} (h : p.bad=true) : namQ l p ws=false:=by simp [namQ,h]
theorem uCs (l : List Tk) (c : List UInt8) {p : PS} (h : p.bad=true) : uA8 l c p=p:=by rw [uA8,uEQ h]; exact uLN h
theorem uCd (l : List Tk) (ws : List (List UInt8)) : Keeps (uAz l ws):=fun p h=>by rw [uAz,uMk h]; exact uLN h
theorem uMR {α : Type} {l : List Tk} {f : PS→α × PS} {p : PS} {out : List α} (n : Nat) (h : p.bad=true) : uBL l f n p out=(out,p):=uCW (uEQ h) n
theorem uEA {α : Type} {l : List Tk} {f : PS→α × PS} (hf : Keeps f) : Keeps (uBi l f):=fun p h=>by
 unfold uBi; rw [hf p h,uMR _ h]
theorem uEx (l : List Tk) (n : Nat) : Keeps (uAU l n):=fun p h=>by
 cases n with
 | zero=>rfl
 | succ n=>rw [uAU,if_neg (by rw [uEQ h]; simp),uCd l [] p h,if_neg (by rw [uEQ h]; simp)]
theorem Keeps.good {α : Type} {f : PS→α × PS} (hf : Keeps f) {p : PS} (h : (f p).2.bad=false) : p.bad=false:=by
 cases hb : p.bad with
 | false=>rfl
 | true=>rw [hf p hb,hb] at h; exact h
theorem uKQ {l : List Tk} {c : List UInt8} {p : PS} (h : (uA8 l c p).bad=false) : p.bad=false:=by
 cases hb : p.bad with
 | false=>rfl
 | true=>rw [uCs l c hb,hb] at h; exact h
theorem uM1 {l : List Tk} {ws : List (List UInt8)} {p : PS} (h : (uAz l ws p).2.bad=false) : namQ l p ws=true:=by
 cases hq : namQ l p ws with
 | true=>rfl
 | false=>rw [uAz,hq] at h; simp [PS.off] at h
theorem uKP {l : List Tk} {role : List UInt8} {p : PS} {out : List Fs} (h : p.bad=true) : ∀ n,uBD l role n p out=(out,p)
 | 0=>rfl
 | n + 1=>by rw [uBD,if_pos h]
theorem uIY (l : List Tk) (out : List Fs) : Keeps (fun p=>uBK l p out):=fun p h=>by
 show (uBD _ _ _ _ _).2=p
 rw [uCd l [] p h,uCs l [58] h,uKP h]
theorem uJF (l : List Tk) (line : Int) : Keeps (uCm l line):=fun p h=>by
 show (uAU _ _ _).2=p
 rw [uCd l [] p h,uCs l _ h,uCs l _ h,uCd l [] p h,uCs l _ h,uEx l _ p h]
theorem uKu (l : List Tk) (line : Int) : Keeps (uB4 l line):=fun p h=>by
 show (uBi _ _ _).2=p
 rw [uCd l kindW p h,uCd l [] p h]
 split
 ·rw [uCd l [] p h,uCs l _ h,uEA (uEx l _) p h]
 ·rw [uCs l _ h,uEA (uEx l _) p h]
theorem uFx (l : List Tk) : Keeps (uBH l):=uEA (uCd l [])
theorem uJP (l : List Tk) (n : Nar) (line : Int) (w : List UInt8) : Keeps (uBB l n line w):=fun p h=>by
 unfold uBB
 repeat' split
 ·exact uFx l p h
 ·exact uIY l n.fresh p h
 ·exact uFx l p h
 ·exact uJF l line p h
 ·exact uKu l line p h
 ·rfl
theorem uIm (l : List Tk) (role : List UInt8) : ∀ (n : Nat) (p : PS) (out : List Fs),p.at'≤(uBD l role n p out).2.at'∧(p.at'≤l.length→(uBD l role n p out).2.at'≤l.length)
 | 0,p,out=>by simp [uBD]
 | n + 1,p,out=>by
  have h1:=uA7 l [] p
  have h2:=uA7 l sortW (uAz l [] p).2
  rw [uBD]
  split
  ·simp
  split
  ·rename_i hq
   have h3:=(uCz hq).1
   have hg : (uAz l sortW (uAz l [] p).2).2.go.at'=(uAz l sortW (uAz l [] p).2).2.at' + 1:=rfl
   have h4:=uIm l role n (uAz l sortW (uAz l [] p).2).2.go (out++[⟨role,(uAz l [] p).1,2 + uBy sortW (uAz l sortW (uAz l [] p).2).1⟩])
   omega
  ·dsimp only; omega
def Fwd {α : Type} (l : List Tk) (f : PS→α × PS) : Prop:=∀ p : PS,p.at'≤(f p).2.at'∧(p.at'≤l.length→(f p).2.at'≤l.length)
theorem uIQ (l : List Tk) (out : List Fs) : Fwd l (fun p=>uBK l p out):=fun p=>by
 have h1:=uA7 l [] p
 have h2:=uBt l [58] (uAz l [] p).2
 have h3:=uIm l (uAz l [] p).1 (l.length + 1) (uA8 l [58] (uAz l [] p).2) out
 show p.at'≤(uBD _ _ _ _ _).2.at'∧(_→(uBD _ _ _ _ _).2.at'≤_)
 omega
theorem uGX (l : List Tk) (line : Int) : Fwd l (uCm l line):=fun p=>by
 have h1:=uA7 l [] p
 have h2:=uBt l [45] (uAz l [] p).2
 have h3:=uBt l [62] (uA8 l [45] (uAz l [] p).2)
 have h4:=uA7 l [] (uA8 l [62] (uA8 l [45] (uAz l [] p).2))
 have h5:=uBt l [58] (uAz l [] (uA8 l [62] (uA8 l [45] (uAz l [] p).2))).2
 have h6:=uCC l (l.length + 1) (uA8 l [58] (uAz l [] (uA8 l [62] (uA8 l [45] (uAz l [] p).2))).2)
 show p.at'≤(uAU _ _ _).2.at'∧(_→(uAU _ _ _).2.at'≤_)
 omega
theorem uHX (l : List Tk) (line : Int) : Fwd l (uB4 l line):=fun p=>by
 have h1:=uA7 l kindW p
 have h2:=uA7 l [] (uAz l kindW p).2
 have h3 : (uAz l [] (uAz l kindW p).2).2.at'≤(if uBo (1 + uBy kindW (uAz l kindW p).1)=true then uAz l [] (uAz l [] (uAz l kindW p).2).2 else ([],(uAz l [] (uAz l kindW p).2).2)).2.at'∧((uAz l [] (uAz l kindW p).2).2.at'≤l.length→(if uBo (1 + uBy kindW (uAz l kindW p).1)=true then uAz l [] (uAz l [] (uAz l kindW p).2).2 else ([],(uAz l [] (uAz l kindW p).2).2)).2.at'≤l.length):=by
  split
  ·exact uA7 l [] _
  ·simp
 have h4:=uBt l [58] (if uBo (1 + uBy kindW (uAz l kindW p).1)=true then uAz l [] (uAz l [] (uAz l kindW p).2).2 else ([],(uAz l [] (uAz l kindW p).2).2)).2
 have h5:=uC4 (uCC l (l.length + 1)) (uA8 l [58] (if uBo (1 + uBy kindW (uAz l kindW p).1)=true then uAz l [] (uAz l [] (uAz l kindW p).2).2 else ([],(uAz l [] (uAz l kindW p).2).2)).2)
 show p.at'≤(uBi _ _ _).2.at'∧(_→(uBi _ _ _).2.at'≤_)
 omega
theorem uGW (l : List Tk) (n : Nar) (line : Int) (w : List UInt8) : Fwd l (uBB l n line w):=fun p=>by
 unfold uBB
 repeat' split
 ·exact uC4 (uA7 l []) p
 ·exact uIQ l n.fresh p
 ·exact uC4 (uA7 l []) p
 ·exact uGX l line p
 ·exact uHX l line p
 ·exact ⟨Nat.le_refl _,fun h=>h⟩
theorem uNV (l : List Tk) (n : Nar) (p : PS) (hp : p.at'≤l.length) : (uBU l n p).2.at'≤l.length∧((uBU l n p).2.bad=false→p.at' < (uBU l n p).2.at'):=by
 have h1:=uA7 l uBO p
 have h2:=uGW l n (uCt l p) (uAz l uBO p).1 (uAz l uBO p).2
 have h3:=uBt l [59] (uBB l n (uCt l p) (uAz l uBO p).1 (uAz l uBO p).2).2
 have e : (uBU l n p).2=uA8 l [59] (uBB l n (uCt l p) (uAz l uBO p).1 (uAz l uBO p).2).2:=rfl
 rw [e]
 refine ⟨by omega,fun hb=>?_⟩
 have hq:=uM1 ((uJP l n _ _).good (uKQ hb))
 have : (uAz l uBO p).2.at'=p.at' + 1:=by rw [uAz,if_pos hq]; rfl
 omega
end Go.Proofs.YtnjjdbapadkomaaGreatDoor
namespace Go.Proofs.YtnjjdbapadkomaaGreatDoor
open Go Go.Abs
structure GoodTk (N : Nat) (t : Tk) : Prop where
 form : (t.kind=1∧t.int=0∧t.str=[]∧uBe ((t.text.getD 0 0).toNat : Int)=true∧nlE t.text=t.text.length∧t.text≠[]∧t.text.length≤24) ∨
  (t.kind=2∧t.text=[]∧t.str=[]∧0≤t.int∧t.int≤9223372036854775807)∨(t.kind=3∧t.text=[]∧t.int=0) ∨
  (t.kind=4∧t.int=0∧t.str=[] ∧ ∃ c,t.text=[c]∧symB c=true)
 s : t.str.length≤N
theorem uO4 {c : UInt8} (h : symB c=true) : uBe (c.toNat : Int)≠true∧uBu (c.toNat : Int)≠true∧c.toNat≠34∧c.toNat≠35∧c.toNat≠10∧uCu c=false:=by
 have hm : c ∈ syms:=by simpa [symB] using h
 simp only [syms,List.mem_cons,List.not_mem_nil,or_false] at hm
 rcases hm with rfl | rfl | rfl | rfl | rfl | rfl | rfl | rfl | rfl | rfl | rfl | rfl | rfl | rfl | rfl | rfl | rfl | rfl <;> decide
theorem GoodTk.onl {N : Nat} {t : Tk} (h : GoodTk N t) (k : Int) : GoodTk N (t.onl k):=⟨h.form,h.s⟩
theorem GoodTk.mono {N M : Nat} {t : Tk} (h : GoodTk N t) (hm : N≤M) : GoodTk M t:=⟨h.form,Nat.le_trans h.s hm⟩
theorem lineP_len' : ∀ (n : Nat) (l : List UInt8) (k : Int) (out : List Tk),(uBk n l k out).1.length≤out.length + l.length
 | 0,l,k,out=>by simp [uBk]
 | n + 1,l,k,out=>by
  have h1:=uF3 l
  rw [uBk]
  split
  ·simp
  ·rename_i hq
   have hne : 0 < (uBn l).length:=List.length_pos_iff.2 fun h=>hq (.inl h)
   split
   ·simp
   ·rename_i he
    have h2:=uFG hne
    have h3:=h2.2 (Decidable.not_not.1 he)
    have ih:=lineP_len' n ((uBn l).drop (uBE (uBn l)).2.1) k (out++[(uBE (uBn l)).1.onl k])
    simp only [List.length_drop,List.length_append,List.length_singleton] at ih
    omega
def sumL (L : List (List UInt8)) : Nat:=(L.map List.length).sum
theorem uLD : ∀ (s : List UInt8),sumL (spl s)≤s.length
 | []=>by simp [sumL,spl]
 | b :: l=>by
  have ih:=uLD l
  rw [spl]
  split
  ·simp only [sumL,List.map_cons,List.sum_cons,List.length_nil,List.length_cons] at ih ⊢; omega
  ·split
   ·simp [sumL]
   ·rename_i h; rw [h] at ih
    simp only [sumL,List.map_cons,List.sum_cons,List.length_cons] at ih ⊢; omega
def Apart (r : List UInt8) : Prop:=r=[]∨uCu (r.getD 0 0)=true
end Go.Proofs.YtnjjdbapadkomaaGreatDoor
namespace Go.Proofs.YtnjjdbapadkomaaGreatDoor
open Go Go.Abs
def TT (s : List UInt8) (k : Nat) (out : List Tk) : List Tk × Nat × Int:=uCF (spl s) k out
theorem uHI {l : List UInt8} (h : ∀ b ∈ l,b.toNat≠10) {n m : Nat} (k : Int) (out : List Tk) (hn : l.length < n) (hm : l.length < m) : uBk n l k out=uBk m l k out:=by
 rw [← uDg l.length l (Nat.le_refl _) h n ((uA9 l).length + 1) k out hn (by omega),← uDg l.length l (Nat.le_refl _) h m ((uA9 l).length + 1) k out hm (by omega)]
theorem uGY {b : UInt8} {l x : List UInt8} {r : List (List UInt8)} (hb : b.toNat≠10) (h : spl l=x :: r) : spl (b :: l)=(b :: x) :: r:=by
 rw [spl,if_neg hb,h]
theorem uNQ {b : UInt8} {l : List UInt8} (hb : b.toNat=10) : spl (b :: l)=[] :: spl l:=by rw [spl,if_pos hb]
theorem uLK : ∀ (w : List UInt8) {l x : List UInt8} {r : List (List UInt8)},(∀ b ∈ w,b.toNat≠10)→spl l=x :: r→spl (w++l)=(w++x) :: r
 | [],_,_,_,_,h=>h
 | b :: w,l,x,r,hw,h=>uGY (hw b (by simp)) (uLK w (fun c hc=>hw c (by simp [hc])) h)
theorem uFH (s : List UInt8) : ∃ x r,spl s=x :: r:=by
 cases h : spl s with
 | nil=>exact absurd h (uHY s)
 | cons x r=>exact ⟨x,r,rfl⟩
theorem uLo {n : Nat} {l l' : List UInt8} {k : Int} {out : List Tk} (h : uBn l=uBn l') : uBk (n + 1) l k out=uBk (n + 1) l' k out:=by simp only [uBk,h]
theorem uON {s : List UInt8} (h : s.length≤65536) : tokP s=TT s 1 []:=by
 unfold tokP TT
 rw [if_neg (by omega)]
theorem uG7 {l l' : List UInt8} {L : List (List UInt8)} {k : Nat} {out out' : List Tk} (h : uBk (l.length + 1) l (k : Int) out=uBk (l'.length + 1) l' (k : Int) out') : uCF (l :: L) k out=uCF (l' :: L) k out':=by
 rw [uCF,uCF,h]
theorem uN2 {w : UInt8} (hw : w.toNat=32∨w.toNat=9∨w.toNat=13) (r : List UInt8) (k : Nat) (out : List Tk) : TT (w :: r) k out=TT r k out:=by
 obtain ⟨x,xs',h⟩:=uFH r
 have hin : wsp.contains w=true:=by
  rcases hw with q | q | q
  ·rw [show w=32 from UInt8.toNat_inj.1 q]; rfl
  ·rw [show w=9 from UInt8.toNat_inj.1 q]; rfl
  ·rw [show w=13 from UInt8.toNat_inj.1 q]; rfl
 have ht : uBn (w :: x)=uBn x:=by unfold uBn; rw [List.dropWhile_cons,if_pos hin]
 have hno : ∀ b ∈ x,b.toNat≠10:=uFs r x (by rw [h]; simp)
 unfold TT
 rw [uGY (by omega) h,h]
 refine uG7 ?_
 rw [← uHI hno (n:=x.length + 1 + 1) (m:=x.length + 1) _ _ (by omega) (by omega)]
 exact uLo ht
theorem uPx {b : UInt8} (hb : b.toNat=10) (r : List UInt8) (k : Nat) (out : List Tk) : TT (b :: r) k out=TT r (k + 1) out:=by
 unfold TT
 rw [uNQ hb,uCF,uGe,if_neg (by simp)]
theorem uPh (k : Nat) (out : List Tk) : TT [] k out=(out,0,0):=by
 unfold TT
 rw [spl,uCF,uGe,if_neg (by simp)]; rfl
theorem uGw : ∀ (L : List (List UInt8)) (k : Nat) (out : List Tk),(uCF L k out).1.length≤out.length + sumL L
 | [],k,out=>by simp [uCF]
 | l :: L,k,out=>by
  rw [uCF]
  split
  ·simp
  ·have h1:=lineP_len' (l.length + 1) l (k : Nat) out
   have ih:=uGw L (k + 1) (uBk (l.length + 1) l (k : Nat) out).1
   simp only [sumL,List.map_cons,List.sum_cons] at ih ⊢
   omega
theorem uHu (s : List UInt8) : (tokP s).1.length≤s.length:=by
 unfold tokP
 split
 ·simp
 ·have h1:=uGw (spl s) 1 []
  have h2:=uLD s
  simp only [List.length_nil] at h1
  omega
end Go.Proofs.YtnjjdbapadkomaaGreatDoor
namespace Go.Proofs.YtnjjdbapadkomaaGreatDoor
open Go Go.Abs
def nmT (w : List UInt8) : Tk:=⟨1,w,0,[],0⟩
def syT (c : UInt8) : Tk:=⟨4,[c],0,[],0⟩
def uBg : List (List Tk)→List Tk
 | []=>[]
 | x :: r=>x++(r.map fun y=>syT 44 :: y).flatten
def Apt (r : List UInt8) : Prop:=r=[]∨uBT ((r.getD 0 0).toNat : Int)≠true
theorem uLW : ∀ (l r : List UInt8),nmP l=l.length→Apt r→nmP (l++r)=l.length
 | [],r,_,hr=>by
  rcases hr with h | h
  ·subst h; rfl
  ·cases r with
   | nil=>rfl
   | cons c r =>
    rw [List.getD_cons_zero] at h
    show nmP (c :: r)=0
    rw [nmP,if_neg (fun q=>h q.1)]
 | b :: l,r,h,hr=>by
  rw [nmP] at h
  split at h
  ·rename_i hq
   have ih:=uLW l r (by simpa using h) hr
   show nmP (b :: (l++r))=_
   rw [nmP,if_pos,ih]; rfl
   refine ⟨hq.1,fun q=>?_⟩
   cases l with
   | cons d l=>exact hq.2 q
   | nil =>
    obtain ⟨q1,q2⟩:=q
    rcases hr with z | z
    ·subst z; simp at q2
    ·rw [List.nil_append] at q2
     rw [q2] at z
     exact z (by decide)
  ·simp at h
theorem uOA {l r : List UInt8} (h : nlE l=l.length) (hl : l≠[]) (hr : Apt r) : nlE (l++r)=l.length:=by
 cases l with
 | nil=>exact absurd rfl hl
 | cons c l =>
  have h1 : nmP l=l.length:=by simp [nlE] at h; omega
  have h2:=uLW l r h1 hr
  simp [nlE,h2]; omega
theorem uOh {r x : List UInt8} {xs' : List (List UInt8)} (hr : Apt r) (h : spl r=x :: xs') : Apt x:=by
 rcases hr with q | q
 ·subst q
  simp only [spl,List.cons.injEq] at h
  exact .inl h.1.symm
 ·cases r with
  | nil=>simp only [spl,List.cons.injEq] at h; exact .inl h.1.symm
  | cons c r =>
   rw [List.getD_cons_zero] at q
   by_cases hc : c.toNat=10
   ·rw [uNQ hc] at h
    simp only [List.cons.injEq] at h
    exact .inl h.1.symm
   ·obtain ⟨y,ys,hy⟩:=uFH r
    rw [uGY hc hy] at h
    simp only [List.cons.injEq] at h
    rw [← h.1]
    exact .inr q
theorem uLV {w r x : List UInt8} {xs' : List (List UInt8)} {t : Tk} {c : UInt8} {l : List UInt8} (h : spl r=x :: xs') (e1 : uBE (w++x)=(t.onl 0,w.length,0)) (e2 : w=c :: l) (e3 : uCu c=false) (e4 : c.toNat≠35)
  (hw : ∀ b ∈ w,b.toNat≠10) (k : Nat) (out : List Tk) : TT (w++r) k out=TT r k (out++[t.onl k]):=by
 have hno:=uFs r x (by rw [h]; simp)
 have hin : ¬wsp.contains c=true:=by
  intro q
  have : c=32∨c=9∨c=13:=by simpa [wsp] using q
  rcases this with rfl | rfl | rfl <;> simp [uCu] at e3
 have ht2 : uBn (w++x)=w++x:=by
  rw [e2]
  unfold uBn
  show List.dropWhile _ (c :: (l++x))=_
  rw [List.dropWhile_cons,if_neg hin]; rfl
 have hcut : ¬(w++x=[]∨[35,35].isPrefixOf (w++x)=true):=by
  rw [e2]
  rintro (q | q)
  ·cases q
  ·have q : ([35,35] : List UInt8).isPrefixOf (c :: (l++x))=true:=q
   rw [uLy] at q
   simp only [Bool.and_eq_true,decide_eq_true_eq] at q
   exact e4 q.1
 unfold TT
 rw [uLK w hw h,h]
 refine uG7 ?_
 rw [uBk,ht2,if_neg hcut,e1,if_neg (by simp)]
 dsimp only
 rw [List.drop_left' rfl]
 refine uHI hno _ _ ?_ (by omega)
 rw [List.length_append,e2]; simp only [List.length_cons]; omega
theorem uHJ {w : List UInt8} (h : uAI w=true) : w≠[]∧uBe ((w.getD 0 0).toNat : Int)=true∧nlE w=w.length∧w.length≤24:=by
 simp only [uAI,Bool.and_eq_true,decide_eq_true_eq] at h
 exact ⟨h.1.1.1,h.1.1.2,h.1.2,h.2⟩
theorem uLC {w : List UInt8} (h : uAI w=true) : ∀ b ∈ w,b.toNat≠10:=by
 obtain ⟨h1,h2,h3,_⟩:=uHJ h
 cases w with
 | nil=>exact absurd rfl h1
 | cons c r =>
  rw [List.getD_cons_zero] at h2
  intro b hb
  rcases List.mem_cons.1 hb with q | q
  ·subst q; intro z; rw [z] at h2; revert h2; decide
  ·have := uIU r (by unfold nlE at h3; simp at h3; omega)
   exact uFR (by have := List.all_eq_true.1 this b q; exact this)
theorem uOq {w : List UInt8} (hn : uAI w=true) {r : List UInt8} (hr : Apt r) (k : Nat) (out : List Tk) : TT (w++r) k out=TT r k (out++[(nmT w).onl k]):=by
 obtain ⟨x,xs',h⟩:=uFH r
 obtain ⟨h1,h2,h3,h4⟩:=uHJ hn
 obtain ⟨c,l,rfl⟩ : ∃ c l,w=c :: l:=by
  cases w with
  | nil=>exact absurd rfl h1
  | cons c l=>exact ⟨c,l,rfl⟩
 rw [List.getD_cons_zero] at h2
 refine uLV h ?_ rfl ?_ ?_ (uLC hn) k out
 ·have e1:=uOA h3 h1 (uOh hr h)
  unfold uBE
  have e2 : ((c :: l)++x).getD 0 0=c:=rfl
  rw [e2,if_pos h2,e1,if_neg (by omega),List.take_left' rfl]; rfl
 ·rw [Bool.eq_false_iff]; intro q
  have : c.toNat=32∨c.toNat=9∨c.toNat=10∨c.toNat=13:=by simp [uCu] at q; omega
  rcases this with q | q | q | q <;> rw [q] at h2 <;> revert h2 <;> decide
 ·intro q; rw [q] at h2; revert h2; decide
theorem uPr {c : UInt8} (hc : symB c=true) (r : List UInt8) (k : Nat) (out : List Tk) : TT (c :: r) k out=TT r k (out++[(syT c).onl k]):=by
 obtain ⟨x,xs',h⟩:=uFH r
 obtain ⟨s1,s2,s3,s4,s5,s6⟩:=uO4 hc
 refine uLV (w:=[c]) h ?_ rfl s6 s4 (by simpa using s5) k out
 unfold uBE
 have e2 : ([c]++x).getD 0 0=c:=rfl
 rw [e2,if_neg s1,if_neg s2,if_neg s3,if_pos hc]; rfl
def Toks (b : Bool) (s : List UInt8) (ts : List Tk) : Prop:=∀ (r : List UInt8) (k : Nat) (out : List Tk),b=true∨Apt r → ∃ d l',l'.map (·.nl false)=ts∧TT (s++r) k out=TT r (k + d) (out++l')
def Fr (s : List UInt8) : Prop:=s≠[]∧uBT ((s.getD 0 0).toNat : Int)≠true
theorem Fr.apt {s : List UInt8} (h : Fr s) (r : List UInt8) : Apt (s++r):=by
 cases s with
 | nil=>exact absurd rfl h.1
 | cons c s=>exact .inr h.2
theorem Toks.nil : Toks true [] []:=fun r k out _=>⟨0,[],rfl,by simp⟩
theorem Toks.weak {b : Bool} {s : List UInt8} {ts : List Tk} (h : Toks true s ts) : Toks b s ts:=fun r k out _=>h r k out (.inl rfl)
theorem Toks.app {b b' : Bool} {s s' : List UInt8} {ts ts' : List Tk} (h : Toks b s ts) (h' : Toks b' s' ts') (hb : b=true∨Fr s') : Toks b' (s++s') (ts++ts'):=fun r k out hr=>by
 obtain ⟨d,l1,e1,e2⟩:=h (s'++r) k out (hb.elim .inl fun q=>.inr (q.apt r))
 obtain ⟨d',l2,e3,e4⟩:=h' r (k + d) (out++l1) hr
 exact ⟨d + d',l1++l2,by rw [List.map_append,e1,e3],by rw [List.append_assoc,e2,e4,List.append_assoc,Nat.add_assoc]⟩
theorem Toks.name {w : List UInt8} (h : uAI w=true) : Toks false w [nmT w]:=fun r k out hr=>⟨0,[(nmT w).onl k],rfl,uOq h (hr.resolve_left (by simp)) k out⟩
theorem Toks.sym {c : UInt8} (h : symB c=true) : Toks true [c] [syT c]:=fun r k out _=>⟨0,[(syT c).onl k],rfl,uPr h r k out⟩
theorem Toks.sp : Toks true [32] []:=fun r k out _=>⟨0,[],rfl,by rw [List.append_nil]; exact uN2 (.inl rfl) r k out⟩
theorem Toks.nl : Toks true [10] []:=fun r k out _=>⟨1,[],rfl,by rw [List.append_nil]; exact uPx rfl r k out⟩
theorem Toks.end' {b : Bool} {s : List UInt8} {ts : List Tk} (h : Toks b s ts) (hs : s.length≤65536) : (tokP s).2=(0,0)∧(tokP s).1.map (·.nl false)=ts:=by
 obtain ⟨d,l',e1,e2⟩:=h [] 1 [] (.inr (.inl rfl))
 rw [List.append_nil,uPh] at e2
 rw [uON hs,e2]
 exact ⟨rfl,e1⟩
theorem Toks.join {α : Type} {f : α→List UInt8} {g : α→List Tk} : ∀ {l : List α},(∀ x ∈ l,Toks false (f x) (g x))→Toks false (Lib.join (l.map f) [44,32]) (uBg (l.map g))
 | [],_=>Toks.nil.weak
 | x :: l,h=>by
  have tail : ∀ {l : List α},(∀ x ∈ l,Toks false (f x) (g x))→Toks false (Lib.joinTail [44,32] (l.map f)) ((l.map g).map fun y=>syT 44 :: y).flatten∧(l=[]∨Fr (Lib.joinTail [44,32] (l.map f))):=by
   intro l
   induction l with
   | nil=>exact fun _=>⟨Toks.nil.weak, .inl rfl⟩
   | cons y l ih =>
    intro h
    have e : Lib.joinTail [44,32] ((y :: l).map f)=([44]++[32])++(f y++Lib.joinTail [44,32] (l.map f)):=by simp [Lib.joinTail]
    have e2 : (((y :: l).map g).map fun y=>syT 44 :: y).flatten=([syT 44]++[])++(g y++((l.map g).map fun y=>syT 44 :: y).flatten):=by simp
    obtain ⟨i1,i2⟩:=ih fun z hz=>h z (by simp [hz])
    rw [e,e2]
    refine ⟨((Toks.sym (by decide)).app Toks.sp (.inl rfl)).app ?_ (.inl rfl), .inr ⟨by simp,by simp; decide⟩⟩
    rcases i2 with q | q
    ·subst q
     simp only [List.map_nil,List.flatten_nil,List.append_nil,Lib.joinTail,List.flatMap_nil]
     exact h y (by simp)
    ·exact (h y (by simp)).app i1 (.inr q)
  rw [List.map_cons,List.map_cons,Lib.join_cons]
  obtain ⟨i1,i2⟩:=tail (l:=l) fun z hz=>h z (by simp [hz])
  show Toks false _ (g x++_)
  rcases i2 with q | q
  ·subst q
   simp only [List.map_nil,List.flatten_nil,List.append_nil,Lib.joinTail,List.flatMap_nil]
   exact h x (by simp)
  ·exact (h x (by simp)).app i1 (.inr q)
mutual
def gdB : T→Bool
 | .mk k n s ks=>decide (s=0) && uAI n && ((decide (k=2) && ks.isEmpty) || decide (k=3)) && gdBs ks
def gdBs : List T→Bool
 | []=>true
 | t :: ts=>gdB t && gdBs ts
end
theorem uPb (t : T) : gdB t=(decide (t.sort=0) && uAI t.name && ((decide (t.kind=2) && t.kids.isEmpty) || decide (t.kind=3)) && gdBs t.kids):=by cases t; rw [gdB]; rfl
theorem uKp : ∀ {l : List T},gdBs l=true → ∀ x ∈ l,gdB x=true
 | [],_,x,h=>by simp at h
 | y :: l,h,x,hx=>by
  rw [gdBs,Bool.and_eq_true] at h
  rcases List.mem_cons.1 hx with q | q
  ·subst q; exact h.1
  ·exact uKp h.2 x q
theorem uGM {t : T} (h : gdB t=true) : t.sort=0∧uAI t.name=true∧((t.kind=2∧t.kids=[])∨t.kind=3) ∧ ∀ x ∈ t.kids,gdB x=true:=by
 rw [uPb] at h
 simp only [Bool.and_eq_true,Bool.or_eq_true,decide_eq_true_eq,List.isEmpty_iff] at h
 exact ⟨h.1.1.1,h.1.1.2,h.1.2,uKp h.2⟩
theorem uKI : ∀ (n : Nat) {t : T},gdB t=true → ∀ x ∈ untA n t,gdB x=true
 | 0,t,h,x,hx=>by simp [untA] at hx; subst hx; exact h
 | n + 1,t,h,x,hx=>by
  rw [untA] at hx
  split at hx
  ·rename_i hp
   obtain ⟨a,b,hk⟩:=uKc hp
   have hkk:=(uGM h).2.2.2
   rw [hk] at hx hkk
   rcases List.mem_cons.1 hx with q | q
   ·subst q; exact hkk _ (by simp)
   ·exact uKI n (hkk b (by simp)) x q
  ·simp at hx; subst hx; exact h
mutual
theorem uOR : ∀ (t : T),t.nodesE=0→rawE uAI t=0→gdB t=true
 | .mk k n s ks,h1,h2=>by
  rw [T.nodesE] at h1
  rw [rawE] at h2
  rw [gdB]
  split at h1
  ·rename_i hz; exact absurd h1 hz
  ·rename_i hz
   have hz:=Decidable.not_not.1 hz
   split at h2
   ·simp at h2
   ·rename_i hk
    split at h2
    ·simp at h2
    ·rename_i hn
     rw [uNv ks h1 h2]
     unfold uB5 at hz
     split at hz
     ·rename_i hq
      have q1 : (k=1∨k=2)∧0≤s∧s≤5∧ks.length=0∨k=3∧s=0:=hq
      have hn : uAI n=true:=by simpa using hn
      rw [hn]
      simp only [Bool.and_true,Bool.and_eq_true,Bool.or_eq_true,decide_eq_true_eq,List.isEmpty_iff]
      refine ⟨by omega,?_⟩
      rcases q1 with ⟨q,_,_,q2⟩ | ⟨q,_⟩
      ·exact .inl ⟨by omega,List.length_eq_zero_iff.1 q2⟩
      ·exact .inr q
     ·simp at hz
theorem uNv : ∀ (ts : List T),T.nodesEs ts=0→uE2 uAI ts=0→gdBs ts=true
 | [],_,_=>rfl
 | t :: ts,h1,h2=>by
  rw [T.nodesEs] at h1
  rw [uE2] at h2
  rw [gdBs]
  split at h1
  ·rename_i hz; exact absurd h1 hz
  ·rename_i hz
   split at h2
   ·rename_i hy; exact absurd h2 hy
   ·rename_i hy
    rw [uOR t (Decidable.not_not.1 hz) (Decidable.not_not.1 hy),uNv ts h1 h2]; rfl
end
theorem uPn {t : T} (h : uC6 uAI t=0) : gdB t=true:=by
 unfold uC6 at h
 split at h
 ·rename_i hz; exact absurd h hz
 ·rename_i hz
  have hz:=Decidable.not_not.1 hz
  unfold uC8 at hz
  split at hz
  ·rename_i hy; exact absurd hz hy
  ·rename_i hy; exact uOR t (Decidable.not_not.1 hy) h
def tkA : Nat→T→List Tk
 | 0,_=>[]
 | n + 1,t=>if t.kind=2 then [nmT t.name] else if uB6 t=true then [syT 60]++uBg ((untE t).map (tkA n))++[syT 62] else [nmT t.name]++[syT 40]++uBg (t.kids.map (tkA n))++[syT 41]
def tkE (t : T) : List Tk:=tkA t.size t
theorem uFN : ∀ (n m : Nat) (t : T),t.size≤n→t.size≤m→tkA n t=tkA m t
 | 0,_,t,h,_=>by have := t.size_pos; omega
 | _,0,t,_,h=>by have := t.size_pos; omega
 | n + 1,m + 1,t,hn,hm=>by
  rw [tkA,tkA]
  split
  ·rfl
  split
  ·rename_i hp
   have e : (untE t).map (tkA n)=(untE t).map (tkA m):=List.map_congr_left fun x hx=>by
    have := uDD hp hx
    exact uFN n m x (by omega) (by omega)
   rw [e]
  ·have e : t.kids.map (tkA n)=t.kids.map (tkA m):=List.map_congr_left fun x hx=>by
    have := uCB hx
    exact uFN n m x (by omega) (by omega)
   rw [e]
theorem uHy (t : T) : tkE t=if t.kind=2 then [nmT t.name] else if uB6 t=true then [syT 60]++uBg ((untE t).map tkE)++[syT 62] else [nmT t.name]++[syT 40]++uBg (t.kids.map tkE)++[syT 41]:=by
 obtain ⟨m,hm⟩ : ∃ m,t.size=m + 1 := ⟨t.size - 1,by have := t.size_pos; omega⟩
 conv=>lhs; unfold tkE
 rw [hm,tkA]
 split
 ·rfl
 split
 ·rename_i hp
  have e : (untE t).map (tkA m)=(untE t).map tkE:=List.map_congr_left fun x hx=>by
   have := uDD hp hx
   exact uFN m x.size x (by omega) (by omega)
  rw [e]
 ·have e : t.kids.map (tkA m)=t.kids.map tkE:=List.map_congr_left fun x hx=>by
   have := uCB hx
   exact uFN m x.size x (by omega) (by omega)
  rw [e]
theorem fr0 {c : UInt8} (h : uBT (c.toNat : Int)=false) : Fr [c]:=⟨by simp,by simp [h]⟩
theorem uF9 : ∀ (n : Nat) (t : T),t.size≤n→gdB t=true→Toks false (uBF t) (tkE t)
 | 0,t,h,_=>by have := t.size_pos; omega
 | n + 1,t,h,hg=>by
  obtain ⟨g1,g2,g3,g4⟩:=uGM hg
  rw [uFz,uHy]
  split
  ·exact Toks.name g2
  split
  ·rename_i hp
   have hj := Toks.join (f := uBF) (g := tkE) (l := untE t) fun x hx=>uF9 n x (by have := uDD hp hx; omega) (uKI _ hg x hx)
   exact (((Toks.sym (by decide)).app hj (.inl rfl)).app (Toks.sym (by decide)) (.inr (fr0 (by decide)))).weak
  ·have hj := Toks.join (f := uBF) (g := tkE) (l := t.kids) fun x hx=>uF9 n x (by have := uCB hx; omega) (g4 x hx)
   exact ((((Toks.name g2).app (Toks.sym (by decide)) (.inr (fr0 (by decide)))).app hj (.inl rfl)).app (Toks.sym (by decide)) (.inr (fr0 (by decide)))).weak
theorem uKt {t : T} (h : gdB t=true) : Toks false (uBF t) (tkE t):=uF9 t.size t (Nat.le_refl _) h
theorem uMQ {l : List T} (h : ∀ x ∈ l,gdB x=true) : Toks false (uBV l) (uBg (l.map tkE)):=Toks.join fun x hx=>uKt (h x hx)
end Go.Proofs.YtnjjdbapadkomaaGreatDoor
namespace Go.Proofs.YtnjjdbapadkomaaGreatDoor
open Go Go.Abs
def At (l : List Tk) (p : PS) (ts : List Tk) : Prop:=p.bad=false∧p.at'≤l.length∧l.drop p.at'=ts
theorem At.cons {l : List Tk} {p : PS} {t : Tk} {ts : List Tk} (h : At l p (t :: ts)) : p.at' < l.length∧l.getD p.at' tk0=t∧At l p.go ts:=by
 obtain ⟨h1,h2,h3⟩:=h
 have hlt : p.at' < l.length:=by
  rcases Nat.lt_or_ge p.at' l.length with q | q
  ·exact q
  ·rw [List.drop_of_length_le q] at h3; cases h3
 rw [uGU (d:=tk0) hlt] at h3
 simp only [List.cons.injEq] at h3
 exact ⟨hlt,h3.1,h1,hlt,h3.2⟩
theorem At.len {l : List Tk} {p : PS} {ts : List Tk} (h : At l p ts) : ts.length + p.at'=l.length:=by
 obtain ⟨h1,h2,h3⟩:=h
 rw [← h3,List.length_drop]; omega
theorem At.good {l : List Tk} {p : PS} {ts : List Tk} (h : At l p ts) : p.bad=false:=h.1
theorem uDO {l : List Tk} {p : PS} {c : UInt8} {ts : List Tk} (h : At l p (syT c :: ts)) : symQ l p [c]=true:=by
 obtain ⟨h1,h2,h3⟩:=h.cons
 unfold symQ; rw [h.good,h2]; simp [h1,syT]
theorem uDX {l : List Tk} {p : PS} {c : UInt8} {ts : List Tk} (h : At l p ts) (hc : ∀ r,ts≠syT c :: r) (hk : ∀ t ∈ ts,t.int=0∧t.str=[]∧t.line=0) : symQ l p [c]=false:=by
 rw [Bool.eq_false_iff]
 intro q
 simp only [symQ,Bool.and_eq_true,decide_eq_true_eq] at q
 obtain ⟨⟨⟨q1,q2⟩,q3⟩,q4⟩:=q
 cases ts with
 | nil=>have := h.len; simp at this; omega
 | cons t ts =>
  obtain ⟨h1,h2,h3⟩:=h.cons
  rw [h2] at q3 q4
  obtain ⟨k1,k2,k3⟩:=hk t (by simp)
  refine hc ts ?_
  obtain ⟨a,b,c',d,e⟩:=t
  dsimp only at q3 q4 k1 k2 k3
  subst q3 q4 k1 k2 k3
  rfl
def Pln (ts : List Tk) : Prop:=∀ t ∈ ts,t.int=0∧t.str=[]∧t.line=0
theorem Pln.nil : Pln []:=by intro t h; simp at h
theorem Pln.app {a b : List Tk} (h : Pln a) (h' : Pln b) : Pln (a++b):=fun t ht=>(List.mem_append.1 ht).elim (h t) (h' t)
theorem Pln.nm (w : List UInt8) : Pln [nmT w]:=by intro t h; simp at h; subst h; exact ⟨rfl,rfl,rfl⟩
theorem Pln.sy (c : UInt8) : Pln [syT c]:=by intro t h; simp at h; subst h; exact ⟨rfl,rfl,rfl⟩
theorem Pln.cons {t : Tk} {ts : List Tk} (h : Pln [t]) (h' : Pln ts) : Pln (t :: ts):=h.app (a:=[t]) h'
theorem Pln.right {a b : List Tk} (h : Pln (a++b)) : Pln b:=fun t ht=>h t (by simp [ht])
theorem Pln.tail {a : Tk} {b : List Tk} (h : Pln (a :: b)) : Pln b:=fun t ht=>h t (by simp [ht])
theorem needP_at' {l : List Tk} {p : PS} {c : UInt8} {ts : List Tk} (h : At l p (syT c :: ts)) : uA8 l [c] p=p.go∧At l p.go ts:=⟨by rw [uA8,if_pos (uDO h)],h.cons.2.2⟩
theorem uOD {l : List Tk} {p : PS} {w : List UInt8} {ts : List Tk} {ws : List (List UInt8)} (h : At l p (nmT w :: ts)) (hw : ws=[]∨ws.contains w=true) : namQ l p ws=true:=by
 obtain ⟨h1,h2,h3⟩:=h.cons
 simp only [namQ,h.good,h2,Bool.not_false,Bool.true_and,Bool.and_eq_true,Bool.or_eq_true,decide_eq_true_eq]
 exact ⟨⟨h1,rfl⟩,hw.imp id id⟩
theorem nameP_at' {l : List Tk} {p : PS} {w : List UInt8} {ts : List Tk} {ws : List (List UInt8)} (h : At l p (nmT w :: ts)) (hw : ws=[]∨ws.contains w=true) : uAz l ws p=(w,p.go)∧At l p.go ts:=by
 obtain ⟨h1,h2,h3⟩:=h.cons
 exact ⟨by rw [uAz,if_pos (uOD h hw),h2]; rfl,h3⟩
def Stop (ts : List Tk) : Prop:=∀ r,ts≠syT 40 :: r
theorem uHa {c d : UInt8} (h : c≠d) {a b : List Tk} : syT c :: a≠syT d :: b:=by
 intro q; simp only [List.cons.injEq,syT,Tk.mk.injEq] at q; exact h q.1.2.1.1
theorem uJz {w : List UInt8} {d : UInt8} {a b : List Tk} : nmT w :: a≠syT d :: b:=by
 intro q; simp [nmT,syT] at q
theorem uDw {c : UInt8} (h : c≠40) (a : List Tk) : Stop (syT c :: a):=fun r=>uHa h
def uJE {α : Type} (l : List Tk) (f : PS→α × PS) (N : Nat) (x : α) (g : List Tk) : Prop :=
 ∀ (p : PS) (ts : List Tk),At l p (g++ts)→(g++ts).length < N→Stop ts→Pln (g++ts)→(f p).1=x∧At l (f p).2 ts
theorem uHv {α : Type} {l : List Tk} {f : PS→α × PS} {N : Nat} {g : α→List Tk} : ∀ (xs : List α),(∀ x ∈ xs,uJE l f N x (g x)) → ∀ (n : Nat) (p : PS) (ts : List Tk) (out : List α),xs.length≤n →
  At l p ((xs.map fun x=>syT 44 :: g x).flatten++ts)→((xs.map fun x=>syT 44 :: g x).flatten++ts).length < N + 1→(∀ r,ts≠syT 44 :: r)→Stop ts→Pln ((xs.map fun x=>syT 44 :: g x).flatten++ts) →
  (uBL l f n p out).1=out++xs∧At l (uBL l f n p out).2 ts
 | [],_,n,p,ts,out,_,h,_,hc,_,hp=>by
  rw [uCW (uDX h hc hp),List.append_nil]; exact ⟨rfl,h⟩
 | x :: xs,hx,0,p,ts,out,hn,_,_,_,_,_=>by simp at hn
 | x :: xs,hx,n + 1,p,ts,out,hn,h,hN,hc,hs,hp=>by
  have e : ((x :: xs).map fun x=>syT 44 :: g x).flatten++ts=syT 44 :: (g x++((xs.map fun x=>syT 44 :: g x).flatten++ts)):=by simp
  rw [e] at h hN hp
  have hst : Stop ((xs.map fun x=>syT 44 :: g x).flatten++ts):=by
   cases xs with
   | nil=>exact hs
   | cons y ys=>exact uDw (by decide) _
  obtain ⟨r1,r2⟩:=hx x (by simp) p.go _ h.cons.2.2 (by simp only [List.length_cons] at hN; omega) hst hp.tail
  rw [uFE (uDO h)]
  have ih:=uHv xs (fun y hy=>hx y (by simp [hy])) n (f p.go).2 ts (out++[(f p.go).1]) (by simpa using hn) r2 (by simp only [List.length_cons,List.length_append] at hN ⊢; omega) hc hs hp.tail.right
  rw [r1] at ih ⊢
  refine ⟨?_,ih.2⟩
  rw [ih.1]; simp
theorem uD3 {α : Type} {l : List Tk} {f : PS→α × PS} {N : Nat} {g : α→List Tk} {xs : List α} (h0 : xs≠[]) (hx : ∀ x ∈ xs,uJE l f N x (g x)) (hl : xs.length≤l.length) {p : PS} {ts : List Tk}
  (h : At l p (uBg (xs.map g)++ts)) (hN : (uBg (xs.map g)++ts).length < N) (hc : ∀ r,ts≠syT 44 :: r) (hs : Stop ts) (hp : Pln (uBg (xs.map g)++ts)) : (uBi l f p).1=xs∧At l (uBi l f p).2 ts:=by
 cases xs with
 | nil=>exact absurd rfl h0
 | cons x xs =>
  have e : uBg ((x :: xs).map g)++ts=g x++((xs.map fun x=>syT 44 :: g x).flatten++ts):=by simp [uBg,List.map_map,Function.comp_def]
  rw [e] at h hN hp
  have hst : Stop ((xs.map fun x=>syT 44 :: g x).flatten++ts):=by
   cases xs with
   | nil=>exact hs
   | cons y ys=>exact uDw (by decide) _
  obtain ⟨r1,r2⟩:=hx x (by simp) p _ h hN hst hp
  have ih:=uHv xs (fun y hy=>hx y (by simp [hy])) (l.length + 1) (f p).2 ts [(f p).1] (by simp only [List.length_cons] at hl; omega) r2 (by simp only [List.length_append] at hN ⊢; omega) hc hs hp.right
  unfold uBi
  rw [r1] at ih ⊢
  exact ⟨ih.1,ih.2⟩
theorem uLa (l : List Tk) (N : Nat) (w : List UInt8) : uJE l (uAz l []) N w [nmT w]:=fun p ts h _ _ _=>by
 obtain ⟨h1,h2⟩:=nameP_at' (ws:=[]) (h : At l p (nmT w :: ts)) (.inl rfl)
 rw [h1]; exact ⟨rfl,h2⟩
theorem uDR {xs : List (List Tk)} (h : ∀ x ∈ xs,0 < x.length) : xs.length≤(uBg xs).length:=by
 cases xs with
 | nil=>simp [uBg]
 | cons x xs =>
  have h1:=h x (by simp)
  have : ∀ ys : List (List Tk),ys.length≤(ys.map fun y=>syT 44 :: y).flatten.length:=by
   intro ys
   induction ys with
   | nil=>simp
   | cons y ys ih=>simp only [List.map_cons,List.flatten_cons,List.length_append,List.length_cons] at ih ⊢; omega
  have := this xs
  simp only [uBg,List.length_append,List.length_cons] at this ⊢; omega
theorem uDq {xs : List (List Tk)} (h : ∀ x ∈ xs,Pln x) : Pln (uBg xs):=by
 cases xs with
 | nil=>exact Pln.nil
 | cons x xs =>
  refine (h x (by simp)).app ?_
  intro t ht
  obtain ⟨y,hy,hty⟩:=List.mem_flatten.1 ht
  obtain ⟨z,hz,rfl⟩:=List.mem_map.1 hy
  exact ((Pln.sy 44).cons (h z (by simp [hz]))) t hty
theorem uJe : ∀ (t : T),0 < (tkE t).length:=by
 intro t
 rw [uHy]
 repeat' split
 all_goals simp
theorem uFK : ∀ (n : Nat) (t : T),t.size≤n→Pln (tkE t)
 | 0,t,h=>by have := t.size_pos; omega
 | n + 1,t,h=>by
  rw [uHy]
  split
  ·exact Pln.nm _
  split
  ·rename_i hp
   refine ((Pln.sy _).app (uDq fun y hy=>?_)).app (Pln.sy _)
   obtain ⟨x,hx,rfl⟩:=List.mem_map.1 hy
   exact uFK n x (by have := uDD hp hx; omega)
  ·refine (((Pln.nm _).app (Pln.sy _)).app (uDq fun y hy=>?_)).app (Pln.sy _)
   obtain ⟨x,hx,rfl⟩:=List.mem_map.1 hy
   exact uFK n x (by have := uCB hx; omega)
theorem uJW : ∀ (n : Nat) (t : T),t.size≤n→gdB t=true→tupT (untE t)=t
 | 0,t,h,_=>by have := t.size_pos; omega
 | n + 1,t,h,hg=>by
  obtain ⟨g1,g2,g3,g4⟩:=uGM hg
  rw [uDU]
  split
  ·rename_i hp
   have hs:=uCj hp
   obtain ⟨a,b,hk⟩:=uKc hp
   rw [hk] at hs ⊢
   simp only [List.getD_cons_zero,List.getD_cons_succ] at hs ⊢
   have hpa:=a.size_pos
   have hb:=uJW n b (by omega) (g4 b (by rw [hk]; simp))
   have hne : untE b≠[]:=by
    have := (uER b.size b).1
    intro q; unfold untE at q; rw [q] at this; simp at this
   obtain ⟨u,us,hu⟩ : ∃ u us,untE b=u :: us:=by
    cases hz : untE b with
    | nil=>exact absurd hz hne
    | cons u us=>exact ⟨u,us,rfl⟩
   rw [hu] at hb ⊢
   rw [tupT,hb]
   simp only [uB6,Bool.and_eq_true,decide_eq_true_eq] at hp
   obtain ⟨k,nm,s,ks⟩:=t
   have k1 : k=3:=hp.1.1
   have k2 : nm=wPair:=hp.1.2
   have k3 : s=0:=g1
   have k4 : ks=[a,b]:=hk
   subst k1 k2 k3 k4
   rfl
  ·rfl
theorem uD2 (l : List Tk) : ∀ (m : Nat) (t : T),t.size≤m→gdB t=true → ∀ N : Nat,uJE l (uAU l N) N t (tkE t)
 | 0,t,h,_,_=>by have := t.size_pos; omega
 | m + 1,t,h,hg,0=>fun p ts _ hN=>by omega
 | m + 1,t,h,hg,N + 1=>fun p ts hA hN hS hP=>by
  obtain ⟨g1,g2,g3,g4⟩:=uGM hg
  have hpl:=uFK t.size t (Nat.le_refl _)
  have hAl:=hA.len
  rw [uHy] at hA hN hP hAl
  by_cases hk : t.kind=2
  ·rw [if_pos hk] at hA hN hP hAl
   have hA : At l p (nmT t.name :: ts):=hA
   have hq : symQ l p [60]=false:=uDX hA (fun r=>uJz) hP
   obtain ⟨n1,n2⟩:=nameP_at' (ws:=[]) hA (.inl rfl)
   have hq2 : symQ l p.go [40]=false:=uDX n2 hS (Pln.tail hP)
   rw [uAU,hq,if_neg (by simp),n1,if_neg (by rw [hq2]; simp)]
   refine ⟨?_,n2⟩
   obtain ⟨k,nm,s,ks⟩:=t
   have k1 : k=2:=hk
   have k2 : s=0:=g1
   have k3 : ks=[]:=by
    rcases g3 with q | q
    ·exact q.2
    ·exact absurd (show k=3 from q) (by omega)
   subst k1 k2 k3
   rfl
  ·rw [if_neg hk] at hA hN hP hAl
   have hk3 : t.kind=3:=by
    rcases g3 with q | q
    ·exact absurd q.1 hk
    ·exact q
   by_cases hp : uB6 t=true
   ·rw [if_pos hp] at hA hN hP hAl
    obtain ⟨a,b,hkk⟩:=uKc hp
    have hu:=uDU t
    rw [if_pos hp,hkk] at hu
    simp only [List.getD_cons_zero,List.getD_cons_succ] at hu
    obtain ⟨u,us,hb⟩ : ∃ u us,untE b=u :: us:=by
     cases hz : untE b with
     | nil=>have := (uER b.size b).1; unfold untE at hz; rw [hz] at this; simp at this
     | cons u us=>exact ⟨u,us,rfl⟩
    have hmem : ∀ x ∈ untE t,uJE l (uAU l N) N x (tkE x) := fun x hx=>uD2 l m x (by have := uDD hp hx; omega) (uKI _ hg x hx) N
    have e1 : [syT 60]++uBg ((untE t).map tkE)++[syT 62]++ts=syT 60 :: (tkE a++(syT 44 :: (uBg ((untE b).map tkE)++(syT 62 :: ts)))):=by
     rw [hu,hb]; simp [uBg]
    rw [e1] at hA hN hP hAl
    have hq:=uDO hA
    obtain ⟨c1,c2,c3⟩:=hA.cons
    obtain ⟨r1,r2⟩:=hmem a (by rw [hu]; simp) p.go _ c3 (by simp only [List.length_cons] at hN ⊢; omega) (uDw (by decide) _) hP.tail
    obtain ⟨m1,m2⟩:=needP_at' r2
    have hlen : (untE b).length≤l.length:=by
     have h1:=uDR (xs:=(untE b).map tkE) (fun x hx=>by obtain ⟨y,_,rfl⟩:=List.mem_map.1 hx; exact uJe y)
     have h2:=m2.len
     rw [List.length_map] at h1
     simp only [List.length_append,List.length_cons] at h2; omega
    obtain ⟨s1,s2⟩:=uD3 (f:=uAU l N) (N:=N) (xs:=untE b) (by rw [hb]; simp) (fun x hx=>hmem x (by rw [hu]; simp [hx])) hlen m2
     (by simp only [List.length_cons,List.length_append] at hN ⊢; omega) (fun r=>uHa (by decide)) (uDw (by decide) _) (Pln.right (a:=tkE a) hP.tail).tail
    obtain ⟨q1,q2⟩:=needP_at' s2
    rw [uAU,if_pos hq,m1,r1,s1,q1]
    refine ⟨?_,q2⟩
    have := uJW t.size t (Nat.le_refl _) hg
    rw [hu] at this
    exact this
   ·rw [if_neg hp] at hA hN hP hAl
    have e1 : [nmT t.name]++[syT 40]++uBg (t.kids.map tkE)++[syT 41]++ts=nmT t.name :: syT 40 :: (uBg (t.kids.map tkE)++(syT 41 :: ts)):=by simp
    rw [e1] at hA hN hP hAl
    have hq : symQ l p [60]=false:=uDX hA (fun r=>uJz) hP
    obtain ⟨n1,n2⟩:=nameP_at' (ws:=[]) hA (.inl rfl)
    have hq2:=uDO n2
    obtain ⟨c1,c2,c3⟩:=n2.cons
    have hTk : ∀ ks,t=⟨t.kind,t.name,t.sort,ks⟩ ↔ t.kids=ks:=by
     intro ks; obtain ⟨k,nm,s,ks'⟩:=t
     show T.mk k nm s ks'=T.mk k nm s ks ↔ ks'=ks
     simp
    rw [uAU,hq,if_neg (by simp),n1,if_pos hq2]
    by_cases hkn : t.kids=[]
    ·rw [hkn] at c3
     have c3 : At l p.go.go (syT 41 :: ts):=c3
     rw [if_pos (uDO c3)]
     refine ⟨?_,c3.cons.2.2⟩
     have := (hTk []).2 hkn
     rw [hk3,g1] at this
     exact this.symm
    ·obtain ⟨x,xs,hx⟩ : ∃ x xs,t.kids=x :: xs:=by
      cases hz : t.kids with
      | nil=>exact absurd hz hkn
      | cons u us=>exact ⟨u,us,rfl⟩
     have hns : symQ l p.go.go [41]=false:=by
      refine uDX c3 (fun r=>?_) (Pln.tail (Pln.tail hP))
      rw [hx]
      intro q
      have e2 : (uBg ((x :: xs).map tkE)++(syT 41 :: ts))=tkE x++(((xs.map tkE).map fun y=>syT 44 :: y).flatten++(syT 41 :: ts)):=by simp [uBg]
      rw [e2,uHy] at q
      split at q
      ·exact uJz q
      split at q
      ·simp only [List.append_assoc] at q; exact uHa (by decide) q
      ·simp only [List.append_assoc] at q; exact uJz q
     have hlen : t.kids.length≤l.length:=by
      have h1:=uDR (xs:=t.kids.map tkE) (fun x hx=>by obtain ⟨y,_,rfl⟩:=List.mem_map.1 hx; exact uJe y)
      have h2:=c3.len
      rw [List.length_map] at h1
      simp only [List.length_append,List.length_cons] at h2; omega
     obtain ⟨s1,s2⟩ := uD3 (f := uAU l N) (N := N) hkn (fun x hx=>uD2 l m x (by have := uCB hx; omega) (g4 x hx) N) hlen c3
      (by simp only [List.length_cons,List.length_append] at hN ⊢; omega) (fun r=>uHa (by decide)) (uDw (by decide) _) (Pln.tail (Pln.tail hP))
     obtain ⟨q1,q2⟩:=needP_at' s2
     rw [hns,if_neg (by simp),s1,q1]
     refine ⟨?_,q2⟩
     have := (hTk t.kids).2 rfl
     rw [hk3,g1] at this
     exact this.symm
end Go.Proofs.YtnjjdbapadkomaaGreatDoor
namespace Go.Proofs.YtnjjdbapadkomaaGreatDoor
open Go Go.Abs
def Sp.el (s : Sp) : Sp:={ s with line:=0 }
def Gl.el (g : Gl) : Gl:={ g with line:=0 }
def Nar.el (n : Nar) : Nar:={ n with steps:=n.steps.map Sp.el,goals:=n.goals.map Gl.el }
inductive Itm where
 | roles (l : List (List UInt8))
 | fresh (role : List UInt8) (l : List (List UInt8 × Int))
 | tags (l : List (List UInt8))
 | step (s : Sp)
 | goal (g : Gl)
def uCn (k : Int) : List UInt8:=sortW.getD (k - 2).toNat []
def uDJ (k : Int) : List UInt8:=kindW.getD (k - 1).toNat []
def fsW (f : List UInt8 × Int) : List UInt8:=f.1++([32]++uCn f.2)
def Itm.text : Itm→List UInt8
 | .roles l=>hRole++(Lib.join l [44,32]++[59])
 | .fresh r l=>hFresh++(r++([58,32]++(Lib.join (l.map fsW) [44,32]++[59])))
 | .tags l=>hTag++(Lib.join l [44,32]++[59])
 | .step s=>hMsg++(s.frm++(arrow++(s.dst++([58,32]++(uBF s.msg++[59])))))
 | .goal g=>hGoal++(uDJ g.kind++([32]++(g.role++((if uBo g.kind=true then [32]++g.wth else [])++([58,32]++(uBV g.data++[59]))))))
def Itm.tk : Itm→List Tk
 | .roles l=>[nmT uEq]++(uBg (l.map fun w=>[nmT w])++[syT 59])
 | .fresh r l=>[nmT uDo]++([nmT r]++([syT 58]++(uBg (l.map fun f=>[nmT f.1,nmT (uCn f.2)])++[syT 59])))
 | .tags l=>[nmT uEw]++(uBg (l.map fun w=>[nmT w])++[syT 59])
 | .step s=>[nmT wMsg]++([nmT s.frm]++([syT 45,syT 62]++([nmT s.dst]++([syT 58]++(tkE s.msg++[syT 59])))))
 | .goal g=>[nmT uEi]++([nmT (uDJ g.kind)]++([nmT g.role]++((if uBo g.kind=true then [nmT g.wth] else [])++([syT 58]++(uBg (g.data.map tkE)++[syT 59])))))
def Itm.ok : Itm→Prop
 | .roles l=>l≠[] ∧ ∀ w ∈ l,uAI w=true
 | .fresh r l=>uAI r=true∧l≠[] ∧ ∀ f ∈ l,uAI f.1=true∧2≤f.2∧f.2≤4
 | .tags l=>l≠[] ∧ ∀ w ∈ l,uAI w=true
 | .step s=>uAI s.frm=true∧uAI s.dst=true∧gdB s.msg=true
 | .goal g=>1≤g.kind∧g.kind≤5∧uAI g.role=true∧(uBo g.kind=true→uAI g.wth=true)∧(uBo g.kind=false→g.wth=[])∧g.data≠[] ∧ ∀ t ∈ g.data,gdB t=true
theorem uNe {k : Int} (h1 : 2≤k) (h2 : k≤4) : uAI (uCn k)=true:=by
 have : k=2∨k=3∨k=4:=by omega
 rcases this with rfl | rfl | rfl <;> decide
theorem uNH {k : Int} (h1 : 1≤k) (h2 : k≤5) : uAI (uDJ k)=true:=by
 have : k=1∨k=2∨k=3∨k=4∨k=5:=by omega
 rcases this with rfl | rfl | rfl | rfl | rfl <;> decide
theorem frS {c : UInt8} {r : List UInt8} (h : uBT (c.toNat : Int)=false) : Fr (c :: r):=⟨by simp,by simp [h]⟩
theorem uDM {w : List UInt8} (h : uAI w=true) : Toks true ([32,32]++(w++[32])) [nmT w] :=
 ((Toks.sp.app Toks.sp (.inl rfl)).app ((Toks.name h).app Toks.sp (.inr (frS (by decide)))) (.inl rfl) : Toks true (([32]++[32])++(w++[32])) (([]++[])++([nmT w]++[])))
theorem uDL : Toks true [59] [syT 59]:=Toks.sym (by decide)
theorem toks_colon : Toks true [58,32] [syT 58]:=((Toks.sym (c:=58) (by decide)).app Toks.sp (.inl rfl) : Toks true ([58]++[32]) ([syT 58]++[]))
theorem uIq {l : List (List UInt8)} (h : ∀ w ∈ l,uAI w=true) : Toks false (Lib.join l [44,32]) (uBg (l.map fun w=>[nmT w])):=by
 have := Toks.join (f := fun w : List UInt8=>w) (g := fun w=>[nmT w]) (l := l) fun w hw=>Toks.name (h w hw)
 rwa [List.map_id'] at this
theorem uL6 : ∀ {i : Itm},i.ok→Toks true i.text i.tk
 | .roles l,⟨_,h⟩=>(uDM (w:=uEq) (by decide)).app ((uIq h).app uDL (.inr (frS (by decide)))) (.inl rfl)
 | .tags l,⟨_,h⟩=>(uDM (w:=uEw) (by decide)).app ((uIq h).app uDL (.inr (frS (by decide)))) (.inl rfl)
 | .fresh r l,⟨h1,_,h2⟩=>by
  refine (uDM (w:=uDo) (by decide)).app ((Toks.name h1).app (toks_colon.app (Toks.app (b:=false) ?_ uDL (.inr (frS (by decide)))) (.inl rfl)) (.inr (frS (by decide)))) (.inl rfl);refine Toks.join fun f hf=>?_
  obtain ⟨q1,q2,q3⟩:=h2 f hf
  exact (Toks.name q1).app (Toks.sp.app (Toks.name (uNe q2 q3)) (.inl rfl)) (.inr (frS (by decide)))
 | .step s,⟨h1,h2,h3⟩=>by
  have ha : Toks true arrow [syT 45,syT 62]:=(Toks.sp.app ((Toks.sym (c:=45) (by decide)).app ((Toks.sym (c:=62) (by decide)).app Toks.sp (.inl rfl)) (.inl rfl)) (.inl rfl) : Toks true ([32]++([45]++([62]++[32]))) ([]++([syT 45]++([syT 62]++[]))))
  exact (uDM (w:=wMsg) (by decide)).app ((Toks.name h1).app (ha.app ((Toks.name h2).app (toks_colon.app ((uKt h3).app uDL (.inr (frS (by decide)))) (.inl rfl)) (.inr (frS (by decide)))) (.inl rfl)) (.inr (frS (by decide)))) (.inl rfl)
 | .goal g,⟨h1,h2,h3,h4,h5,h6,h7⟩=>by
  have hd : Toks true ([58,32]++(uBV g.data++[59])) ([syT 58]++(uBg (g.data.map tkE)++[syT 59])):=toks_colon.app ((uMQ h7).app uDL (.inr (frS (by decide)))) (.inl rfl)
  refine (uDM (w:=uEi) (by decide)).app ((Toks.name (uNH h1 h2)).app (Toks.sp.app ((Toks.name h3).app (b':=true) ?_ (.inr ?_)) (.inl rfl)) (.inr (frS (by decide)))) (.inl rfl)
  ·split
   ·rename_i ha
    exact (Toks.sp.app (Toks.name (h4 ha)) (.inl rfl) : Toks false ([32]++g.wth) ([]++[nmT g.wth])).app hd (.inr (frS (by decide)))
   ·exact hd
  ·split
   ·exact frS (by decide)
   ·exact frS (by decide)
def Itm.rolesOf : Itm→List (List UInt8)
 | .roles l=>l
 | _=>[]
def Itm.freshOf : Itm→List Fs
 | .fresh r l=>l.map fun f=>⟨r,f.1,f.2⟩
 | _=>[]
def Itm.tagsOf : Itm→List (List UInt8)
 | .tags l=>l
 | _=>[]
def Itm.stepsOf : Itm→List Sp
 | .step s=>[s.el]
 | _=>[]
def Itm.goalsOf : Itm→List Gl
 | .goal g=>[g.el]
 | _=>[]
def addI (n : Nar) (i : Itm) : Nar:=⟨n.name,n.roles++i.rolesOf,n.fresh++i.freshOf,n.tags++i.tagsOf,n.steps++i.stepsOf,n.goals++i.goalsOf⟩
theorem uKg : ∀ (L : List Itm) (n : Nar),L.foldl addI n=⟨n.name,n.roles++L.flatMap Itm.rolesOf,n.fresh++L.flatMap Itm.freshOf,n.tags++L.flatMap Itm.tagsOf,n.steps++L.flatMap Itm.stepsOf,n.goals++L.flatMap Itm.goalsOf⟩
 | [],n=>by simp
 | i :: L,n=>by
  rw [List.foldl_cons,uKg L]
  simp only [addI,List.flatMap_cons,List.append_assoc]
theorem uHo {l : List Tk} {xs : List (List UInt8)} (h0 : xs≠[]) {p : PS} {ts : List Tk} (h : At l p (uBg (xs.map fun w=>[nmT w])++(syT 59 :: ts))) (hp : Pln (uBg (xs.map fun w=>[nmT w])++(syT 59 :: ts))) :
  (uBH l p).1=xs∧At l (uBH l p).2 (syT 59 :: ts):=by
 have hl : xs.length≤l.length:=by
  have h1:=uDR (xs:=xs.map fun w=>[nmT w]) (fun x hx=>by obtain ⟨y,_,rfl⟩:=List.mem_map.1 hx; simp)
  have h2:=h.len
  rw [List.length_map] at h1
  simp only [List.length_append,List.length_cons] at h2; omega
 exact uD3 (N := l.length + 1) h0 (fun w _=>uLa l _ w) hl h (by have := h.len; omega) (fun r=>uHa (by decide)) (uDw (by decide) _) hp
theorem uKT {k : Int} (h1 : 2≤k) (h2 : k≤4) : sortW.contains (uCn k)=true∧2 + uBy sortW (uCn k)=k:=by
 have : k=2∨k=3∨k=4:=by omega
 rcases this with rfl | rfl | rfl <;> decide
theorem uK4 {k : Int} (h1 : 1≤k) (h2 : k≤5) : kindW.contains (uDJ k)=true∧1 + uBy kindW (uDJ k)=k:=by
 have : k=1∨k=2∨k=3∨k=4∨k=5:=by omega
 rcases this with rfl | rfl | rfl | rfl | rfl <;> decide
theorem uGV {l : List Tk} {role : List UInt8} {ts : List Tk} : ∀ (xs : List (List UInt8 × Int)) (x : List UInt8 × Int),(∀ f ∈ x :: xs,2≤f.2∧f.2≤4) → ∀ (n : Nat) (p : PS) (out : List Fs),xs.length < n →
  At l p ([nmT x.1,nmT (uCn x.2)]++((xs.map fun f=>syT 44 :: [nmT f.1,nmT (uCn f.2)]).flatten++(syT 59 :: ts)))→Pln ([nmT x.1,nmT (uCn x.2)]++((xs.map fun f=>syT 44 :: [nmT f.1,nmT (uCn f.2)]).flatten++(syT 59 :: ts))) →
  (uBD l role n p out).1=out++(x :: xs).map (fun f=>⟨role,f.1,f.2⟩)∧At l (uBD l role n p out).2 (syT 59 :: ts)
 | xs,x,hx,0,p,out,hn,_,_=>by omega
 | xs,x,hx,n + 1,p,out,hn,h,hp=>by
  obtain ⟨b1,b2⟩:=hx x (by simp)
  obtain ⟨i1,i2⟩:=uKT b1 b2
  obtain ⟨n1,n2⟩:=nameP_at' (ws:=[]) h (.inl rfl)
  obtain ⟨n3,n4⟩:=nameP_at' (ws:=sortW) n2 (.inr i1)
  rw [uBD,if_neg (by rw [h.good]; simp),n1,n3]
  dsimp only
  rw [i2]
  have hp2:=Pln.tail (Pln.tail hp)
  cases xs with
  | nil =>
   have hq : symQ l p.go.go [44]=false:=uDX n4 (fun r=>uHa (by decide)) hp2
   rw [if_neg (by rw [hq]; simp)]
   exact ⟨rfl,n4⟩
  | cons y ys =>
   have e : ((y :: ys).map fun f=>syT 44 :: [nmT f.1,nmT (uCn f.2)]).flatten++(syT 59 :: ts)=syT 44 :: ([nmT y.1,nmT (uCn y.2)]++((ys.map fun f=>syT 44 :: [nmT f.1,nmT (uCn f.2)]).flatten++(syT 59 :: ts))):=by simp
   have n4 : At l p.go.go (((y :: ys).map fun f=>syT 44 :: [nmT f.1,nmT (uCn f.2)]).flatten++(syT 59 :: ts)):=n4
   have hp2 : Pln (((y :: ys).map fun f=>syT 44 :: [nmT f.1,nmT (uCn f.2)]).flatten++(syT 59 :: ts)):=hp2
   rw [e] at n4 hp2
   rw [if_pos (uDO n4)]
   have ih:=uGV (role:=role) ys y (fun f hf=>hx f (by simp at hf ⊢; exact .inr hf)) n p.go.go.go (out++[⟨role,x.1,x.2⟩]) (by simpa using hn) n4.cons.2.2 hp2.tail
   refine ⟨?_,ih.2⟩
   rw [ih.1]; simp
theorem uJ3 {l : List Tk} {p : PS} {ts : List Tk} (h : At l p ts) (hp : Pln ts) : uCt l p=0:=by
 unfold uCt
 split
 ·rename_i hlt
  have h3:=h.2.2
  rw [uGU (d:=tk0) hlt] at h3
  exact (hp (l.getD p.at' tk0) (by rw [← h3]; simp)).2.2
 ·rfl
theorem uL9 {l : List Tk} {i : Itm} (ho : i.ok) {n : Nar} {p : PS} {ts : List Tk} (h : At l p (i.tk++ts)) (hp : Pln (i.tk++ts)) : (uBU l n p).1=addI n i∧At l (uBU l n p).2 ts:=by
 have hline:=uJ3 h hp
 unfold uBU
 rw [hline]
 dsimp only
 cases i with
 | roles xs =>
  have e : (Itm.roles xs).tk++ts=nmT uEq :: (uBg (xs.map fun w=>[nmT w])++(syT 59 :: ts)):=by simp [Itm.tk]
  rw [e] at h hp
  obtain ⟨n1,n2⟩:=nameP_at' (ws:=uBO) h (.inr (by decide))
  obtain ⟨r1,r2⟩:=uHo ho.1 n2 hp.tail
  obtain ⟨q1,q2⟩:=needP_at' r2
  rw [n1]
  dsimp only
  rw [uBB,if_pos rfl,r1,q1]
  refine ⟨?_,q2⟩
  simp [addI,Itm.rolesOf,Itm.freshOf,Itm.tagsOf,Itm.stepsOf,Itm.goalsOf]
 | tags xs =>
  have e : (Itm.tags xs).tk++ts=nmT uEw :: (uBg (xs.map fun w=>[nmT w])++(syT 59 :: ts)):=by simp [Itm.tk]
  rw [e] at h hp
  obtain ⟨n1,n2⟩:=nameP_at' (ws:=uBO) h (.inr (by decide))
  obtain ⟨r1,r2⟩:=uHo ho.1 n2 hp.tail
  obtain ⟨q1,q2⟩:=needP_at' r2
  rw [n1]
  dsimp only
  rw [uBB,if_neg (by decide),if_neg (by decide),if_pos rfl,r1,q1]
  refine ⟨?_,q2⟩
  simp [addI,Itm.rolesOf,Itm.freshOf,Itm.tagsOf,Itm.stepsOf,Itm.goalsOf]
 | fresh r xs =>
  obtain ⟨o1,o2,o3⟩:=ho
  obtain ⟨x,xs',rfl⟩ : ∃ x xs',xs=x :: xs':=by
   cases xs with
   | nil=>exact absurd rfl o2
   | cons x xs'=>exact ⟨x,xs',rfl⟩
  have e : (Itm.fresh r (x :: xs')).tk++ts=nmT uDo :: nmT r :: syT 58 :: ([nmT x.1,nmT (uCn x.2)]++((xs'.map fun f=>syT 44 :: [nmT f.1,nmT (uCn f.2)]).flatten++(syT 59 :: ts))):=by
   simp [Itm.tk,uBg,List.map_map,Function.comp_def]
  rw [e] at h hp
  obtain ⟨n1,n2⟩:=nameP_at' (ws:=uBO) h (.inr (by decide))
  obtain ⟨n3,n4⟩:=nameP_at' (ws:=[]) n2 (.inl rfl)
  obtain ⟨n5,n6⟩:=needP_at' n4
  have hlen : xs'.length < l.length + 1:=by
   have h2:=n6.len
   have : ∀ ys : List (List UInt8 × Int),ys.length≤(ys.map fun f=>syT 44 :: [nmT f.1,nmT (uCn f.2)]).flatten.length:=by
    intro ys
    induction ys with
    | nil=>simp
    | cons y ys ih=>simp only [List.map_cons,List.flatten_cons,List.length_append,List.length_cons] at ih ⊢; omega
   have := this xs'
   simp only [List.length_append,List.length_cons] at h2; omega
  obtain ⟨r1,r2⟩:=uGV (role:=r) xs' x (fun f hf=>(o3 f hf).2) (l.length + 1) p.go.go.go n.fresh hlen n6 hp.tail.tail.tail
  obtain ⟨q1,q2⟩:=needP_at' r2
  rw [n1]
  dsimp only
  rw [uBB,if_neg (by decide),if_pos rfl]
  have ef : uBK l p.go n.fresh=uBD l r (l.length + 1) p.go.go.go n.fresh:=by
   unfold uBK; rw [n3,n5]
  dsimp only
  rw [ef,r1,q1]
  refine ⟨?_,q2⟩
  simp [addI,Itm.rolesOf,Itm.freshOf,Itm.tagsOf,Itm.stepsOf,Itm.goalsOf]
 | step s =>
  obtain ⟨o1,o2,o3⟩:=ho
  have e : (Itm.step s).tk++ts=nmT wMsg :: nmT s.frm :: syT 45 :: syT 62 :: nmT s.dst :: syT 58 :: (tkE s.msg++(syT 59 :: ts)):=by simp [Itm.tk]
  rw [e] at h hp
  obtain ⟨n1,n2⟩:=nameP_at' (ws:=uBO) h (.inr (by decide))
  obtain ⟨n3,n4⟩:=nameP_at' (ws:=[]) n2 (.inl rfl)
  obtain ⟨n5,n6⟩:=needP_at' n4
  obtain ⟨n7,n8⟩:=needP_at' n6
  obtain ⟨n9,n10⟩:=nameP_at' (ws:=[]) n8 (.inl rfl)
  obtain ⟨n11,n12⟩:=needP_at' n10
  obtain ⟨r1,r2⟩ := uD2 l s.msg.size s.msg (Nat.le_refl _) o3 (l.length + 1) _ _ n12 (by have := n12.len; omega) (uDw (by decide) _) hp.tail.tail.tail.tail.tail.tail
  obtain ⟨q1,q2⟩:=needP_at' r2
  rw [n1]
  dsimp only
  rw [uBB,if_neg (by decide),if_neg (by decide),if_neg (by decide),if_pos rfl]
  have es : uCm l 0 p.go=(⟨s.frm,s.dst,s.msg,0⟩,(uAU l (l.length + 1) p.go.go.go.go.go.go).2):=by
   unfold uCm; dsimp only; rw [n3,n5,n7,n9,n11,r1]
  dsimp only
  rw [es,q1]
  refine ⟨?_,q2⟩
  simp [addI,Itm.rolesOf,Itm.freshOf,Itm.tagsOf,Itm.stepsOf,Itm.goalsOf,Sp.el]
 | goal g =>
  obtain ⟨o1,o2,o3,o4,o5,o6,o7⟩:=ho
  have e : (Itm.goal g).tk++ts=nmT uEi :: nmT (uDJ g.kind) :: nmT g.role :: ((if uBo g.kind=true then [nmT g.wth] else [])++syT 58 :: (uBg (g.data.map tkE)++(syT 59 :: ts))):=by simp [Itm.tk]
  rw [e] at h hp
  obtain ⟨i1,i2⟩:=uK4 o1 o2
  obtain ⟨n1,n2⟩:=nameP_at' (ws:=uBO) h (.inr (by decide))
  obtain ⟨n3,n4⟩:=nameP_at' (ws:=kindW) n2 (.inr i1)
  obtain ⟨n5,n6⟩:=nameP_at' (ws:=[]) n4 (.inl rfl)
  obtain ⟨w,hw,n8⟩ : ∃ w,(if uBo g.kind=true then uAz l [] p.go.go.go else ([],p.go.go.go))=(g.wth,w)∧At l w (syT 58 :: (uBg (g.data.map tkE)++(syT 59 :: ts))):=by
   by_cases ha : uBo g.kind=true
   ·rw [if_pos ha] at n6 ⊢
    obtain ⟨x1,x2⟩:=nameP_at' (ws:=[]) n6 (.inl rfl)
    exact ⟨_,x1,x2⟩
   ·rw [if_neg ha] at n6 ⊢
    exact ⟨_,by rw [o5 (by simpa using ha)],n6⟩
  obtain ⟨n9,n10⟩:=needP_at' n8
  have hpd : Pln (uBg (g.data.map tkE)++(syT 59 :: ts)):=(Pln.right hp.tail.tail.tail).tail
  have hlen : g.data.length≤l.length:=by
   have h1:=uDR (xs:=g.data.map tkE) (fun x hx=>by obtain ⟨y,_,rfl⟩:=List.mem_map.1 hx; exact uJe y)
   have h2:=n10.len
   rw [List.length_map] at h1
   simp only [List.length_append,List.length_cons] at h2; omega
  obtain ⟨r1,r2⟩:=uD3 (f:=uAU l (l.length + 1)) (N:=l.length + 1) o6 (fun x hx=>uD2 l x.size x (Nat.le_refl _) (o7 x hx) (l.length + 1)) hlen n10
   (by have := n10.len; omega) (fun r=>uHa (by decide)) (uDw (by decide) _) hpd
  obtain ⟨q1,q2⟩:=needP_at' r2
  rw [n1]
  dsimp only
  rw [uBB,if_neg (by decide),if_neg (by decide),if_neg (by decide),if_neg (by decide),if_pos rfl]
  have es : uB4 l 0 p.go=(⟨g.kind,g.role,g.wth,g.data,0⟩,(uBi l (uAU l (l.length + 1)) w.go).2):=by
   unfold uB4; dsimp only; rw [n3]; dsimp only; rw [i2,n5]; dsimp only; rw [hw,n9,r1]
  dsimp only
  rw [es,q1]
  refine ⟨?_,q2⟩
  simp [addI,Itm.rolesOf,Itm.freshOf,Itm.tagsOf,Itm.stepsOf,Itm.goalsOf,Gl.el]
theorem uG3 {i : Itm} : ∃ w r,i.tk=nmT w :: r:=by
 cases i <;> exact ⟨_,_,rfl⟩
theorem uHQ {l : List Tk} : ∀ (L : List Itm),(∀ i ∈ L,i.ok) → ∀ (m : Nat) (n : Nar) (p : PS),L.length < m→At l p ((L.map Itm.tk).flatten++[syT 125])→Pln ((L.map Itm.tk).flatten++[syT 125]) →
  (uB9 l m n p).1=L.foldl addI n∧At l (uB9 l m n p).2 []
 | _,_,0,n,p,hm,_,_=>by omega
 | [],_,m + 1,n,p,_,h,hp=>by
  have h : At l p (syT 125 :: []):=h
  rw [uB9,if_neg (by rw [h.good]; simp),if_pos (uDO h)]
  exact ⟨rfl,h.cons.2.2⟩
 | i :: L,ho,m + 1,n,p,hm,h,hp=>by
  have e : ((i :: L).map Itm.tk).flatten++[syT 125]=i.tk++((L.map Itm.tk).flatten++[syT 125]):=by simp
  rw [e] at h hp
  have hq : symQ l p [125]=false:=by
   refine uDX h (fun r=>?_) hp
   obtain ⟨w,r',hw⟩:=@uG3 i
   rw [hw]; exact uJz
  rw [uB9,if_neg (by rw [h.good]; simp),if_neg (by rw [hq]; simp)]
  obtain ⟨r1,r2⟩:=uL9 (n:=n) (ho i (by simp)) h hp
  rw [r1]
  exact uHQ L (fun j hj=>ho j (by simp [hj])) m (addI n i) _ (by simpa using hm) r2 hp.right
def uDu (nm : List UInt8) (L : List Itm) : List Tk:=nmT uDa :: nmT nm :: syT 123 :: ((L.map Itm.tk).flatten++[syT 125])
theorem uNM (i : Itm) : Pln i.tk:=by
 have hn : ∀ xs : List (List UInt8),Pln (uBg (xs.map fun w=>[nmT w])):=fun xs=>uDq fun x hx=>by
  obtain ⟨y,_,rfl⟩:=List.mem_map.1 hx; exact Pln.nm _
 have ht : ∀ xs : List T,Pln (uBg (xs.map tkE)):=fun xs=>uDq fun x hx=>by
  obtain ⟨y,_,rfl⟩:=List.mem_map.1 hx; exact uFK y.size y (Nat.le_refl _)
 cases i with
 | roles l=>exact (Pln.nm _).app ((hn l).app (Pln.sy _))
 | tags l=>exact (Pln.nm _).app ((hn l).app (Pln.sy _))
 | fresh r l=>exact (Pln.nm _).app ((Pln.nm _).app ((Pln.sy _).app ((uDq fun x hx=>by
   obtain ⟨y,_,rfl⟩:=List.mem_map.1 hx; exact (Pln.nm _).cons (Pln.nm _)).app (Pln.sy _))))
 | step s=>exact (Pln.nm _).app ((Pln.nm _).app (((Pln.sy _).cons (Pln.sy _)).app ((Pln.nm _).app ((Pln.sy _).app ((uFK _ _ (Nat.le_refl _)).app (Pln.sy _))))))
 | goal g =>
  refine (Pln.nm _).app ((Pln.nm _).app ((Pln.nm _).app (Pln.app ?_ ((Pln.sy _).app ((ht _).app (Pln.sy _))))))
  split
  ·exact Pln.nm _
  ·exact Pln.nil
theorem uFZ : ∀ L : List Itm,Pln (L.map Itm.tk).flatten
 | []=>Pln.nil
 | i :: L=>(uNM i).app (uFZ L)
theorem uOa {nm : List UInt8} {L : List Itm} (ho : ∀ i ∈ L,i.ok) : (uB2 (uDu nm L)).1=L.foldl addI { nar0 with name:=nm } ∧ endE (uDu nm L) (uB2 (uDu nm L)).2=(0,0):=by
 have hp : Pln (uDu nm L):=(Pln.nm _).cons ((Pln.nm _).cons ((Pln.sy _).cons ((uFZ L).app (Pln.sy _))))
 have h : At (uDu nm L) ⟨0,false⟩ (nmT uDa :: nmT nm :: syT 123 :: ((L.map Itm.tk).flatten++[syT 125])):=⟨rfl,by simp,rfl⟩
 obtain ⟨n1,n2⟩:=nameP_at' (ws:=[uDa]) h (.inr (by decide))
 obtain ⟨n3,n4⟩:=nameP_at' (ws:=[]) n2 (.inl rfl)
 obtain ⟨n5,n6⟩:=needP_at' n4
 have hlen : L.length < (uDu nm L).length + 2:=by
  have h2:=n6.len
  have : ∀ L : List Itm,L.length≤(L.map Itm.tk).flatten.length:=by
   intro L
   induction L with
   | nil=>simp
   | cons i L ih =>
    obtain ⟨w,r,hw⟩:=@uG3 i
    simp only [List.map_cons,List.flatten_cons,List.length_append,List.length_cons,hw] at ih ⊢; omega
  have := this L
  simp only [List.length_append] at h2; omega
 have hp3:=hp.tail.tail.tail
 obtain ⟨r1,r2⟩:=uHQ L ho ((uDu nm L).length + 2) { nar0 with name:=nm } _ hlen n6 hp3
 unfold uB2
 dsimp only
 rw [n1]
 dsimp only
 rw [n3]
 dsimp only
 rw [n5]
 refine ⟨r1,?_⟩
 have hl:=r2.len
 unfold endE
 rw [if_neg (by rintro (q | q); { rw [r2.good] at q; cases q }; { simp at hl; omega })]
end Go.Proofs.YtnjjdbapadkomaaGreatDoor
namespace Go.Proofs.YtnjjdbapadkomaaGreatDoor
open Go Go.Abs
def Itm.more (f : List UInt8 × Int) : Itm→Itm
 | .fresh r l=>.fresh r (l++[f])
 | i=>i
def glue (f : List UInt8 × Int) : List Itm→List Itm
 | []=>[]
 | [i]=>[i.more f]
 | i :: j :: r=>i :: glue f (j :: r)
theorem uF8 (f : List UInt8 × Int) (r : List UInt8) (l : List (List UInt8 × Int)) : ∀ I : List Itm,glue f (I++[.fresh r l])=I++[.fresh r (l++[f])]
 | []=>rfl
 | [i]=>rfl
 | i :: j :: I=>by
  have ih:=uF8 f r l (j :: I)
  rw [List.cons_append,List.cons_append] at ih
  rw [List.cons_append,List.cons_append,glue,ih]
  rfl
def uCD (fs : List Fs) (k : Nat) : Prop:=0 < k∧(fs.getD (k - 1) default).role=(fs.getD k default).role
instance (fs : List Fs) (k : Nat) : Decidable (uCD fs k):=by unfold uCD; infer_instance
def Fs.pr (f : Fs) : List UInt8 × Int:=(f.name,f.sort)
def frI (fs : List Fs) : Nat→List Itm
 | 0=>[]
 | k + 1=>if uCD fs k then glue (fs.getD k default).pr (frI fs k) else frI fs k++[.fresh (fs.getD k default).role [(fs.getD k default).pr]]
theorem uJU (fs : List Fs) : ∀ k,0 < k → ∃ I l,l≠[]∧frI fs k=I++[.fresh (fs.getD (k - 1) default).role l]
 | 0,h=>by omega
 | k + 1,_=>by
  rw [frI,Nat.add_sub_cancel]
  split
  ·rename_i hs
   obtain ⟨I,l,h1,h2⟩:=uJU fs k hs.1
   rw [h2,uF8,hs.2]
   exact ⟨I,_,by simp,rfl⟩
  ·exact ⟨_,_,by simp,rfl⟩
theorem uDI {fs : List Fs} {k : Nat} (hs : uCD fs k) : ∃ I l,l≠[]∧frI fs k=I++[.fresh (fs.getD k default).role l]∧frI fs (k + 1)=I++[.fresh (fs.getD k default).role (l++[(fs.getD k default).pr])]:=by
 obtain ⟨I,l,h1,h2⟩:=uJU fs k hs.1
 rw [hs.2] at h2
 exact ⟨I,l,h1,h2,by rw [frI,if_pos hs,h2,uF8]⟩
theorem uEX {fs : List Fs} {k : Nat} (hs : ¬uCD fs k) : frI fs (k + 1)=frI fs k++[.fresh (fs.getD k default).role [(fs.getD k default).pr]]:=by rw [frI,if_neg hs]
theorem uEV (fs : List Fs) : ∀ k,(frI fs k).length≤k
 | 0=>by simp [frI]
 | k + 1=>by
  have ih:=uEV fs k
  by_cases hs : uCD fs k
  ·obtain ⟨I,l,_,h2,h3⟩:=uDI hs
   rw [h2] at ih
   rw [h3]
   simp only [List.length_append,List.length_singleton] at ih ⊢; omega
  ·rw [uEX hs]
   simp only [List.length_append,List.length_singleton]; omega
theorem uIf (fs : List Fs) : ∀ k,k≤fs.length→(frI fs k).flatMap Itm.freshOf=fs.take k
 | 0,_=>by simp [frI]
 | k + 1,h=>by
  have ih:=uIf fs k (by omega)
  have ht : fs.take (k + 1)=fs.take k++[fs.getD k default]:=by
   rw [List.take_add_one,List.getD_eq_getElem?_getD,List.getElem?_eq_getElem (by omega)]; rfl
  rw [ht]
  by_cases hs : uCD fs k
  ·obtain ⟨I,l,_,h2,h3⟩:=uDI hs
   rw [h2] at ih
   rw [h3]
   simp only [List.flatMap_append,List.flatMap_cons,List.flatMap_nil,List.append_nil,Itm.freshOf,List.map_append,List.map_cons,List.map_nil] at ih ⊢
   rw [← ih,List.append_assoc]; rfl
  ·rw [uEX hs,List.flatMap_append,ih]; rfl
theorem uLY (fs : List Fs) : ∀ k,∀ i ∈ frI fs k,∃ r l,i = .fresh r l
 | 0,i,h=>by simp [frI] at h
 | k + 1,i,h=>by
  have ih:=uLY fs k
  by_cases hs : uCD fs k
  ·obtain ⟨I,l,_,h2,h3⟩:=uDI hs
   rw [h3] at h
   rw [h2] at ih
   rcases List.mem_append.1 h with q | q
   ·exact ih i (by simp [q])
   ·simp at q; exact ⟨_,_,q⟩
  ·rw [uEX hs] at h
   rcases List.mem_append.1 h with q | q
   ·exact ih i q
   ·simp at q; exact ⟨_,_,q⟩
theorem uIn (sep x : List UInt8) : ∀ l : List (List UInt8),l≠[]→Lib.join (l++[x]) sep=Lib.join l sep++(sep++x)
 | [],h=>absurd rfl h
 | y :: l,_=>by
  rw [List.cons_append,Lib.join_cons,Lib.join_cons]
  have : ∀ l : List (List UInt8),Lib.joinTail sep (l++[x])=Lib.joinTail sep l++(sep++x):=by
   intro l
   simp [Lib.joinTail]
  rw [this,List.append_assoc]
theorem uFu (sep x : List UInt8) : Lib.join [x] sep=x:=by rw [Lib.join_cons]; simp [Lib.joinTail]
theorem uIN {r : List UInt8} {l : List (List UInt8 × Int)} (f : List UInt8 × Int) (h : l≠[]) : (Itm.fresh r (l++[f])).text=(Itm.fresh r l).text.dropLast++([44,32]++(fsW f++[59])):=by
 have e : (Itm.fresh r l).text=(hFresh++(r++([58,32]++Lib.join (l.map fsW) [44,32])))++[59]:=by simp [Itm.text]
 rw [e,List.dropLast_concat]
 simp only [Itm.text,List.map_append,List.map_cons,List.map_nil]
 rw [uIn _ _ _ (by simpa using h)]
 simp
theorem uIB (r : List UInt8) (l : List (List UInt8 × Int)) : ∃ s,(Itm.fresh r l).text=s++[59]:=⟨hFresh++(r++([58,32]++Lib.join (l.map fsW) [44,32])),by simp [Itm.text]⟩
def Nar.itms (n : Nar) : List Itm:=[.roles n.roles]++(frI n.fresh n.fresh.length++((if n.tags=[] then [] else [.tags n.tags])++(n.steps.map .step++n.goals.map .goal)))
def uEh (n : Nar) : List UInt8:=hProt++(n.name++[32,123])
def Nar.lines (n : Nar) : List (List UInt8):=[uEh n]++(n.itms.map Itm.text++[[125]])
def nl (L : List (List UInt8)) : List UInt8:=(L.map fun s=>s++[10]).flatten
theorem uCR (a b : List (List UInt8)) : nl (a++b)=nl a++nl b:=by simp [nl]
theorem uLG : ∀ L : List (List UInt8),L≠[]→Lib.join L [10]++[10]=nl L
 | [],h=>absurd rfl h
 | [x],_=>by rw [uFu]; simp [nl]
 | x :: y :: L,_=>by
  have ih:=uLG (y :: L) (by simp)
  have e : Lib.join (x :: y :: L) [10]=x++([10]++Lib.join (y :: L) [10]):=by
   rw [Lib.join_cons,Lib.join_cons]; simp [Lib.joinTail]
  have e2 : nl (x :: y :: L)=x++([10]++nl (y :: L)):=by simp [nl]
  rw [e,e2,← ih]; simp
def Nar.text (n : Nar) : List UInt8:=Lib.join n.lines [10]++[10]
theorem Nar.text_eq (n : Nar) : n.text=nl n.lines:=uLG _ (by simp [Nar.lines])
structure MsgOk (t : T) : Prop where
 raw : uC6 uAI t=0
 size : t.size≤40
structure GlOk (g : Gl) : Prop where
 k1 : 1≤g.kind
 k2 : g.kind≤5
 role : uAI g.role=true
 w1 : uBo g.kind=true→uAI g.wth=true
 w0 : uBo g.kind=false→g.wth=[]
 d1 : 1≤g.data.length
 d2 : g.data.length≤4
 data : ∀ t ∈ g.data,MsgOk t
structure NarOk (n : Nar) : Prop where
 name : uAI n.name=true
 r1 : 2≤n.roles.length
 r2 : n.roles.length≤4
 roles : ∀ w ∈ n.roles,uAI w=true
 f2 : n.fresh.length≤12
 fresh : ∀ f ∈ n.fresh,uAI f.role=true∧uAI f.name=true∧2≤f.sort∧f.sort≤4
 t2 : n.tags.length≤8
 tags : ∀ w ∈ n.tags,uAI w=true
 s1 : 1≤n.steps.length
 s2 : n.steps.length≤8
 steps : ∀ s ∈ n.steps,uAI s.frm=true∧uAI s.dst=true∧MsgOk s.msg
 g2 : n.goals.length≤8
 goals : ∀ g ∈ n.goals,GlOk g
theorem uNL {t : T} (h : msgE uAI t=0) : MsgOk t:=by
 unfold msgE at h
 split at h
 ·rename_i hz; exact absurd h hz
 ·rename_i hz
  split at h
  ·simp at h
  ·exact ⟨Decidable.not_not.1 hz,by omega⟩
theorem uOn {g : Gl} (h : uB1 uAI g=0) : GlOk g:=by
 unfold uB1 at h
 split at h
 ·simp at h
 rename_i h1
 split at h
 ·simp at h
 rename_i h2
 split at h
 ·simp at h
 rename_i h3
 split at h
 ·simp at h
 rename_i h4
 have h5:=errs_zero.1 h
 refine ⟨by omega,by omega,?_,fun ha=>?_,fun ha=>?_,?_,?_,fun t ht=>uNL (h5 t ht)⟩
 ·cases hz : uAI g.role with
  | true=>rfl
  | false=>exact absurd (.inl hz) h2
 ·cases hz : uAI g.wth with
  | true=>rfl
  | false=>exact absurd (.inr ⟨ha,hz⟩) h2
 ·exact Decidable.byContradiction fun q=>h3 ⟨ha,q⟩
 ·cases ha : uBo g.kind with
  | true=>exact Decidable.byContradiction fun q=>h4 (.inl ⟨ha,by omega⟩)
  | false=>exact Decidable.byContradiction fun q=>h4 (.inr ⟨ha,by omega⟩)
 ·cases ha : uBo g.kind with
  | true=>exact Decidable.byContradiction fun q=>h4 (.inl ⟨ha,by omega⟩)
  | false=>exact Decidable.byContradiction fun q=>h4 (.inr ⟨ha,by omega⟩)
theorem uPd {n : Nar} (h : cntE n=0) : 2≤n.roles.length∧n.roles.length≤4∧n.fresh.length≤12∧n.tags.length≤8∧1≤n.steps.length∧n.steps.length≤8∧n.goals.length≤8:=by
 unfold cntE at h
 repeat' split at h
 all_goals first
  | (simp at h; done)
  | omega
theorem uHn {n : Nar} (h : narE uAI n=0) : NarOk n:=by
 unfold narE at h
 split at h
 ·rename_i hz; exact absurd h hz
 rename_i h1
 split at h
 ·rename_i hz; exact absurd h hz
 rename_i h2
 have h1:=Decidable.not_not.1 h1
 have h2:=errs_zero.1 (Decidable.not_not.1 h2)
 have h3:=errs_zero.1 h
 unfold uC9 at h1
 split at h1
 ·simp at h1
 rename_i a1
 split at h1
 ·rename_i hz; exact absurd h1 hz
 rename_i a2
 split at h1
 ·simp at h1
 rename_i a3
 split at h1
 ·rename_i hz; exact absurd h1 hz
 rename_i a4
 split at h1
 ·simp at h1
 rename_i a5
 obtain ⟨c1,c2,c3,c4,c5,c6,c7⟩:=uPd (Decidable.not_not.1 a2)
 have a4:=errs_zero.1 (Decidable.not_not.1 a4)
 refine ⟨by simpa using a1,c1,c2,fun w hw=>List.all_eq_true.1 (by simpa using a3) w hw,c3,fun f hf=>?_,c4,fun w hw=>List.all_eq_true.1 (by simpa using a5) w hw,c5,c6,fun s hs=>?_,c7,fun g hg=>uOn (h3 g hg)⟩
 ·have := a4 f hf
  unfold frE at this
  split at this
  ·simp at this
  rename_i q
  split at this
  ·simp at this
  ·refine ⟨?_,?_,by omega,by omega⟩
   ·cases hz : uAI f.role with
    | true=>rfl
    | false=>exact absurd (.inl hz) q
   ·cases hz : uAI f.name with
    | true=>rfl
    | false=>exact absurd (.inr hz) q
 ·have := h2 s hs
  unfold spE at this
  split at this
  ·simp at this
  rename_i q
  refine ⟨?_,?_,uNL this⟩
  ·cases hz : uAI s.frm with
   | true=>rfl
   | false=>exact absurd (.inl hz) q
  ·cases hz : uAI s.dst with
   | true=>rfl
   | false=>exact absurd (.inr hz) q
theorem uBx {w : List UInt8} (h : uAI w=true) : w.length≤24:=(uHJ h).2.2.2
theorem MsgOk.ok {t : T} (h : MsgOk t) : okB t=true:=(uNd h.raw).1
theorem MsgOk.gd {t : T} (h : MsgOk t) : gdB t=true:=uPn h.raw
theorem MsgOk.len {t : T} (h : MsgOk t) : (uBF t).length≤1120 := by have := uFL h.ok; have := h.size; omega
theorem uJ0 : ∀ {l : List T} {M : Nat},(∀ t ∈ l,t.size≤M)→T.sizes l≤M * l.length
 | [],M,_=>by simp [T.sizes]
 | t :: l,M,h=>by
  have h1:=h t (by simp)
  have h2:=uJ0 (M:=M) fun x hx=>h x (List.mem_cons_of_mem t hx)
  rw [T.sizes,List.length_cons,Nat.mul_succ]; omega
theorem GlOk.sizes {g : Gl} (h : GlOk g) : T.sizes g.data≤160:=by
 have := uJ0 (M := 40) fun t ht=>(h.data t ht).size
 have := h.d2; omega
theorem GlOk.oks {g : Gl} (h : GlOk g) : ∀ t ∈ g.data,okB t=true:=fun t ht=>(h.data t ht).ok
theorem GlOk.len {g : Gl} (h : GlOk g) : (uBV g.data).length≤4480 := by have := uG0 h.oks; have := h.sizes; omega
theorem GlOk.wth {g : Gl} (h : GlOk g) : g.wth.length≤24:=by
 cases ha : uBo g.kind with
 | true=>exact uBx (h.w1 ha)
 | false=>rw [h.w0 ha]; simp
theorem uIX (fs : List Fs) : ∀ k,k≤fs.length → ∀ i ∈ frI fs k,∃ r l,i = .fresh r l∧l≠[]∧l.length≤k ∧ ∀ p ∈ l,∃ f ∈ fs,p=f.pr∧f.role=r
 | 0,_,i,h=>by simp [frI] at h
 | k + 1,hk,i,h=>by
  have ih:=uIX fs k (by omega)
  have hm : fs.getD k default ∈ fs:=by
   rw [List.getD_eq_getElem?_getD,List.getElem?_eq_getElem (by omega)]; exact List.getElem_mem _
  by_cases hs : uCD fs k
  ·obtain ⟨I,l,_,h2,h3⟩:=uDI hs
   rw [h3] at h
   rw [h2] at ih
   rcases List.mem_append.1 h with q | q
   ·obtain ⟨r,l',e1,e2,e3,e4⟩:=ih i (by simp [q])
    exact ⟨r,l',e1,e2,by omega,e4⟩
   ·obtain ⟨r,l',e1,e2,e3,e4⟩:=ih _ (List.mem_append.2 (.inr (List.mem_singleton.2 rfl)))
    simp only [Itm.fresh.injEq] at e1
    obtain ⟨rfl,rfl⟩:=e1
    refine ⟨_,_,List.mem_singleton.1 q,by simp,by simp only [List.length_append,List.length_singleton]; omega,fun p hp=>?_⟩
    rcases List.mem_append.1 hp with z | z
    ·exact e4 p z
    ·exact ⟨_,hm,List.mem_singleton.1 z,rfl⟩
  ·rw [uEX hs] at h
   rcases List.mem_append.1 h with q | q
   ·obtain ⟨r,l',e1,e2,e3,e4⟩:=ih i q
    exact ⟨r,l',e1,e2,by omega,e4⟩
   ·refine ⟨_,_,List.mem_singleton.1 q,by simp,by simp,fun p hp=>⟨_,hm,List.mem_singleton.1 hp,rfl⟩⟩
def FsOk (fs : List Fs) : Prop:=∀ f ∈ fs,uAI f.role=true∧uAI f.name=true∧2≤f.sort∧f.sort≤4
theorem uM5 {fs : List Fs} (h : FsOk fs) {k : Nat} (hk : k≤fs.length) : ∀ i ∈ frI fs k,i.ok:=by
 intro i hi
 obtain ⟨r,l,rfl,h2,h3,h4⟩:=uIX fs k hk i hi
 refine ⟨?_,h2,fun p hp=>?_⟩
 ·obtain ⟨p,q,rfl⟩ : ∃ p q,l=p :: q:=by
   cases l with
   | nil=>exact absurd rfl h2
   | cons p q=>exact ⟨p,q,rfl⟩
  obtain ⟨f,hf,_,e⟩:=h4 p (by simp)
  rw [← e]; exact (h f hf).1
 ·obtain ⟨f,hf,e,_⟩:=h4 p hp
  subst e
  exact ⟨(h f hf).2.1,(h f hf).2.2.1,(h f hf).2.2.2⟩
theorem uNt {L : List (List UInt8)} {M : Nat} (h : ∀ x ∈ L,x.length≤M) : uEv L≤(M + 2) * L.length:=by
 induction L with
 | nil=>simp [uEv]
 | cons x L ih =>
  have h1:=h x (by simp)
  have h2:=ih fun y hy=>h y (by simp [hy])
  simp only [uEv,List.map_cons,List.sum_cons,List.length_cons,Nat.mul_succ] at h2 ⊢
  omega
theorem uJd {L : List (List UInt8)} {M : Nat} (h : ∀ x ∈ L,x.length≤M) : (Lib.join L [44,32]).length≤(M + 2) * L.length:=Nat.le_trans (uEN L).1 (uNt h)
theorem uMV (k : Int) : (uCn k).length≤5:=by
 unfold uCn
 have : ∀ j : Nat,(sortW.getD j []).length≤5:=by
  intro j
  match j with
  | 0=>decide
  | 1=>decide
  | 2=>decide
  | j + 3=>simp [sortW,List.getD_eq_getElem?_getD]
 exact this _
theorem uFv {fs : List Fs} (h : FsOk fs) {k : Nat} (hk : k≤fs.length) (h12 : fs.length≤12) : ∀ i ∈ frI fs k,i.text.length≤500:=by
 intro i hi
 have ho:=uM5 h hk i hi
 obtain ⟨r,l,rfl,h2,h3,h4⟩:=uIX fs k hk i hi
 obtain ⟨o1,o2,o3⟩:=ho
 have h5:=uBx o1
 have h6 : (Lib.join (l.map fsW) [44,32]).length≤(30 + 2) * l.length:=by
  have := uJd (L := l.map fsW) (M := 30) fun x hx=>by
   obtain ⟨p,hp,rfl⟩:=List.mem_map.1 hx
   have := uBx (o3 p hp).1
   have := uMV p.2
   simp only [fsW,List.length_append,List.length_cons,List.length_nil]; omega
  rwa [List.length_map] at this
 have : hFresh.length=8:=rfl
 simp only [Itm.text,List.length_append,List.length_cons,List.length_nil]
 omega
theorem uCx {l : List (List UInt8)} (h : ∀ w ∈ l,uAI w=true) : (Lib.join l [44,32]).length≤26 * l.length:=uJd fun x hx=>uBx (h x hx)
theorem uIo {s : Sp} (h1 : uAI s.frm=true) (h2 : uAI s.dst=true) (h3 : MsgOk s.msg) : (Itm.step s).text.length≤1300:=by
 have a:=uBx h1
 have b:=uBx h2
 have c:=h3.len
 have : hMsg.length=10:=rfl
 have : arrow.length=4:=rfl
 simp only [Itm.text,List.length_append,List.length_cons,List.length_nil]; omega
theorem uM0 (k : Int) : (uDJ k).length≤7:=by
 unfold uDJ
 have : ∀ j : Nat,(kindW.getD j []).length≤7:=by
  intro j
  match j with
  | 0=>decide
  | 1=>decide
  | 2=>decide
  | 3=>decide
  | 4=>decide
  | j + 5=>simp [kindW,List.getD_eq_getElem?_getD]
 exact this _
theorem uD8 (g : Gl) : (Itm.goal g).text=hGoal++(uEe g++[59]):=by
 simp only [Itm.text,uEe,uDJ]
 split <;> simp
theorem uDf {g : Gl} (h : GlOk g) : (Itm.goal g).text.length≤4600:=by
 have a:=uBx h.role
 have b:=h.wth
 have c:=h.len
 have d:=uM0 g.kind
 have : hGoal.length=7:=rfl
 simp only [Itm.text,List.length_append,List.length_cons,List.length_nil]
 split <;> (simp only [List.length_append,List.length_cons,List.length_nil]; omega)
theorem NarOk.itm_text {n : Nar} (h : NarOk n) : ∀ i ∈ n.itms,i.text.length≤4600:=by
 intro i hi
 unfold Nar.itms at hi
 rcases List.mem_append.1 hi with q | q
 ·rw [List.mem_singleton.1 q]
  have := uCx h.roles
  have := h.r2
  have : hRole.length=7:=rfl
  simp only [Itm.text,List.length_append,List.length_cons,List.length_nil]; omega
 rcases List.mem_append.1 q with q | q
 ·exact Nat.le_trans (uFv h.fresh (Nat.le_refl _) h.f2 i q) (by omega)
 rcases List.mem_append.1 q with q | q
 ·split at q
  ·simp at q
  ·rw [List.mem_singleton.1 q]
   have := uCx h.tags
   have := h.t2
   have : hTag.length=6:=rfl
   simp only [Itm.text,List.length_append,List.length_cons,List.length_nil]; omega
 rcases List.mem_append.1 q with q | q
 ·obtain ⟨s,hs,rfl⟩:=List.mem_map.1 q
  obtain ⟨s1,s2,s3⟩:=h.steps s hs
  exact Nat.le_trans (uIo s1 s2 s3) (by omega)
 ·obtain ⟨g,hg,rfl⟩:=List.mem_map.1 q
  exact uDf (h.goals g hg)
theorem NarOk.itm_len {n : Nar} (h : NarOk n) : n.itms.length≤30:=by
 have := uEV n.fresh n.fresh.length
 have := h.f2
 have := h.s2
 have := h.g2
 unfold Nar.itms
 split <;> (simp only [List.length_append,List.length_map,List.length_singleton,List.length_nil]; omega)
theorem NarOk.line_len {n : Nar} (h : NarOk n) : ∀ x ∈ n.lines,x.length≤4600:=by
 intro x hx
 unfold Nar.lines at hx
 rcases List.mem_append.1 hx with q | q
 ·rw [List.mem_singleton.1 q]
  have := uBx h.name
  have : hProt.length=9:=rfl
  simp only [uEh,List.length_append,List.length_cons,List.length_nil]; omega
 rcases List.mem_append.1 q with q | q
 ·obtain ⟨i,hi,rfl⟩:=List.mem_map.1 q
  exact h.itm_text i hi
 ·rw [List.mem_singleton.1 q]; simp
theorem NarOk.lines_len {n : Nar} (h : NarOk n) : n.lines.length≤32:=by
 have := h.itm_len
 simp only [Nar.lines,List.length_append,List.length_map,List.length_singleton]; omega
theorem uN4 (L : List (List UInt8)) {M : Nat} (h : ∀ x ∈ L,x.length≤M) : (nl L).length≤(M + 1) * L.length:=by
 induction L with
 | nil=>simp [nl]
 | cons x L ih =>
  have h1:=h x (by simp)
  have h2:=ih fun y hy=>h y (by simp [hy])
  have e : nl (x :: L)=x++([10]++nl L):=by simp [nl]
  rw [e]
  simp only [List.length_append,List.length_cons,List.length_nil,Nat.mul_succ]
  omega
theorem uJb {α : Type} (f : α→List UInt8) (l : List α) {M : Nat} (h : ∀ x ∈ l,(f x).length≤M) : (nl (l.map f)).length≤(M + 1) * l.length:=by
 have := uN4 (l.map f) (M := M) fun x hx=>by
  obtain ⟨y,hy,rfl⟩:=List.mem_map.1 hx; exact h y hy
 rwa [List.length_map] at this
theorem NarOk.text_len {n : Nar} (h : NarOk n) : n.text.length≤60000:=by
 rw [n.text_eq]
 have e : n.lines=[uEh n]++([(Itm.roles n.roles).text]++((frI n.fresh n.fresh.length).map Itm.text++((if n.tags=[] then [] else [.tags n.tags]).map Itm.text++(n.steps.map (fun s=>(Itm.step s).text)++(n.goals.map (fun g=>(Itm.goal g).text)++[[125]]))))):=by
  unfold Nar.lines Nar.itms
  simp [List.map_map,Function.comp_def]
 rw [e]
 simp only [uCR,List.length_append]
 have h1 : (nl [uEh n]).length≤60:=by
  have := uBx h.name
  have : hProt.length=9:=rfl
  simp only [nl,uEh,List.map_cons,List.map_nil,List.flatten_cons,List.flatten_nil,List.length_append,List.length_cons,List.length_nil]; omega
 have h2 : (nl [(Itm.roles n.roles).text]).length≤200:=by
  have := uCx h.roles
  have := h.r2
  have : hRole.length=7:=rfl
  simp only [nl,Itm.text,List.map_cons,List.map_nil,List.flatten_cons,List.flatten_nil,List.length_append,List.length_cons,List.length_nil]; omega
 have h3:=uJb Itm.text (frI n.fresh n.fresh.length) (uFv h.fresh (Nat.le_refl _) h.f2)
 have h3':=uEV n.fresh n.fresh.length
 have h4 : (nl ((if n.tags=[] then [] else [.tags n.tags]).map Itm.text)).length≤300:=by
  split
  ·simp [nl]
  ·have := uCx h.tags
   have := h.t2
   have : hTag.length=6:=rfl
   simp only [nl,Itm.text,List.map_cons,List.map_nil,List.flatten_cons,List.flatten_nil,List.length_append,List.length_cons,List.length_nil]; omega
 have h5:=uJb (fun s=>(Itm.step s).text) n.steps (M:=1300) fun s hs=>by
  obtain ⟨s1,s2,s3⟩:=h.steps s hs
  exact uIo s1 s2 s3
 have h6:=uJb (fun g=>(Itm.goal g).text) n.goals (M:=4600) fun g hg=>uDf (h.goals g hg)
 have h7 : (nl [[125]]).length=2:=rfl
 have := h.f2
 have := h.s2
 have := h.g2
 omega
end Go.Proofs.YtnjjdbapadkomaaGreatDoor
namespace Go.Proofs.YtnjjdbapadkomaaGreatDoor
open Go Go.Abs
def SmT (l l' : List Tk) : Prop:=l.length=l'.length ∧ ∀ k,(l.getD k tk0).kind=(l'.getD k tk0).kind∧(l.getD k tk0).text=(l'.getD k tk0).text
theorem uLM (l : List Tk) (k : Nat) : (l.getD k tk0).nl false=(l.map (·.nl false)).getD k tk0:=by
 rw [List.getD_eq_getElem?_getD,List.getD_eq_getElem?_getD,List.getElem?_map]
 cases l[k]? <;> rfl
theorem SmT.of_nl {l l' : List Tk} (h : l.map (·.nl false)=l'.map (·.nl false)) : SmT l l':=by
 refine ⟨by have := congrArg List.length h; simpa using this,fun k=>?_⟩
 have e : (l.getD k tk0).nl false=(l'.getD k tk0).nl false:=by rw [uLM,uLM,h]
 have e1 : ((l.getD k tk0).nl false).kind=((l'.getD k tk0).nl false).kind:=by rw [e]
 have e2 : ((l.getD k tk0).nl false).text=((l'.getD k tk0).nl false).text:=by rw [e]
 exact ⟨e1,e2⟩
theorem uFq {l l' : List Tk} (h : SmT l l') : symQ l=symQ l':=by
 funext p c
 unfold symQ
 rw [h.1,(h.2 _).1,(h.2 _).2]
theorem uOs {l l' : List Tk} (h : SmT l l') : namQ l=namQ l':=by
 funext p ws
 unfold namQ
 rw [h.1,(h.2 _).1,(h.2 _).2]
theorem uDH {l l' : List Tk} (h : SmT l l') : uA8 l=uA8 l':=by
 funext c p
 unfold uA8
 rw [uFq h]
theorem uC0 {l l' : List Tk} (h : SmT l l') : uAz l=uAz l':=by
 funext ws p
 unfold uAz
 rw [uOs h,(h.2 _).2]
theorem uJO {α : Type} {l l' : List Tk} (h : SmT l l') (f : PS→α × PS) : ∀ (n : Nat) (p : PS) (out : List α),uBL l f n p out=uBL l' f n p out
 | 0,p,out=>rfl
 | n + 1,p,out=>by
  rw [uBL,uBL,uFq h,uJO h f n]
theorem uHH {α : Type} {l l' : List Tk} (h : SmT l l') (f : PS→α × PS) : uBi l f=uBi l' f:=by
 funext p
 unfold uBi
 rw [h.1,uJO h]
theorem uG2 {l l' : List Tk} (h : SmT l l') : ∀ n : Nat,uAU l n=uAU l' n
 | 0=>by funext p; rfl
 | n + 1=>by
  funext p
  rw [uAU,uAU,uFq h,uC0 h,uDH h,uG2 h n,uHH h]
theorem uIK {l l' : List Tk} (h : SmT l l') (role : List UInt8) : ∀ (n : Nat) (p : PS) (out : List Fs),uBD l role n p out=uBD l' role n p out
 | 0,p,out=>rfl
 | n + 1,p,out=>by
  rw [uBD,uBD,uFq h,uC0 h]
  split
  ·rfl
  ·split
   ·exact uIK h role n _ _
   ·rfl
theorem uMZ {l l' : List Tk} (h : SmT l l') : uBK l=uBK l':=by
 funext p out
 unfold uBK
 rw [uC0 h,uDH h,h.1,uIK h]
theorem uNi {l l' : List Tk} (h : SmT l l') (k k' : Int) (p : PS) : (uCm l k p).1.el=(uCm l' k' p).1.el∧(uCm l k p).2=(uCm l' k' p).2:=by
 unfold uCm
 dsimp only
 rw [uC0 h,uDH h,h.1,uG2 h]
 exact ⟨rfl,rfl⟩
theorem uNY {l l' : List Tk} (h : SmT l l') (k k' : Int) (p : PS) : (uB4 l k p).1.el=(uB4 l' k' p).1.el∧(uB4 l k p).2=(uB4 l' k' p).2:=by
 unfold uB4
 dsimp only
 rw [uC0 h,uDH h,h.1,uG2 h,uHH h]
 exact ⟨rfl,rfl⟩
theorem el_inj {n n' : Nar} : n.el=n'.el ↔ n.name=n'.name∧n.roles=n'.roles∧n.fresh=n'.fresh∧n.tags=n'.tags∧n.steps.map Sp.el=n'.steps.map Sp.el∧n.goals.map Gl.el=n'.goals.map Gl.el:=by
 cases n; cases n'
 simp [Nar.el]
theorem uNg {l l' : List Tk} (h : SmT l l') {n n' : Nar} (hn : n.el=n'.el) (k k' : Int) (w : List UInt8) (q : PS) : (uBB l n k w q).1.el=(uBB l' n' k' w q).1.el∧(uBB l n k w q).2=(uBB l' n' k' w q).2:=by
 obtain ⟨h1,h2,h3,h4,h5,h6⟩:=el_inj.1 hn
 have s1:=uNi h k k' q
 have s2:=uNY h k k' q
 unfold uBB uBH
 rw [uC0 h,uHH h,uMZ h,h3]
 split
 ·exact ⟨el_inj.2 ⟨h1,by dsimp only; rw [h2],rfl,h4,h5,h6⟩,rfl⟩
 split
 ·exact ⟨el_inj.2 ⟨h1,h2,rfl,h4,h5,h6⟩,rfl⟩
 split
 ·exact ⟨el_inj.2 ⟨h1,h2,rfl,by dsimp only; rw [h4],h5,h6⟩,rfl⟩
 split
 ·exact ⟨el_inj.2 ⟨h1,h2,rfl,h4,by dsimp only; rw [List.map_append,List.map_append,h5,List.map_cons,List.map_cons,s1.1],h6⟩,s1.2⟩
 split
 ·exact ⟨el_inj.2 ⟨h1,h2,rfl,h4,h5,by dsimp only; rw [List.map_append,List.map_append,h6,List.map_cons,List.map_cons,s2.1]⟩,s2.2⟩
 ·exact ⟨hn,rfl⟩
theorem itemP_sm' {l l' : List Tk} (h : SmT l l') {n n' : Nar} (hn : n.el=n'.el) (p : PS) : (uBU l n p).1.el=(uBU l' n' p).1.el∧(uBU l n p).2=(uBU l' n' p).2:=by
 unfold uBU
 rw [uC0 h,uDH h]
 obtain ⟨e1,e2⟩:=uNg h hn (uCt l p) (uCt l' p) (uAz l' uBO p).1 (uAz l' uBO p).2
 exact ⟨e1,by dsimp only; rw [e2]⟩
theorem uIi {l l' : List Tk} (h : SmT l l') : ∀ (m : Nat) {n n' : Nar} (hn : n.el=n'.el) (p : PS),(uB9 l m n p).1.el=(uB9 l' m n' p).1.el∧(uB9 l m n p).2=(uB9 l' m n' p).2
 | 0,n,n',hn,p=>⟨hn,rfl⟩
 | m + 1,n,n',hn,p=>by
  rw [uB9,uB9,uFq h]
  split
  ·exact ⟨hn,rfl⟩
  split
  ·exact ⟨hn,rfl⟩
  ·obtain ⟨e1,e2⟩:=itemP_sm' h hn p
   rw [e2]
   exact uIi h m e1 _
theorem uNw {l l' : List Tk} (h : SmT l l') : (uB2 l).1.el=(uB2 l').1.el∧(uB2 l).2=(uB2 l').2:=by
 unfold uB2
 dsimp only
 rw [uC0 h,uDH h,h.1]
 exact uIi h _ rfl _
theorem uOo {l l' : List Tk} (h : SmT l l') (p : PS) : (endE l p).2=(endE l' p).2∧((endE l p).2=0→endE l p=(0,0)):=by
 unfold endE
 rw [h.1]
 split
 ·exact ⟨rfl,fun q=>by simp at q⟩
 ·exact ⟨rfl,fun _=>rfl⟩
theorem uHd {α β : Type} (f : β→Int) (g : α→β) : ∀ l : List α,errs f (l.map g)=errs (fun x=>f (g x)) l
 | []=>rfl
 | x :: r=>by rw [List.map_cons,errs,errs,uHd f g r]
theorem uLQ (nm : NmB) (n : Nar) : narE nm n.el=narE nm n:=by
 have h1 : uC9 nm n.el=uC9 nm n:=by
  unfold uC9
  have : cntE n.el=cntE n:=by
   unfold cntE
   have e1 : n.el.steps.length=n.steps.length:=by simp [Nar.el]
   have e2 : n.el.goals.length=n.goals.length:=by simp [Nar.el]
   rw [e1,e2]; rfl
  rw [this]; rfl
 have h2 : errs (spE nm) n.el.steps=errs (spE nm) n.steps:=by
  show errs (spE nm) (n.steps.map Sp.el)=_
  rw [uHd]; rfl
 have h3 : errs (uB1 nm) n.el.goals=errs (uB1 nm) n.goals:=by
  show errs (uB1 nm) (n.goals.map Gl.el)=_
  rw [uHd]; rfl
 unfold narE
 rw [h1,h2,h3]
theorem NarOk.itm_ok {n : Nar} (h : NarOk n) : ∀ i ∈ n.itms,i.ok:=by
 intro i hi
 unfold Nar.itms at hi
 rcases List.mem_append.1 hi with q | q
 ·rw [List.mem_singleton.1 q]
  exact ⟨fun z=>by have := h.r1; rw [z] at this; simp at this,h.roles⟩
 rcases List.mem_append.1 q with q | q
 ·exact uM5 h.fresh (Nat.le_refl _) i q
 rcases List.mem_append.1 q with q | q
 ·split at q
  ·simp at q
  ·rename_i hz
   rw [List.mem_singleton.1 q]
   exact ⟨hz,h.tags⟩
 rcases List.mem_append.1 q with q | q
 ·obtain ⟨s,hs,rfl⟩:=List.mem_map.1 q
  obtain ⟨s1,s2,s3⟩:=h.steps s hs
  exact ⟨s1,s2,s3.gd⟩
 ·obtain ⟨g,hg,rfl⟩:=List.mem_map.1 q
  have hk:=h.goals g hg
  exact ⟨hk.k1,hk.k2,hk.role,hk.w1,hk.w0,fun z=>by have := hk.d1; rw [z] at this; simp at this,fun t ht=>(hk.data t ht).gd⟩
theorem uFp {β : Type} (f : Itm→List β) (hf : ∀ r l,f (.fresh r l)=[]) (fs : List Fs) (k : Nat) : (frI fs k).flatMap f=[]:=by
 rw [List.flatMap_eq_nil_iff]
 intro i hi
 obtain ⟨r,l,rfl⟩:=uLY fs k i hi
 exact hf r l
theorem map_none {α β : Type} (f : Itm→List β) (g : α→Itm) (hf : ∀ x,f (g x)=[]) (l : List α) : (l.map g).flatMap f=[]:=by
 rw [List.flatMap_eq_nil_iff]
 intro i hi
 obtain ⟨x,_,rfl⟩:=List.mem_map.1 hi
 exact hf x
theorem uHO {α β : Type} (f : Itm→List β) (g : α→Itm) (e : α→β) (hf : ∀ x,f (g x)=[e x]) : ∀ l : List α,(l.map g).flatMap f=l.map e
 | []=>rfl
 | x :: l=>by rw [List.map_cons,List.flatMap_cons,hf,uHO f g e hf l]; rfl
theorem uOK (n : Nar) : n.itms.flatMap Itm.rolesOf=n.roles∧n.itms.flatMap Itm.freshOf=n.fresh∧n.itms.flatMap Itm.tagsOf=n.tags∧n.itms.flatMap Itm.stepsOf=n.steps.map Sp.el∧n.itms.flatMap Itm.goalsOf=n.goals.map Gl.el:=by
 have ht : ∀ {β : Type} (f : Itm→List β),(∀ l,f (.tags l)=[])→(if n.tags=[] then [] else [Itm.tags n.tags]).flatMap f=[]:=by
  intro β f hf
  split
  ·rfl
  ·simp [hf]
 have ht2 : (if n.tags=[] then [] else [Itm.tags n.tags]).flatMap Itm.tagsOf=n.tags:=by
  split
  ·rename_i h; rw [h]; rfl
  ·simp [Itm.tagsOf]
 unfold Nar.itms
 simp only [List.flatMap_append]
 refine ⟨?_,?_,?_,?_,?_⟩
 ·rw [uFp _ (fun _ _=>rfl),ht _ (fun _=>rfl),map_none _ _ (fun _=>rfl),map_none _ _ (fun _=>rfl)]
  simp [Itm.rolesOf]
 ·rw [uIf n.fresh _ (Nat.le_refl _),ht _ (fun _=>rfl),map_none _ _ (fun _=>rfl),map_none _ _ (fun _=>rfl)]
  simp [Itm.freshOf]
 ·rw [uFp _ (fun _ _=>rfl),ht2,map_none _ _ (fun _=>rfl),map_none _ _ (fun _=>rfl)]
  simp [Itm.tagsOf]
 ·rw [uFp _ (fun _ _=>rfl),ht _ (fun _=>rfl),uHO _ _ Sp.el (fun _=>rfl),map_none _ _ (fun _=>rfl)]
  simp [Itm.stepsOf]
 ·rw [uFp _ (fun _ _=>rfl),ht _ (fun _=>rfl),map_none _ _ (fun _=>rfl),uHO _ _ Gl.el (fun _=>rfl)]
  simp [Itm.goalsOf]
theorem uOv {n : Nar} {L : List Itm} (h1 : L.flatMap Itm.rolesOf=n.roles) (h2 : L.flatMap Itm.freshOf=n.fresh) (h3 : L.flatMap Itm.tagsOf=n.tags) (h4 : L.flatMap Itm.stepsOf=n.steps.map Sp.el) (h5 : L.flatMap Itm.goalsOf=n.goals.map Gl.el) :
  L.foldl addI { nar0 with name:=n.name } = n.el:=by
 rw [uKg,h1,h2,h3,h4,h5]; rfl
theorem uLr {n : Nar} (h : uAI n.name=true) : Toks true (uEh n) [nmT uDa,nmT n.name,syT 123] :=
 (((Toks.name (w:=uDa) (by decide)).app Toks.sp (.inr (frS (by decide)))).app ((Toks.name h).app (Toks.sp.app (Toks.sym (c:=123) (by decide)) (.inl rfl)) (.inr (frS (by decide)))) (.inl rfl) :
  Toks true ((uDa++[32])++(n.name++([32]++[123]))) (([nmT uDa]++[])++([nmT n.name]++([]++[syT 123]))))
theorem uLv : ∀ {L : List Itm},(∀ i ∈ L,i.ok)→Toks true (nl (L.map Itm.text)) (L.map Itm.tk).flatten
 | [],_=>Toks.nil
 | i :: L,h=>by
  have e : nl ((i :: L).map Itm.text)=i.text++([10]++nl (L.map Itm.text)):=by simp [nl]
  have e2 : ((i :: L).map Itm.tk).flatten=i.tk++([]++(L.map Itm.tk).flatten):=by simp
  rw [e,e2]
  exact (uL6 (h i (by simp))).app (Toks.nl.app (uLv fun j hj=>h j (by simp [hj])) (.inl rfl)) (.inl rfl)
theorem uMJ {n : Nar} (h : NarOk n) : Toks true n.text (uDu n.name n.itms):=by
 have e : n.text=uEh n++([10]++(nl (n.itms.map Itm.text)++([125]++[10]))):=by
  rw [n.text_eq]
  unfold Nar.lines
  rw [uCR,uCR]
  simp [nl]
 have e2 : uDu n.name n.itms=[nmT uDa,nmT n.name,syT 123]++([]++((n.itms.map Itm.tk).flatten++([syT 125]++[]))):=by simp [uDu]
 rw [e,e2]
 exact (uLr h.name).app (Toks.nl.app ((uLv h.itm_ok).app ((Toks.sym (c:=125) (by decide)).app Toks.nl (.inl rfl)) (.inl rfl)) (.inl rfl)) (.inl rfl)
theorem uL2 {n : Nar} (h : narE uAI n=0) {L : List Itm} (ho : ∀ i ∈ L,i.ok) (hL : L.foldl addI { nar0 with name:=n.name } = n.el) {l : List Tk} (hs : l.map (·.nl false)=uDu n.name L) : (uB2 l).1.el=n.el∧endE l (uB2 l).2=(0,0)∧narE uAI (uB2 l).1=0:=by
 have hp : Pln (uDu n.name L):=(Pln.nm _).cons ((Pln.nm _).cons ((Pln.sy _).cons ((uFZ L).app (Pln.sy _))))
 have hn : (uDu n.name L).map (·.nl false)=uDu n.name L:=by
  rw [List.map_congr_left (g:=id),List.map_id]
  intro t ht
  obtain ⟨q1,q2,q3⟩:=hp t ht
  cases t
  simp only at q3
  subst q3
  rfl
 have hsm : SmT l (uDu n.name L):=SmT.of_nl (by rw [hs,hn])
 obtain ⟨r1,r2⟩:=uNw hsm
 obtain ⟨r3,r4⟩:=uOa (nm:=n.name) ho
 rw [r3,hL] at r1
 have hel : n.el.el=n.el:=by
  simp [Nar.el,Sp.el,Gl.el,Function.comp_def]
 rw [hel] at r1
 refine ⟨r1,?_,?_⟩
 ·have e:=uOo hsm (uB2 l).2
  rw [r2,r4] at e
  rw [r2]
  exact e.2 e.1
 ·rw [← uLQ,r1,uLQ]; exact h
theorem uMo {n : Nar} (h : narE uAI n=0) : (tokP n.text).2=(0,0)∧(uB2 (tokP n.text).1).1.el=n.el∧endE (tokP n.text).1 (uB2 (tokP n.text).1).2=(0,0)∧narE uAI (uB2 (tokP n.text).1).1=0:=by
 have hok:=uHn h
 obtain ⟨t1,t2⟩ := (uMJ hok).end' (by have := hok.text_len; omega)
 obtain ⟨i1,i2,i3,i4,i5⟩:=uOK n
 exact ⟨t1,uL2 h hok.itm_ok (uOv i1 i2 i3 i4 i5) t2⟩
end Go.Proofs.YtnjjdbapadkomaaGreatDoor
