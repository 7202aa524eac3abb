/- Our abstract program logic and contracts of this seat's functions, part 4: no statement of its own (long names of ours are shortened by a program). -/
import Derived.Test.YtnjjdbapadkomaaGreatDoorM3
import Derived.Lib.Join
set_option linter.unusedVariables false
set_option linter.unusedSimpArgs false
namespace Go.Proofs.YtnjjdbapadkomaaGreatDoor
open Go Go.Abs
abbrev xnum (s : List UInt8) (r : Bool × Nat × Int) : X:=.tup [.c (.s (s.take r.2.1)), .c (.i .i64 r.2.2), .c (.b r.1)]
theorem uH7 (s : List UInt8) (hs : s.length≤2000000) : Ctr sys 125 [xs s] [] (xnum s (numA s 0 0)) none []:=by
 refine uAv Tryz.func125 rfl rfl rfl rfl rfl rfl ?_;refine uAe (uAb ?_);refine uAa rfl rfl rfl (uAd rfl gU) ?_;refine uAa rfl rfl rfl (uAd rfl gU) ?_;refine uAa rfl rfl rfl (uAd rfl gU) ?_;refine uAf ?_;refine uAe (uAb ?_);refine uAa rfl rfl rfl (uAd rfl gU) ?_;refine uAa rfl rfl rfl (uAd rfl gU) ?_;refine uAf ?_;refine uAn (s:=⟨[(0,_,_),(5,_,_),(6,_,_)],[],[],[]⟩) (uAj (⟨sx rfl,sx rfl,sx rfl,trivial⟩) trivial trivial) ?_;refine uAe ?_;refine uAt ?_;refine uAW (ι:=Nat × Int) { t:=[(0,_,_)],bx:=[],ow:=[] } (fun p=>[(5,true,xi (p.1 : Int)),(6,true,xi p.2)]) (fun p=>[]) (fun p=>p.1≤s.length∧0≤p.2∧p.2≤9223372036854775807∧numA (s.drop p.1) p.1 p.2=numA s 0 0) (fun p=>s.length - p.1) ((0,0)) (⟨by simp,by simp,by simp,rfl⟩) (uAj (⟨sx rfl,sx rfl,sx rfl,trivial⟩) trivial trivial) ?_
 intro p hok
 dsimp only [List.cons_append,List.nil_append] at *
 obtain ⟨k,v⟩:=p
 dsimp only at hok ⊢
 obtain ⟨hk,hv0,hv1,hi⟩:=hok
 refine uAe ?_;refine uAe (uAb ?_);refine uAa rfl rfl rfl (uAc rfl gU) ?_;refine uAa rfl rfl rfl (uAc rfl gU) ?_;refine uBj rfl rfl rfl rfl rfl gU (Tryz.underlying9) ?_ (fun hh=>by simp at hh); intro hlen;refine uAa rfl rfl rfl (uAk rfl rfl gU gU rfl) ?_;refine uAa rfl rfl rfl (uAc rfl gU) ?_;refine uAa rfl rfl rfl (uAc rfl gU) ?_;refine uAa rfl rfl rfl (uAc rfl gU) ?_;refine uAa rfl rfl rfl (uAC (j:=k) rfl rfl (fun hh=>hh) (fun hh=>hh) Tryz.underlying9 (by first | omega | (simp at hh ⊢; omega)) (fun hh=>by first | omega | (simp at hh ⊢; omega))) ?_;refine uAw rfl rfl rfl rfl rfl rfl gU (fun hh=>gA ((fun hh=>hh) hh) (rfl)) (uC4 _ _ rfl) rfl ?_;refine uAa rfl rfl rfl (uAk rfl rfl (fun hh=>hh) gU rfl) ?_;refine uAa rfl rfl rfl (uAO rfl rfl gU (fun _ hi=>gP rfl hi)) ?_;refine uAf ?_;refine uAn (s:=⟨[(0,_,_),(5,_,_),(6,_,_),(18,_,_)],[],[],[]⟩) (uAj (⟨sx rfl,sx rfl,sx rfl,sx rfl,trivial⟩) trivial trivial) ?_;refine uAl rfl (fun hc=>?_) (fun hc=>?_)
 ·try simp only [nn,uAh,Tk.rows_len] at hc
  have hd:=(uDs (s.getD k 0)).2.1.1 hc.2
  have hd2:=uHy hd
  rw [uA6 (by omega),numA,if_pos hd] at hi
  refine uAp ?_;refine uAt ?_;refine uAe (uAb ?_);refine uAa rfl rfl rfl (uAc rfl gU) ?_;refine uAa rfl rfl rfl (uAc rfl gU) ?_;refine uAa rfl rfl rfl (uAC (j:=k) rfl rfl gU gU Tryz.underlying9 (by first | omega | (simp at hh ⊢; omega)) (fun hh=>by first | omega | (simp at hh ⊢; omega))) ?_;refine uAa rfl rfl rfl (uAr rfl rfl gU gU rfl (IntWalk.u8_in _ (by omega))) ?_;refine uAa rfl rfl rfl (uCV rfl gU ⟨_,Tryz.underlying5⟩ (Tryz.underlying2) (IntWalk.i64_in _ (by omega))) ?_;refine uAa rfl rfl rfl (uAd rfl gU) ?_;refine uAf ?_;refine uAn (s:=⟨[(0,_,_),(5,_,_),(6,_,_),(7,_,_)],[],[],[]⟩) (uAj (⟨sx rfl,sx rfl,sx rfl,sx rfl,trivial⟩) trivial trivial) ?_;refine uAe ?_;refine uAe (uAb ?_);refine uAa rfl rfl rfl (uAc rfl gU) ?_;refine uAa rfl rfl rfl (uAc rfl gU) ?_;refine uAa rfl rfl rfl (uAr rfl rfl gU gU rfl (IntWalk.i64_in _ (by omega))) ?_;refine uAa rfl rfl rfl (uHm rfl rfl gU gU (fun hh=>by first | omega | (simp at hh ⊢; omega)) (fun hh=>(congrArg IntKind.i64.wrap (Int.tdiv_eq_ediv_of_nonneg (by first | omega | (simp at hh ⊢; omega)))).trans (IntWalk.i64_in _ (by omega)))) ?_;refine uAa rfl rfl rfl (uAk rfl rfl gU gU rfl) ?_;refine uAf ?_;refine uAn (s:=⟨[(0,_,_),(5,_,_),(6,_,_),(7,_,_),(28,_,_)],[],[],[]⟩) (uAj (⟨sx rfl,sx rfl,sx rfl,sx rfl,sx rfl,trivial⟩) trivial trivial) ?_
  refine uAl rfl (fun hc2=>?_) (fun hc2=>?_)
  ·try simp only [nn,uAh,Tk.rows_len] at hc2
   rw [if_pos (by omega)] at hi
   refine uAe (uAb ?_);refine uAa rfl rfl rfl (uAd rfl gU) ?_;refine uAa rfl rfl rfl (uAd rfl gU) ?_;refine uAa rfl rfl rfl (uAd rfl gU) ?_;refine uAf ?_;refine uAo ?_
   repeat (first | refine tR ?_ | refine bR ?_)
   refine uAq rfl ?_ trivial
   (rw [← hi]; rfl)
  ·try simp only [nn,uAh,Tk.rows_len] at hc2
   rw [if_neg (by omega)] at hi
   refine uAp ?_;refine uAe (uAb ?_);refine uAa rfl rfl rfl (uAc rfl gU) ?_;refine uAa rfl rfl rfl (uAr rfl rfl gU gU rfl (IntWalk.i64_in _ (by omega))) ?_;refine uAa rfl rfl rfl (uAc rfl gU) ?_;refine uAa rfl rfl rfl (uAr rfl rfl gU gU rfl (IntWalk.i64_in _ (by omega))) ?_;refine uAa rfl rfl rfl (uAd rfl gU) ?_;refine uAf ?_;refine uAn (s:=⟨[(0,_,_),(5,_,_),(6,_,_)],[],[],[]⟩) (uAj (⟨sx rfl,sx rfl,sx rfl,trivial⟩) trivial trivial) ?_;refine uAb ?_;refine uAa rfl rfl rfl (uAc rfl gU) ?_;refine uAa rfl rfl rfl (uAr rfl rfl gU gU rfl (IntWalk.i64_in _ (by omega))) ?_;refine uAa rfl rfl rfl (uAd rfl gU) ?_;refine uAf ?_;refine ⟨(k + 1,10 * v + (((s.getD k 0).toNat : Int) - 48)),?_,?_,uAj (⟨⟨_,rfl,?_⟩,⟨⟨_,rfl,?_⟩,⟨sx rfl,trivial⟩⟩⟩) trivial trivial⟩
   all_goals (first | rfl | omega | exact ⟨by omega,by omega,by omega,hi⟩)
 ·try simp only [nn,uAh,Tk.rows_len] at hc
  have hn : numA (s.drop k) k v=(true,k,v):=by
   by_cases hlt : k < s.length
   ·rw [uA6 hlt,numA,if_neg]
    intro q
    have := (uDs (s.getD k 0)).2.1.2 q
    omega
   ·rw [List.drop_of_length_le (by omega)]; rfl
  rw [hn] at hi
  refine uAL ?_
  repeat (first | refine uAF ?_ | refine uAE ?_ | refine uAB rfl ?_)
  refine uAe (uAb ?_);refine uAa rfl rfl rfl (uAc rfl gU) ?_;refine uAa rfl rfl rfl (uAc rfl gU) ?_;refine uAa rfl rfl rfl (uBe (h':=k) rfl gU Tryz.underlying9 (fun _=>rfl) (fun _=>⟨_,_,_,rfl,gU,by first | omega | (simp at hh ⊢; omega)⟩) (fun hh=>by first | omega | (simp at hh ⊢; omega)) (fun hh=>by first | omega | (simp at hh ⊢; omega))) ?_;refine uAa rfl rfl rfl (uAc rfl gU) ?_;refine uAa rfl rfl rfl (uAd rfl gU) ?_;refine uAa rfl rfl rfl (uAd rfl gU) ?_;refine uAa rfl rfl rfl (uAd rfl gU) ?_;refine uAf ?_;refine uAo ?_
  repeat (first | refine tR ?_ | refine bR ?_)
  refine uAq rfl ?_ trivial
  (rw [← hi]; rfl)
theorem uMN (c : UInt8) : (uBd (c.toNat : Int)=true→clsE c=2)∧(uBt (c.toNat : Int)=true→clsE c=3)∧(c.toNat=34→clsE c=5)∧(uBd (c.toNat : Int)≠true→uBt (c.toNat : Int)≠true→c.toNat≠34→(symB c=true→clsE c=4∨clsE c=1)∧(symB c≠true→clsE c=0∨clsE c=1)):=by
 refine ⟨(uDs c).1.2,(uDs c).2.1.2,fun h=>?_,fun h1 h2 h3=>⟨fun h4=>?_,fun h4=>?_⟩⟩
 ·unfold clsE
  rw [if_neg (by simp [uCe]; omega),if_neg (by simp [uBd]; omega),if_neg (by simp [uBt]; omega),if_pos h]
 ·unfold clsE
  rw [if_neg h1,if_neg h2,if_neg h3,if_pos h4]
  split <;> simp
 ·unfold clsE
  rw [if_neg h1,if_neg h2,if_neg h3,if_neg h4]
  split <;> simp
theorem uM0 {t u : Tk} {a b e : Int} (h : t=u) (h2 : a=b) : X.tup [.agg t.cells, .c (.i .i64 a), .c (.i .i64 e)]=X.tup [.agg u.cells, .c (.i .i64 b), .c (.i .i64 e)]:=by rw [h,h2]
theorem uJB (s : List UInt8) (k ki : Int) (h : 0 < s.length) (hs : s.length≤2000000) (hk : ki=k) (hw : clsE (s.getD 0 0)≠1) : Ctr sys 74 [xs s,xi ki] [] (xnx (uBv s k)) none []:=by
 subst hk
 have h1:=uJH s
 have h2 : (s.take (wdN s)).length=wdN s:=by rw [List.length_take]; omega
 have h3:=uH2 s h
 have h4:=uF2 s 0 0 (by omega)
 have h5 : (s.take (numA s 0 0).2.1).length=(numA s 0 0).2.1:=by rw [List.length_take]; omega
 obtain ⟨c1,c2,c3,c4⟩:=uMN (s.getD 0 0)
 obtain ⟨d1,d2,-⟩:=uDs (s.getD 0 0)
 refine uAv Tryz.func74 rfl rfl rfl rfl rfl rfl ?_;refine uAe (uAb ?_);refine uAu rfl (uAP rfl rfl rfl) ?_;refine uAa rfl rfl rfl (uAd rfl gU) ?_;refine uAa rfl rfl rfl (uAd rfl gU) ?_;refine uAf ?_;refine uAe ?_;refine uAe (uAb ?_);refine uAa rfl rfl rfl (uAc rfl gU) ?_;refine uAa rfl rfl rfl (uAC (j:=0) rfl rfl gU gU Tryz.underlying9 (by first | omega | (simp at hh ⊢; omega)) (fun hh=>by first | omega | (simp at hh ⊢; omega))) ?_;refine uAw rfl rfl rfl rfl rfl rfl gU gU (uC4 _ _ rfl) rfl ?_;refine uAf ?_;refine uAn (s:=⟨[(0,_,_),(1,_,_),(4,_,_),(15,_,_)],[(.l 4,_)],[],[]⟩) (uAj (⟨sx rfl,sx rfl,sx rfl,sx rfl,trivial⟩) (⟨sx rfl,trivial⟩) trivial) ?_;refine uAt ?_;refine uAe (uAb ?_);refine uAa rfl rfl rfl (uAk rfl rfl gU gU rfl) ?_;refine uAa rfl rfl rfl (uAd rfl gU) ?_;refine uAf ?_;refine uAl rfl (fun hc=>?_) (fun hc=>?_)
 ·try simp only [nn,uAh,Tk.rows_len] at hc
  rw [uBv,if_pos (d1.1 hc)]
  refine uAe (uAb ?_);refine uAa rfl rfl rfl (uAc rfl gU) ?_;refine uAw rfl rfl rfl rfl rfl rfl gU gU (uLn _ (by omega)) rfl ?_;refine uAa rfl rfl rfl (uAd rfl gU) ?_;refine uAf ?_;refine uAn (s:=⟨[(1,_,_),(4,_,_),(7,_,_)],[(.l 4,_)],[],[]⟩) (uAj (⟨sx rfl,sx rfl,sx rfl,trivial⟩) (⟨sx rfl,trivial⟩) trivial) ?_;refine uAe ?_;refine uAe (uAb ?_);refine uAa rfl rfl rfl (uAc rfl gU) ?_;refine uBj rfl rfl rfl rfl rfl gU (Tryz.underlying9) ?_ (fun hh=>by simp at hh); intro hlen;refine uAa rfl rfl rfl (uAk rfl rfl gU gU rfl) ?_;refine uAf ?_;refine uAl rfl (fun hc2=>?_) (fun hc2=>?_)
  ·try simp only [nn,uAh,Tk.rows_len] at hc2
   refine uAe (uAb ?_);refine uAa rfl rfl rfl (uAU rfl Tryz.underlying50 rfl gU) ?_;refine uAu rfl (uAz rfl rfl rfl rfl rfl rfl rfl) ?_;refine uAa rfl rfl rfl (uAd rfl gU) ?_;refine uAa rfl rfl rfl (uAd rfl gU) ?_;refine uAf ?_;refine uAo ?_
   repeat (first | refine tR ?_ | refine bR ?_)
   refine uAq rfl ?_ trivial
   (rw [if_pos (by omega)]; rfl)
  ·try simp only [nn,uAh,Tk.rows_len] at hc2
   refine uAp ?_;refine uAe (uAb ?_);refine uAa rfl rfl rfl (uAc rfl gU) ?_;refine uAa rfl rfl rfl (uAc rfl gU) ?_;refine uAa rfl rfl rfl (uAU rfl Tryz.underlying50 rfl gU) ?_;refine uAa rfl rfl rfl (uAc rfl gU) ?_;refine uBj rfl rfl rfl rfl rfl gU (Tryz.underlying9) ?_ (fun hh=>by simp at hh); intro hlen;refine uAu rfl (uAz rfl rfl rfl rfl rfl rfl rfl) ?_;refine uAa rfl rfl rfl (uAd rfl gU) ?_;refine uAa rfl rfl rfl (uAd rfl gU) ?_;refine uAf ?_;refine uAo ?_
   repeat (first | refine tR ?_ | refine bR ?_)
   refine uAq rfl ?_ trivial
   (rw [if_neg (by omega)]; exact uM0 (t:=⟨1,s.take (wdN s),0,[],ki⟩) (u:=⟨1,s.take (wdN s),0,[],ki⟩) rfl (by dsimp only; omega))
 ·try simp only [nn,uAh,Tk.rows_len] at hc
  have e1 : ¬uBd ((s.getD 0 0).toNat : Int)=true:=fun q=>hc (c1 q)
  rw [uBv,if_neg e1]
  refine uAe (uAb ?_);refine uAa rfl rfl rfl (uAk rfl rfl gU gU rfl) ?_;refine uAa rfl rfl rfl (uAd rfl gU) ?_;refine uAf ?_;refine uAl rfl (fun hc2=>?_) (fun hc2=>?_)
  ·try simp only [nn,uAh,Tk.rows_len] at hc2
   rw [if_pos (d2.1 hc2)]
   refine uAe (uAb ?_);refine uAa rfl rfl rfl (uAc rfl gU) ?_;refine uAw rfl rfl rfl rfl rfl rfl gU gU (uH7 _ (by omega)) rfl ?_;refine uAa rfl rfl rfl (uAc rfl gU) ?_;refine uAa rfl rfl rfl (uAG rfl gU rfl) ?_;refine uAa rfl rfl rfl (uAG rfl gU rfl) ?_;refine uAa rfl rfl rfl (uAG rfl gU rfl) ?_;refine uAa rfl rfl rfl (uAd rfl gU) ?_;refine uAa rfl rfl rfl (uAd rfl gU) ?_;refine uBq (s:=⟨[(1,_,_),(4,_,_),(8,_,_),(9,_,_),(36,_,_)],[(.l 4,_)],[],[]⟩) (uAj (⟨sx rfl,sx rfl,sx rfl,sx rfl,sx rfl,trivial⟩) (⟨sx rfl,trivial⟩) trivial) ?_;refine uAa rfl rfl rfl (uAd rfl gU) ?_;refine uAf ?_;refine uAe ?_;refine uAe (uAb ?_);refine uAa rfl rfl rfl (uAc rfl gU) ?_;refine uAa rfl rfl rfl (uA1 rfl gU) ?_;refine uAf ?_;refine uAl rfl (fun hc3=>?_) (fun hc3=>?_)
   ·try simp only [nn,uAh,Tk.rows_len] at hc3
    refine uAe (uAb ?_);refine uAa rfl rfl rfl (uAU rfl Tryz.underlying50 rfl gU) ?_;refine uAu rfl (uAz rfl rfl rfl rfl rfl rfl rfl) ?_;refine uAa rfl rfl rfl (uAd rfl gU) ?_;refine uAa rfl rfl rfl (uAd rfl gU) ?_;refine uAf ?_;refine uAo ?_
    repeat (first | refine tR ?_ | refine bR ?_)
    refine uAq rfl ?_ trivial
    (rw [if_neg (by rw [hc3]; exact Bool.false_ne_true)]; rfl)
   ·try simp only [nn,uAh,Tk.rows_len] at hc3
    refine uAp ?_;refine uAe (uAb ?_);refine uAa rfl rfl rfl (uAc rfl gU) ?_;refine uAa rfl rfl rfl (uAc rfl gU) ?_;refine uAa rfl rfl rfl (uAU rfl Tryz.underlying50 rfl gU) ?_;refine uAa rfl rfl rfl (uAc rfl gU) ?_;refine uBj rfl rfl rfl rfl rfl gU (Tryz.underlying9) ?_ (fun hh=>by simp at hh); intro hlen;refine uAu rfl (uAz rfl rfl rfl rfl rfl rfl rfl) ?_;refine uAa rfl rfl rfl (uAd rfl gU) ?_;refine uAa rfl rfl rfl (uAd rfl gU) ?_;refine uAf ?_;refine uAo ?_
    repeat (first | refine tR ?_ | refine bR ?_)
    refine uAq rfl ?_ trivial
    (rw [if_pos hc3]; exact uM0 (t:=⟨2,[],(numA s 0 0).2.2,[],ki⟩) (u:=⟨2,[],(numA s 0 0).2.2,[],ki⟩) rfl (by dsimp only; omega))
  ·try simp only [nn,uAh,Tk.rows_len] at hc2
   have e2 : ¬uBt ((s.getD 0 0).toNat : Int)=true:=fun q=>hc2 (c2 q)
   rw [if_neg e2]
   refine uAe (uAb ?_);refine uAa rfl rfl rfl (uAk rfl rfl gU gU rfl) ?_;refine uAa rfl rfl rfl (uAd rfl gU) ?_;refine uAf ?_;refine uAn (s:=⟨[(0,_,_),(1,_,_),(4,_,_),(15,_,_),(45,_,_)],[(.l 4,_)],[],[]⟩) (uAj (⟨sx rfl,sx rfl,sx rfl,sx rfl,sx rfl,trivial⟩) (⟨sx rfl,trivial⟩) trivial) ?_;refine uAl rfl (fun hc3=>?_) (fun hc3=>?_)
   ·try simp only [nn,uAh,Tk.rows_len] at hc3
    have e3 : (s.getD 0 0).toNat=34:=by
     by_cases q : (s.getD 0 0).toNat=34
     ·exact q
     ·have := c4 e1 e2 q
      by_cases q2 : symB (s.getD 0 0)=true
      ·have := this.1 q2; omega
      ·have := this.2 q2; omega
    rw [if_pos e3]
    refine uAe (uAb ?_);refine uAa rfl rfl rfl (uAc rfl gU) ?_;refine uAw rfl rfl rfl rfl rfl rfl gU gU (uLm _ (by omega) (by omega)) rfl ?_;refine uAa rfl rfl rfl (uAc rfl gU) ?_;refine uAa rfl rfl rfl (uAG rfl gU rfl) ?_;refine uAa rfl rfl rfl (uAG rfl gU rfl) ?_;refine uAa rfl rfl rfl (uAd rfl gU) ?_;refine uAa rfl rfl rfl (uAd rfl gU) ?_;refine uAf ?_;refine uAn (s:=⟨[(1,_,_),(4,_,_),(11,_,_),(12,_,_)],[(.l 4,_)],[],[]⟩) (uAj (⟨sx rfl,sx rfl,sx rfl,sx rfl,trivial⟩) (⟨sx rfl,trivial⟩) trivial) ?_;refine uAe (uAb ?_);refine uAa rfl rfl rfl (uAc rfl gU) ?_;refine uAa rfl rfl rfl (uAk rfl rfl gU gU rfl) ?_;refine uAf ?_;refine uAl rfl (fun hc4=>?_) (fun hc4=>?_)
    ·try simp only [nn,uAh,Tk.rows_len] at hc4
     refine uAe (uAb ?_);refine uAa rfl rfl rfl (uAc rfl gU) ?_;refine uAa rfl rfl rfl (uAc rfl gU) ?_;refine uAa rfl rfl rfl (uAU rfl Tryz.underlying50 rfl gU) ?_;refine uAa rfl rfl rfl (uAc rfl gU) ?_;refine uAu rfl (uAz rfl rfl rfl rfl rfl rfl rfl) ?_;refine uAa rfl rfl rfl (uAd rfl gU) ?_;refine uAa rfl rfl rfl (uAd rfl gU) ?_;refine uAf ?_;refine uAo ?_
     repeat (first | refine tR ?_ | refine bR ?_)
     refine uAq rfl ?_ trivial
     (rw [if_neg (by omega)]; rfl)
    ·try simp only [nn,uAh,Tk.rows_len] at hc4
     refine uAp ?_;refine uAe (uAb ?_);refine uAa rfl rfl rfl (uAU rfl Tryz.underlying50 rfl gU) ?_;refine uAu rfl (uAz rfl rfl rfl rfl rfl rfl rfl) ?_;refine uAa rfl rfl rfl (uAd rfl gU) ?_;refine uAa rfl rfl rfl (uAd rfl gU) ?_;refine uAf ?_;refine uAo ?_
     repeat (first | refine tR ?_ | refine bR ?_)
     refine uAq rfl ?_ trivial
     (rw [if_pos (by omega)]; rfl)
   ·try simp only [nn,uAh,Tk.rows_len] at hc3
    have e3 : ¬(s.getD 0 0).toNat=34:=fun q=>hc3 (c3 q)
    rw [if_neg e3]
    refine uAe (uAb ?_);refine uAa rfl rfl rfl (uAk rfl rfl gU gU rfl) ?_;refine uAa rfl rfl rfl (uAd rfl gU) ?_;refine uAf ?_;refine uAl rfl (fun hc4=>?_) (fun hc4=>?_)
    ·try simp only [nn,uAh,Tk.rows_len] at hc4
     have e4 : symB (s.getD 0 0)=true:=by
      by_cases q2 : symB (s.getD 0 0)=true
      ·exact q2
      ·have := (c4 e1 e2 e3).2 q2; omega
     refine uAe (uAb ?_);refine uAa rfl rfl rfl (uAc rfl gU) ?_;refine uAa rfl rfl rfl (uBe (h':=1) rfl gU Tryz.underlying9 (fun _=>rfl) (fun _=>⟨_,_,_,rfl,gU,by first | omega | (simp at hh ⊢; omega)⟩) (fun hh=>by first | omega | (simp at hh ⊢; omega)) (fun hh=>by first | omega | (simp at hh ⊢; omega))) ?_;refine uAa rfl rfl rfl (uAc rfl gU) ?_;refine uAa rfl rfl rfl (uAU rfl Tryz.underlying50 rfl gU) ?_;refine uAu rfl (uAz rfl rfl rfl rfl rfl rfl rfl) ?_;refine uAa rfl rfl rfl (uAd rfl gU) ?_;refine uAa rfl rfl rfl (uAd rfl gU) ?_;refine uAf ?_;refine uAo ?_
     repeat (first | refine tR ?_ | refine bR ?_)
     refine uAq rfl ?_ trivial
     (rw [if_pos e4]; rfl)
    ·try simp only [nn,uAh,Tk.rows_len] at hc4
     have e4 : ¬symB (s.getD 0 0)=true:=by
      intro q2
      have := (c4 e1 e2 e3).1 q2
      omega
     refine uAp ?_;refine uAe (uAb ?_);refine uAa rfl rfl rfl (uAU rfl Tryz.underlying50 rfl gU) ?_;refine uAu rfl (uAz rfl rfl rfl rfl rfl rfl rfl) ?_;refine uAa rfl rfl rfl (uAd rfl gU) ?_;refine uAa rfl rfl rfl (uAd rfl gU) ?_;refine uAf ?_;refine uAo ?_
     repeat (first | refine tR ?_ | refine bR ?_)
     refine uAq rfl ?_ trivial
     (rw [if_neg e4]; rfl)
theorem uJr (s : List UInt8) (hs : s.length≤2000000) : Ctr sys 24 [xs s] [] (xss (lnsR s)) none []:=by
 refine uAv Tryz.func24 rfl rfl rfl rfl rfl rfl ?_;refine uAe (uAb ?_);refine uAu rfl (uBn (.inr rfl) rfl rfl) ?_;refine uAf ?_;refine uAe (uAb ?_);refine uAu rfl (uBn (.inr rfl) rfl rfl) ?_;refine uAf ?_;refine uAe (uAb ?_);refine uAa rfl rfl rfl (uAd rfl gU) ?_;refine uAf ?_;refine uAe ?_;refine uAe (uAb ?_);refine uAa rfl rfl rfl (uAd rfl gU) ?_;refine uAf ?_;refine uAt ?_;refine uAW (ι:=Nat × List UInt8 × List (List UInt8)) { t:=[(0,_,_)],bx:=[],ow:=[(.t 3,_)] } (fun p=>[(5,true,xi (p.1 : Int)),(4,true,xs p.2.1),(3,true,xss p.2.2)]) (fun p=>[]) (fun p=>p.1≤s.length∧p.2.1.length≤p.1∧p.2.2.length≤p.1∧lnsA (s.drop p.1) p.2.1 p.2.2=lnsR s) (fun p=>s.length - p.1) ((0,[],[])) (⟨by simp,by simp,by simp,rfl⟩) (uAj (⟨sx rfl,sx rfl,sx rfl,sx rfl,trivial⟩) trivial (⟨rfl,trivial⟩)) ?_
 intro p hok
 dsimp only [List.cons_append,List.nil_append] at *
 obtain ⟨k,line,out⟩:=p
 dsimp only at hok ⊢
 obtain ⟨hk,hl,ho,hi⟩:=hok
 refine uAe ?_;refine uAe (uAb ?_);refine uAa rfl rfl rfl (uAc rfl gU) ?_;refine uAa rfl rfl rfl (uAc rfl gU) ?_;refine uBj rfl rfl rfl rfl rfl gU (Tryz.underlying9) ?_ (fun hh=>by simp at hh); intro hlen;refine uAa rfl rfl rfl (uAk rfl rfl gU gU rfl) ?_;refine uAf ?_;refine uAl rfl (fun hc=>?_) (fun hc=>?_)
 ·try simp only [nn,uAh,Tk.rows_len] at hc
  rw [uA6 (by omega),lnsA] at hi
  refine uAp ?_;refine uAe ?_;refine uAt ?_;refine uAe ?_;refine uAe (uAb ?_);refine uAa rfl rfl rfl (uAc rfl gU) ?_;refine uAa rfl rfl rfl (uAc rfl gU) ?_;refine uAa rfl rfl rfl (uAC (j:=k) rfl rfl gU gU Tryz.underlying9 (by first | omega | (simp at hh ⊢; omega)) (fun hh=>by first | omega | (simp at hh ⊢; omega))) ?_;refine uAa rfl rfl rfl (uAk rfl rfl gU gU rfl) ?_;refine uAf ?_;refine uAn (s:=⟨[(0,_,_),(3,_,_),(4,_,_),(5,_,_),(15,_,_)],[],[(.t 3,_)],[]⟩) (uAj (⟨sx rfl,sx rfl,sx rfl,sx rfl,sx rfl,trivial⟩) trivial (⟨rfl,trivial⟩)) ?_;refine uAl rfl (fun hc2=>?_) (fun hc2=>?_)
  ·try simp only [nn,uAh,Tk.rows_len] at hc2
   rw [if_pos (by omega)] at hi
   refine uAe (uAb ?_);refine uAu rfl (uAH (.inl rfl) rfl rfl rfl) ?_;refine uAa rfl rfl rfl (uAc rfl gU) ?_;refine uAK (xs:=[_]) rfl rfl rfl rfl rfl rfl rfl rfl rfl gU rfl ?_;refine uAu rfl (uAZ rfl rfl rfl rfl rfl rfl rfl (by first | omega | (simp only [List.length_append,List.length_singleton,Tk.rows_len,uAh]; omega)) (by first | omega | (simp only [List.length_append,List.length_singleton,Tk.rows_len,uAh]; omega))) ?_;refine uAu rfl (uAH (.inr rfl) rfl rfl rfl) ?_;refine uAf ?_;refine uAn (s:=⟨[(0,_,_),(3,_,_),(5,_,_)],[],[(.t 3,_)],[]⟩) (uAj (⟨sx rfl,sx rfl,sx rfl,trivial⟩) trivial (⟨rfl,trivial⟩)) ?_;refine uAe (uAb ?_);refine uAa rfl rfl rfl (uAd rfl gU) ?_;refine uAf ?_;refine uAL ?_
   repeat (first | refine uAF ?_ | refine uAE ?_ | refine uAB rfl ?_)
   refine uAb ?_;refine uAa rfl rfl rfl (uAc rfl gU) ?_;refine uAa rfl rfl rfl (uAr rfl rfl gU gU rfl (IntWalk.i64_in _ (by omega))) ?_;refine uAa rfl rfl rfl (uAd rfl gU) ?_;refine uAf ?_;refine ⟨(k + 1,[],out++[line]),?_,?_,uAj (⟨⟨_,rfl,?_⟩,⟨⟨_,rfl,?_⟩,⟨⟨_,rfl,?_⟩,⟨sx rfl,trivial⟩⟩⟩⟩) trivial (⟨rfl,trivial⟩)⟩
   all_goals (first | rfl | omega | exact tx (uB8 out line) | (refine ⟨?_,?_,?_,hi⟩ <;> (simp <;> omega)))
  ·try simp only [nn,uAh,Tk.rows_len] at hc2
   rw [if_neg (by omega)] at hi
   have e1 : (s.take (k + 1)).drop k=[s.getD k 0]:=by
    rw [uA6 (by simp; omega),List.drop_of_length_le (by simp; omega),uFb _ _ (by omega)]
   refine uAp ?_;refine uAb ?_;refine uAa rfl rfl rfl (uAc rfl gU) ?_;refine uAa rfl rfl rfl (uAc rfl gU) ?_;refine uAa rfl rfl rfl (uAc rfl gU) ?_;refine uAa rfl rfl rfl (uAc rfl gU) ?_;refine uAa rfl rfl rfl (uAr rfl rfl gU gU rfl (IntWalk.i64_in _ (by omega))) ?_;refine uAa rfl rfl rfl (uBe (l:=k) (h':=(k + 1)) rfl gU Tryz.underlying9 (fun _=>⟨_,_,_,rfl,gU,by first | omega | (simp at hh ⊢; omega)⟩) (fun _=>⟨_,_,_,rfl,gU,by first | omega | (simp at hh ⊢; omega)⟩) (fun hh=>by first | omega | (simp at hh ⊢; omega)) (fun hh=>by first | omega | (simp at hh ⊢; omega))) ?_;refine uAa rfl rfl rfl (uAD rfl rfl gU gU (by first | omega | (simp only [List.length_append,List.length_drop,List.length_take]; omega))) ?_;refine uAa rfl rfl rfl (uAd rfl gU) ?_;refine uAf ?_;refine uAn (s:=⟨[(0,_,_),(3,_,_),(4,_,_),(5,_,_)],[],[(.t 3,_)],[]⟩) (uAj (⟨sx rfl,sx rfl,sx rfl,sx rfl,trivial⟩) trivial (⟨rfl,trivial⟩)) ?_;refine uAb ?_;refine uAa rfl rfl rfl (uAc rfl gU) ?_;refine uAa rfl rfl rfl (uAr rfl rfl gU gU rfl (IntWalk.i64_in _ (by omega))) ?_;refine uAa rfl rfl rfl (uAd rfl gU) ?_;refine uAf ?_;refine ⟨(k + 1,line++[s.getD k 0],out),?_,?_,uAj (⟨⟨_,rfl,?_⟩,⟨⟨_,rfl,?_⟩,⟨⟨_,rfl,?_⟩,⟨sx rfl,trivial⟩⟩⟩⟩) trivial (⟨rfl,trivial⟩)⟩
   all_goals (first | rfl | omega | exact tx (congrArg xs (by rw [e1])) | (refine ⟨?_,?_,?_,hi⟩ <;> (simp <;> omega)))
 ·try simp only [nn,uAh,Tk.rows_len] at hc
  rw [List.drop_of_length_le (by omega),lnsA] at hi
  refine uAL ?_
  repeat (first | refine uAF ?_ | refine uAE ?_ | refine uAB rfl ?_)
  refine uAe ?_;refine uAe (uAb ?_);refine uAa rfl rfl rfl (uAc rfl gU) ?_;refine uAa rfl rfl rfl (uAY rfl rfl gU gU rfl) ?_;refine uAf ?_;refine uAn (s:=⟨[(3,_,_),(4,_,_),(28,_,_)],[],[(.t 3,_)],[]⟩) (uAj (⟨sx rfl,sx rfl,sx rfl,trivial⟩) trivial (⟨rfl,trivial⟩)) ?_;refine uAl rfl (fun hc2=>?_) (fun hc2=>?_)
  ·try simp only [nn,uAh,Tk.rows_len] at hc2
   rw [if_neg hc2] at hi
   refine uAb ?_;refine uAu rfl (uAH (.inl rfl) rfl rfl rfl) ?_;refine uAa rfl rfl rfl (uAc rfl gU) ?_;refine uAK (xs:=[_]) rfl rfl rfl rfl rfl rfl rfl rfl rfl gU rfl ?_;refine uAu rfl (uAZ rfl rfl rfl rfl rfl rfl rfl (by first | omega | (simp only [List.length_append,List.length_singleton,Tk.rows_len,uAh]; omega)) (by first | omega | (simp only [List.length_append,List.length_singleton,Tk.rows_len,uAh]; omega))) ?_;refine uAu rfl (uAH (.inr rfl) rfl rfl rfl) ?_;refine uAf ?_;refine uAn (s:=⟨[(3,_,_)],[],[(.t 3,_)],[]⟩) (uAj (⟨sx rfl,trivial⟩) trivial (⟨rfl,trivial⟩)) ?_;refine uAe (uAb ?_);refine uAu rfl (uAH (.inl rfl) rfl rfl rfl) ?_;refine uAu rfl (uAH (.inr rfl) rfl rfl rfl) ?_;refine uAf ?_;refine uAo ?_
   repeat (first | refine tR ?_ | refine bR ?_)
   refine uAq rfl ?_ trivial
   (rw [← hi]; exact uB8 out line)
  ·try simp only [nn,uAh,Tk.rows_len] at hc2
   rw [if_pos hc2] at hi
   refine uAp ?_;refine uAe (uAb ?_);refine uAu rfl (uAH (.inl rfl) rfl rfl rfl) ?_;refine uAu rfl (uAH (.inr rfl) rfl rfl rfl) ?_;refine uAf ?_;refine uAo ?_
   repeat (first | refine tR ?_ | refine bR ?_)
   refine uAq rfl ?_ trivial
   (rw [← hi]; rfl)
theorem uLc (s : List UInt8) : (uA5 s).length≤s.length:=by unfold uA5; rw [List.length_take]; omega
theorem uIc (s : List UInt8) (hs : s.length≤9223372036854775807) : Ctr sys 22 [xs s] [] (uMY (tokR s)) none []:=by
 have hsl:=uMo s
 refine uAv Tryz.func22 rfl rfl rfl rfl rfl rfl ?_;refine uAe (uAb ?_);refine uAu rfl (uBn (.inr rfl) rfl rfl) ?_;refine uAa rfl rfl rfl (uAd rfl gU) ?_;refine uAa rfl rfl rfl (uAd rfl gU) ?_;refine uAf ?_;refine uAe ?_;refine uAe (uAb ?_);refine uAa rfl rfl rfl (uAc rfl gU) ?_;refine uBj rfl rfl rfl rfl rfl gU (Tryz.underlying9) ?_ (fun hh=>by simp at hh); intro hlen;refine uAa rfl rfl rfl (uAk rfl rfl gU gU rfl) ?_;refine uAf ?_;refine uAn (s:=⟨[(0,_,_),(14,_,_)],[],[],[]⟩) (uAj (⟨sx rfl,sx rfl,trivial⟩) trivial trivial) ?_;refine uAl rfl (fun hc=>?_) (fun hc=>?_)
 ·try simp only [nn,uAh,Tk.rows_len] at hc
  refine uAe (uAb ?_);refine uAu rfl (uBn (.inr rfl) rfl rfl) ?_;refine uAa rfl rfl rfl (uAd rfl gU) ?_;refine uAa rfl rfl rfl (uAd rfl gU) ?_;refine uAf ?_;refine uAo ?_
  repeat (first | refine tR ?_ | refine bR ?_)
  refine uAq rfl ?_ trivial
  (rw [tokR,if_pos (by omega)]; rfl)
 ·try simp only [nn,uAh,Tk.rows_len] at hc
  rw [tokR,if_neg (by omega)]
  refine uAp ?_;refine uAe (uAb ?_);refine uAu rfl (uBn (.inr rfl) rfl rfl) ?_;refine uAf ?_;refine uAe (uAb ?_);refine uAa rfl rfl rfl (uAc rfl gU) ?_;refine uAw rfl rfl rfl rfl rfl rfl gU gU (uJr _ (by omega)) rfl ?_;refine uAa rfl rfl rfl (uAd rfl gU) ?_;refine uAf ?_;refine uAe ?_;refine uAe (uAb ?_);refine uAa rfl rfl rfl (uAd rfl gU) ?_;refine uAf ?_;refine uAn (s:=⟨[(5,_,_),(6,_,_),(7,_,_)],[],[(.t 5,_)],[]⟩) (uAj (⟨sx rfl,sx rfl,sx rfl,trivial⟩) trivial (⟨rfl,trivial⟩)) ?_;refine uAt ?_;refine uAW (ι:=Nat × List Tk) { t:=[(6,_,_)],bx:=[],ow:=[(.t 5,_)] } (fun p=>[(7,true,xi (p.1 : Int)),(5,true,xts p.2)]) (fun p=>[]) (fun p=>p.1≤(lnsR s).length∧p.2.length≤70000 * p.1∧uEO ((lnsR s).drop p.1) (p.1 + 1) p.2=uEO (lnsR s) 1 []) (fun p=>(lnsR s).length - p.1) ((0,[])) (⟨by simp,by simp,rfl⟩) (uAj (⟨sx rfl,sx rfl,sx rfl,trivial⟩) trivial (⟨rfl,trivial⟩)) ?_
  intro p hok
  dsimp only [List.cons_append,List.nil_append] at *
  obtain ⟨k,out⟩:=p
  dsimp only at hok ⊢
  obtain ⟨hk,ho,hi⟩:=hok
  have hL:=uLD s k
  have hB:=uLc ((lnsR s).getD k [])
  refine uAe ?_;refine uAe (uAb ?_);refine uAa rfl rfl rfl (uAc rfl gU) ?_;refine uAa rfl rfl rfl (uAc rfl gU) ?_;refine uAQ rfl rfl rfl rfl rfl gU rfl rfl ?_ (fun hh=>by simp at hh); intro hlen;refine uAa rfl rfl rfl (uAk rfl rfl gU gU rfl) ?_;refine uAf ?_;refine uAl rfl (fun hc2=>?_) (fun hc2=>?_)
  ·try simp only [nn,uAh,Tk.rows_len] at hc2
   rw [uI8 (d:=[]) (by omega),uEO] at hi
   refine uAp ?_;refine uAe ?_;refine uAt ?_;refine uAe (uAb ?_);refine uAa rfl rfl rfl (uAc rfl gU) ?_;refine uAa rfl rfl rfl (uAc rfl gU) ?_;refine uAa rfl rfl rfl (uAy rfl rfl gU gU rfl rfl rfl (fun hh=>uCK (by first | omega | (simp at hh ⊢; omega)))) ?_;refine uAa rfl rfl rfl (uAX rfl gU rfl rfl rfl) ?_;refine uAw rfl rfl rfl rfl rfl rfl gU gU (uLi _ (by omega)) rfl ?_;refine uAa rfl rfl rfl (uAd rfl gU) ?_;refine uAf ?_;refine uAn (s:=⟨[(5,_,_),(6,_,_),(7,_,_),(8,_,_)],[],[(.t 5,_)],[]⟩) (uAj (⟨sx rfl,sx rfl,sx rfl,sx rfl,trivial⟩) trivial (⟨rfl,trivial⟩)) ?_;refine uAt ?_;refine uAW (ι:=List UInt8 × List Tk) { t:=[(6,_,_),(7,_,_)],bx:=[],ow:=[(.t 5,_)] } (fun q=>[(8,true,xs q.1),(5,true,xts q.2)]) (fun q=>[]) (fun q=>q.1.length≤(uA5 ((lnsR s).getD k [])).length∧q.2.length + q.1.length≤out.length + (uA5 ((lnsR s).getD k [])).length ∧ ∃ n,q.1.length < n∧uCx n q.1 ((k + 1 : Nat) : Int) q.2=uCx ((uA5 ((lnsR s).getD k [])).length + 1) (uA5 ((lnsR s).getD k [])) ((k + 1 : Nat) : Int) out) (fun q=>q.1.length) ((uA5 ((lnsR s).getD k []),out)) (⟨by simp,by simp,_,by dsimp only; omega,rfl⟩) (uAj (⟨sx rfl,sx rfl,sx rfl,sx rfl,trivial⟩) trivial (⟨rfl,trivial⟩)) ?_
   intro q hokq
   dsimp only [List.cons_append,List.nil_append] at *
   obtain ⟨l,o2⟩:=q
   dsimp only at hokq ⊢
   obtain ⟨hl,ho2,n,hn,hi2⟩:=hokq
   obtain ⟨n,rfl⟩ : ∃ m,n=m + 1:=⟨n - 1,by omega⟩
   refine uAe ?_;refine uAe (uAb ?_);refine uAa rfl rfl rfl (uAc rfl gU) ?_;refine uBj rfl rfl rfl rfl rfl gU (Tryz.underlying9) ?_ (fun hh=>by simp at hh); intro hlen;refine uAa rfl rfl rfl (uAk rfl rfl gU gU rfl) ?_;refine uAf ?_;refine uAl rfl (fun hc3=>?_) (fun hc3=>?_)
   ·try simp only [nn,uAh,Tk.rows_len] at hc3
    have hne : 0 < l.length:=by omega
    have hcons : l=l.getD 0 0 :: l.drop 1 := by have := uA6 hne; rwa [List.drop_zero] at this
    have hx : uCx (n + 1) l ((k + 1 : Nat) : Int) o2=if uCe (l.getD 0 0)=true then uCx n (l.drop 1) ((k + 1 : Nat) : Int) o2 else if (uBv l ((k + 1 : Nat) : Int)).2.2≠0 then ([],(uBv l ((k + 1 : Nat) : Int)).2.2)
      else uCx n (l.drop (uBv l ((k + 1 : Nat) : Int)).2.1) ((k + 1 : Nat) : Int) (o2++[(uBv l ((k + 1 : Nat) : Int)).1]):=by
     generalize hg : l.getD 0 0=c at hcons ⊢
     generalize hg2 : l.drop 1=r at hcons ⊢
     subst hcons
     rw [uCx]
    rw [hx] at hi2
    refine uAp ?_;refine uAt ?_;refine uAe ?_;refine uAe (uAb ?_);refine uAa rfl rfl rfl (uAc rfl gU) ?_;refine uAa rfl rfl rfl (uAC (j:=0) rfl rfl gU gU Tryz.underlying9 (by first | omega | (simp at hh ⊢; omega)) (fun hh=>by first | omega | (simp at hh ⊢; omega))) ?_;refine uAw rfl rfl rfl rfl rfl rfl gU gU (uC4 _ _ rfl) rfl ?_;refine uAa rfl rfl rfl (uAk rfl rfl gU gU rfl) ?_;refine uAf ?_;refine uAn (s:=⟨[(5,_,_),(6,_,_),(7,_,_),(8,_,_),(34,_,_)],[],[(.t 5,_)],[]⟩) (uAj (⟨sx rfl,sx rfl,sx rfl,sx rfl,sx rfl,trivial⟩) trivial (⟨rfl,trivial⟩)) ?_;refine uAl rfl (fun hc4=>?_) (fun hc4=>?_)
    ·try simp only [nn,uAh,Tk.rows_len] at hc4
     rw [if_pos ((uDs _).2.2.1 hc4)] at hi2
     refine uAe (uAb ?_);refine uAa rfl rfl rfl (uAc rfl gU) ?_;refine uAa rfl rfl rfl (uBe (l:=1) rfl gU Tryz.underlying9 (fun _=>⟨_,_,_,rfl,gU,by first | omega | (simp at hh ⊢; omega)⟩) (fun _=>rfl) (fun hh=>by first | omega | (simp at hh ⊢; omega)) (fun hh=>by first | omega | (simp at hh ⊢; omega))) ?_;refine uAa rfl rfl rfl (uAd rfl gU) ?_;refine uAf ?_;refine uAL ?_
     repeat (first | refine uAF ?_ | refine uAE ?_ | refine uAB rfl ?_)
     refine ⟨(l.drop 1,o2),?_,?_,uAj (⟨⟨_,rfl,?_⟩,⟨⟨_,rfl,?_⟩,⟨sx rfl,sx rfl,trivial⟩⟩⟩) trivial (⟨rfl,trivial⟩)⟩
     all_goals first | rfl | exact tx (congrArg xs (by rw [List.take_length])) | (simp only [List.take_length,List.length_drop]; omega) | (refine ⟨?_,?_,n,?_,hi2⟩ <;> (simp only [List.length_drop]; omega))
    ·try simp only [nn,uAh,Tk.rows_len] at hc4
     rw [if_neg (fun q=>hc4 ((uDs _).2.2.2 q))] at hi2
     have hfl:=uLl (s:=l) (k:=((k + 1 : Nat) : Int)) hne
     refine uAp ?_;refine uAe (uAb ?_);refine uAa rfl rfl rfl (uAc rfl gU) ?_;refine uAa rfl rfl rfl (uAc rfl gU) ?_;refine uAa rfl rfl rfl (uAr rfl rfl gU gU rfl (IntWalk.i64_in _ (by omega))) ?_;refine uAw rfl rfl rfl rfl rfl rfl gU gU (uJB _ ((k + 1 : Nat) : Int) _ hne (by omega) (by omega) hc4) rfl ?_;refine uAa rfl rfl rfl (uAc rfl gU) ?_;refine uAa rfl rfl rfl (uAG rfl gU rfl) ?_;refine uAa rfl rfl rfl (uAG rfl gU rfl) ?_;refine uAa rfl rfl rfl (uAG rfl gU rfl) ?_;refine uAu rfl (uAP rfl rfl rfl) ?_;refine uAu rfl (uAz rfl rfl rfl rfl rfl rfl rfl) ?_;refine uAa rfl rfl rfl (uAd rfl gU) ?_;refine uAa rfl rfl rfl (uAd rfl gU) ?_;refine uAf ?_;refine uAn (s:=⟨[(5,_,_),(6,_,_),(7,_,_),(8,_,_),(9,_,_),(10,_,_),(11,_,_)],[(.l 9,_)],[(.t 5,_)],[]⟩) (uAj (⟨sx rfl,sx rfl,sx rfl,sx rfl,sx rfl,sx rfl,sx rfl,trivial⟩) (⟨sx rfl,trivial⟩) (⟨rfl,trivial⟩)) ?_;refine uAe ?_;refine uAe (uAb ?_);refine uAa rfl rfl rfl (uAc rfl gU) ?_;refine uAa rfl rfl rfl (uAk rfl rfl gU gU rfl) ?_;refine uAf ?_;refine uAl rfl (fun hc5=>?_) (fun hc5=>?_)
     ·try simp only [nn,uAh,Tk.rows_len] at hc5
      rw [if_pos hc5] at hi2
      rw [← hi2,if_pos hc5] at hi
      refine uAe (uAb ?_);refine uAa rfl rfl rfl (uAc rfl gU) ?_;refine uAa rfl rfl rfl (uAr rfl rfl gU gU rfl (IntWalk.i64_in _ (by omega))) ?_;refine uAa rfl rfl rfl (uAc rfl gU) ?_;refine uAu rfl (uBn (.inr rfl) rfl rfl) ?_;refine uAa rfl rfl rfl (uAd rfl gU) ?_;refine uAa rfl rfl rfl (uAd rfl gU) ?_;refine uAf ?_;refine uAo ?_
      repeat (first | refine tR ?_ | refine bR ?_)
      refine uAq rfl ?_ trivial
      (rw [← hi]; rfl)
     ·try simp only [nn,uAh,Tk.rows_len] at hc5
      have h4:=hfl.2 hc5
      rw [if_neg (fun q=>q hc5)] at hi2
      refine uAp ?_;refine uAe (uAb ?_);refine uAu rfl (uAH (.inl rfl) rfl rfl rfl) ?_;refine uAa rfl rfl rfl (uAs rfl gU rfl rfl rfl rfl rfl) ?_;refine uAK (xs:=[_]) rfl rfl rfl rfl rfl rfl rfl rfl rfl gU rfl ?_;refine uAu rfl (uAZ rfl rfl rfl rfl rfl rfl rfl (by first | omega | (simp only [List.length_append,List.length_singleton,Tk.rows_len,uAh]; omega)) (by first | omega | (simp only [List.length_append,List.length_singleton,Tk.rows_len,uAh]; omega))) ?_;refine uAu rfl (uAH (.inr rfl) rfl rfl rfl) ?_;refine uAf ?_;refine uAn (s:=⟨[(5,_,_),(6,_,_),(7,_,_),(8,_,_),(10,_,_)],[],[(.t 5,_)],[]⟩) (uAj (⟨sx rfl,sx rfl,sx rfl,sx rfl,sx rfl,trivial⟩) trivial (⟨rfl,trivial⟩)) ?_;refine uAb ?_;refine uAa rfl rfl rfl (uAc rfl gU) ?_;refine uAa rfl rfl rfl (uAc rfl gU) ?_;refine uAa rfl rfl rfl (uBe (l:=(uBv l ((k + 1 : Nat) : Int)).2.1) rfl gU Tryz.underlying9 (fun _=>⟨_,_,_,rfl,gU,by first | omega | (simp at hh ⊢; omega)⟩) (fun _=>rfl) (fun hh=>by first | omega | (simp at hh ⊢; omega)) (fun hh=>by first | omega | (simp at hh ⊢; omega))) ?_;refine uAa rfl rfl rfl (uAd rfl gU) ?_;refine uAf ?_;refine ⟨(l.drop (uBv l ((k + 1 : Nat) : Int)).2.1,o2++[(uBv l ((k + 1 : Nat) : Int)).1]),?_,?_,uAj (⟨⟨_,rfl,?_⟩,⟨⟨_,rfl,?_⟩,⟨sx rfl,sx rfl,trivial⟩⟩⟩) trivial (⟨rfl,trivial⟩)⟩
      all_goals first | rfl | exact tx (uJp o2 (uBv l ((k + 1 : Nat) : Int)).1) | exact tx (congrArg xs (by rw [List.take_length])) | (simp only [List.take_length,List.length_drop,List.length_append,List.length_singleton]; omega) | (refine ⟨?_,?_,n,?_,hi2⟩ <;> (simp only [List.length_drop,List.length_append,List.length_singleton]; omega))
   ·try simp only [nn,uAh,Tk.rows_len] at hc3
    have hnil : l=[]:=List.eq_nil_of_length_eq_zero (by omega)
    subst hnil
    rw [uCx] at hi2
    rw [← hi2] at hi
    refine uAL ?_
    repeat (first | refine uAF ?_ | refine uAE ?_ | refine uAB rfl ?_)
    refine uAb ?_;refine uAa rfl rfl rfl (uAc rfl gU) ?_;refine uAa rfl rfl rfl (uAr rfl rfl gU gU rfl (IntWalk.i64_in _ (by omega))) ?_;refine uAa rfl rfl rfl (uAd rfl gU) ?_;refine uAf ?_;refine ⟨(k + 1,o2),?_,?_,uAj (⟨⟨_,rfl,?_⟩,⟨⟨_,rfl,?_⟩,⟨sx rfl,trivial⟩⟩⟩) trivial (⟨rfl,trivial⟩)⟩
    all_goals first | rfl | omega | (refine ⟨by dsimp only; omega,by dsimp only; omega,?_⟩; exact hi)
  ·try simp only [nn,uAh,Tk.rows_len] at hc2
   rw [List.drop_of_length_le (by omega),uEO] at hi
   refine uAL ?_
   repeat (first | refine uAF ?_ | refine uAE ?_ | refine uAB rfl ?_)
   refine uAe (uAb ?_);refine uAu rfl (uAH (.inl rfl) rfl rfl rfl) ?_;refine uAu rfl (uAH (.inr rfl) rfl rfl rfl) ?_;refine uAa rfl rfl rfl (uAd rfl gU) ?_;refine uAa rfl rfl rfl (uAd rfl gU) ?_;refine uAf ?_;refine uAo ?_
   repeat (first | refine tR ?_ | refine bR ?_)
   refine uAq rfl ?_ trivial
   (rw [← hi]; rfl)
end Go.Proofs.YtnjjdbapadkomaaGreatDoor
namespace Go.Proofs.YtnjjdbapadkomaaGreatDoor
open Go Go.Abs
theorem uEJ (s : List UInt8) (hs : s.length≤9223372036854775807) : Ctr sys 103 [xs s] [] (xb (uAN s)) none []:=by
 refine uAv Tryz.func103 rfl rfl rfl rfl rfl rfl ?_;refine uAe (uAb ?_);refine uAa rfl rfl rfl (uAd rfl gU) ?_;refine uAf ?_;refine uAe (uAb ?_);refine uAa rfl rfl rfl (uAc rfl gU) ?_;refine uAa rfl rfl rfl (uAY rfl rfl gU gU rfl) ?_;refine uAa rfl rfl rfl (uAc rfl gU) ?_;refine uAa rfl rfl rfl (uAc rfl gU) ?_;refine uAa rfl rfl rfl (uAC (j:=0) rfl rfl (fun hh=>hh) gU Tryz.underlying9 (by first | omega | (simp at hh ⊢; exact List.length_pos_iff.2 hh) | (simp at hh ⊢; omega)) (fun hh=>by first | omega | (simp at hh ⊢; exact List.length_pos_iff.2 hh) | (simp at hh ⊢; omega))) ?_;refine uAw rfl rfl rfl rfl rfl rfl gU (fun hh=>gA ((fun hh=>hh) hh) (rfl)) (uDy _) rfl ?_;refine uAa rfl rfl rfl (uAO rfl rfl gU (fun _ hi=>gP rfl hi)) ?_;refine uAa rfl rfl rfl (uAc rfl gU) ?_;refine uAa rfl rfl rfl (uAc rfl gU) ?_;refine uAw rfl rfl rfl rfl rfl rfl gU (fun hh=>gA ((fun hh=>hh) hh) (rfl)) (uDK _ (by omega)) rfl ?_;refine uAa rfl rfl rfl (uAc rfl gU) ?_;refine uBq (s:=⟨[(0,_,_),(10,_,_),(12,_,_),(13,_,_)],[],[],[]⟩) (uAj (⟨sx rfl,sx rfl,sx rfl,sx rfl,trivial⟩) trivial trivial) ?_;refine uAa rfl rfl rfl (uBK rfl (fun hh=>hh) (Tryz.underlying9)) ?_;refine uAa rfl rfl rfl (uAk rfl rfl (fun hh=>hh) (fun hh=>hh) rfl) ?_;refine uAa rfl rfl rfl (uAO rfl rfl gU (fun _ hi=>gP rfl hi)) ?_
 refine uAa rfl rfl rfl (uAc rfl gU) ?_;refine uAa rfl rfl rfl (uAc rfl gU) ?_;refine uAa rfl rfl rfl (uBK rfl (fun hh=>hh) (Tryz.underlying9)) ?_;refine uAa rfl rfl rfl (uAk rfl rfl (fun hh=>hh) gU rfl) ?_;refine uAa rfl rfl rfl (uAO rfl rfl gU (fun _ hi=>gP rfl hi)) ?_;refine uAa rfl rfl rfl (uAd rfl gU) ?_;refine uAf ?_;refine uAo ?_
 repeat (first | refine tR ?_ | refine bR ?_)
 refine uAq rfl ?_ trivial;refine uCu ?_
 unfold uAN
 rw [Bool.eq_iff_iff]
 simp only [Bool.and_eq_true,decide_eq_true_eq,bne_iff_ne,ne_eq]
 constructor
 ·rintro ⟨⟨⟨a,b⟩,c⟩,d⟩
  refine ⟨⟨⟨?_,b⟩,?_⟩,?_⟩
  ·simpa using a
  ·have c':=c; simp at c'; omega
  ·omega
 ·rintro ⟨⟨⟨a,b⟩,c⟩,d⟩
  refine ⟨⟨⟨?_,b⟩,?_⟩,?_⟩
  ·simpa using a
  ·simp; omega
  ·omega
def lnsP (s : List UInt8) : List (List UInt8):=if (spl s).getD ((spl s).length - 1) []=[] then (spl s).take ((spl s).length - 1) else spl s
theorem uLo (l : List (List UInt8)) (k : Nat) : (strR l).take k=strR (l.take k):=by simp [strR,List.map_take]
theorem uIC (s : List UInt8) (hs : s.length≤2000000) : Ctr sys 36 [xs s] [] (xss (lnsP s)) none []:=by
 have h1:=uFY s
 have h2 : 0 < (spl s).length:=List.length_pos_iff.2 (uGI s)
 refine uAv Tryz.func36 rfl rfl rfl rfl rfl rfl ?_;refine uAe (uAb ?_);refine uAa rfl rfl rfl (uAd rfl gU) ?_;refine uAf ?_;refine uAe (uAb ?_);refine uAa rfl rfl rfl (uAc rfl gU) ?_;refine uAw rfl rfl rfl rfl rfl rfl gU gU (uGh _ (by omega)) rfl ?_;refine uAa rfl rfl rfl (uAd rfl gU) ?_;refine uAf ?_;refine uAe ?_;refine uAe (uAb ?_);refine uAa rfl rfl rfl (uAc rfl gU) ?_;refine uAa rfl rfl rfl (uAc rfl gU) ?_;refine uAQ rfl rfl rfl rfl rfl gU rfl rfl ?_ (fun hh=>by simp at hh); intro hlen;refine uAa rfl rfl rfl (uAr rfl rfl gU gU rfl (IntWalk.i64_in _ (by omega))) ?_;refine uAa rfl rfl rfl (uAy (j:=((spl s).length - 1)) rfl rfl gU gU rfl rfl (by first | omega | (rw [uAh]; omega) | (simp only [uAh]; omega) | (simp at hh ⊢; omega)) (fun hh=>uCK (by first | omega | (rw [uAh]; omega) | (simp only [uAh]; omega) | (simp at hh ⊢; omega)))) ?_;refine uAa rfl rfl rfl (uAX rfl gU rfl rfl rfl) ?_;refine uAa rfl rfl rfl (uAY rfl rfl gU gU rfl) ?_;refine uAf ?_;refine uAn (s:=⟨[(3,_,_),(12,_,_)],[],[],[]⟩) (uAj (⟨sx rfl,sx rfl,trivial⟩) trivial trivial) ?_;refine uAl rfl (fun hc=>?_) (fun hc=>?_)
 ·try simp only [nn,uAh,Tk.rows_len] at hc
  refine uAb ?_;refine uAa rfl rfl rfl (uAc rfl gU) ?_;refine uAa rfl rfl rfl (uAc rfl gU) ?_;refine uAQ rfl rfl rfl rfl rfl gU rfl rfl ?_ (fun hh=>by simp at hh); intro hlen;refine uAa rfl rfl rfl (uAr rfl rfl gU gU rfl (IntWalk.i64_in _ (by omega))) ?_;refine uAa rfl rfl rfl (uJ8 (h':=((spl s).length - 1)) rfl gU rfl rfl (fun _=>rfl) (fun _=>⟨_,_,_,rfl,gU,by first | omega | (rw [uAh]; omega) | (simp only [uAh]; omega) | (simp at hh ⊢; omega)⟩) (fun hh=>by first | omega | (rw [uAh]; omega) | (simp only [uAh]; omega) | (simp at hh ⊢; omega)) (fun hh=>by first | omega | (rw [uAh]; omega) | (simp only [uAh]; omega) | (simp at hh ⊢; omega))) ?_;refine uAa rfl rfl rfl (uAd rfl gU) ?_;refine uAf ?_;refine uAn (s:=⟨[(3,_,_)],[],[],[]⟩) (uAj (⟨sx rfl,trivial⟩) trivial trivial) ?_;refine uAe (uAb ?_);refine uAa rfl rfl rfl (uAc rfl gU) ?_;refine uAa rfl rfl rfl (uAd rfl gU) ?_;refine uAf ?_;refine uAo ?_
  repeat (first | refine tR ?_ | refine bR ?_)
  refine uAq rfl ?_ trivial
  (rw [lnsP,if_pos (by simpa using hc),xss,← uLo]; rfl)
 ·try simp only [nn,uAh,Tk.rows_len] at hc
  refine uAp ?_;refine uAe (uAb ?_);refine uAa rfl rfl rfl (uAc rfl gU) ?_;refine uAa rfl rfl rfl (uAd rfl gU) ?_;refine uAf ?_;refine uAo ?_
  repeat (first | refine tR ?_ | refine bR ?_)
  refine uAq rfl ?_ trivial
  (rw [lnsP,if_neg (by simpa using hc)]; rfl)
theorem uEQ (s : List UInt8) (hs : s.length≤9223372036854775807) : Ctr sys 53 [xs s] [] (xb (rnmE s)) none []:=by
 have hr:=Tk.rows_len (tokR s).1
 refine uAv Tryz.func53 rfl rfl rfl rfl rfl rfl ?_;refine uAe (uAb ?_);refine uAa rfl rfl rfl (uAd rfl gU) ?_;refine uAf ?_;refine uAe (uAb ?_);refine uAa rfl rfl rfl (uAc rfl gU) ?_;refine uAw rfl rfl rfl rfl rfl rfl gU gU (uIc _ (by omega)) rfl ?_;refine uAa rfl rfl rfl (uAc rfl gU) ?_;refine uAa rfl rfl rfl (uAG rfl gU rfl) ?_;refine uAa rfl rfl rfl (uAG rfl gU rfl) ?_;refine uAa rfl rfl rfl (uAG rfl gU rfl) ?_;refine uAa rfl rfl rfl (uAd rfl gU) ?_;refine uAa rfl rfl rfl (uAd rfl gU) ?_;refine uAa rfl rfl rfl (uAd rfl gU) ?_;refine uAf ?_;refine uAn (s:=⟨[(0,_,_),(3,_,_),(5,_,_)],[],[],[]⟩) (uAj (⟨sx rfl,sx rfl,sx rfl,trivial⟩) trivial trivial) ?_;refine uAe (uAb ?_);refine uAa rfl rfl rfl (uAc rfl gU) ?_;refine uAa rfl rfl rfl (uAk rfl rfl gU gU rfl) ?_;refine uAa rfl rfl rfl (uAc rfl gU) ?_;refine uAa rfl rfl rfl (uAc rfl gU) ?_;refine uAa rfl rfl rfl (uBb rfl (fun hh=>hh) rfl rfl) ?_;refine uAa rfl rfl rfl (uAk rfl rfl (fun hh=>hh) gU rfl) ?_;refine uAa rfl rfl rfl (uAO rfl rfl gU (fun _ hi=>gP rfl hi)) ?_;refine uAa rfl rfl rfl (uAc rfl gU) ?_;refine uAa rfl rfl rfl (uAc rfl gU) ?_;refine uAa rfl rfl rfl (uAy (j:=0) rfl rfl (fun hh=>hh) gU rfl rfl (by first | omega | (simp at hh ⊢; omega) | (simp at hh; omega)) (fun hh=>Tk.rows_at (by first | omega | (simp at hh ⊢; omega) | (simp at hh; omega)))) ?_
 refine uAa rfl rfl rfl (uA8 rfl (fun hh=>hh) rfl rfl) ?_;refine uAa rfl rfl rfl (uAX rfl (fun hh=>hh) rfl rfl rfl) ?_;refine uBq (s:=⟨[(0,_,_),(3,_,_),(19,_,_),(23,_,_)],[],[],[]⟩) (uAj (⟨sx rfl,sx rfl,sx rfl,sx rfl,trivial⟩) trivial trivial) ?_;refine uAa rfl rfl rfl (uAk rfl rfl (fun hh=>hh) gU rfl) ?_;refine uAa rfl rfl rfl (uAO rfl rfl gU (fun _ hi=>gP rfl hi)) ?_;refine uAa rfl rfl rfl (uAc rfl gU) ?_;refine uAa rfl rfl rfl (uAc rfl gU) ?_;refine uAa rfl rfl rfl (uAy (j:=0) rfl rfl (fun hh=>hh) gU rfl rfl (by first | omega | (simp at hh ⊢; omega) | (simp at hh; omega)) (fun hh=>Tk.rows_at (by first | omega | (simp at hh ⊢; omega) | (simp at hh; omega)))) ?_;refine uAa rfl rfl rfl (uA8 rfl (fun hh=>hh) rfl rfl) ?_;refine uAa rfl rfl rfl (uAX rfl (fun hh=>hh) rfl rfl rfl) ?_;refine uAa rfl rfl rfl (uAc rfl gU) ?_;refine uAa rfl rfl rfl (uAY rfl rfl (fun hh=>hh) (fun hh=>hh) rfl) ?_;refine uAa rfl rfl rfl (uAO rfl rfl gU (fun _ hi=>gP rfl hi)) ?_;refine uAa rfl rfl rfl (uAc rfl gU) ?_;refine uAa rfl rfl rfl (uAc rfl gU) ?_;refine uBq (s:=⟨[(34,_,_),(35,_,_)],[],[],[]⟩) (uAj (⟨sx rfl,sx rfl,trivial⟩) trivial trivial) ?_;refine uAw rfl rfl rfl rfl rfl rfl gU (fun hh=>gA ((fun hh=>hh) hh) (rfl)) (uFP _) rfl ?_
 refine uAa rfl rfl rfl (uAO rfl rfl gU (fun _ hi=>gP rfl hi)) ?_;refine uAa rfl rfl rfl (uAd rfl gU) ?_;refine uAf ?_;refine uAo ?_
 repeat (first | refine tR ?_ | refine bR ?_)
 refine uAq rfl ?_ trivial;refine uCu ?_
 unfold rnmE
 rw [Bool.eq_iff_iff]
 simp only [Bool.and_eq_true,decide_eq_true_eq,beq_iff_eq]
 constructor
 ·rintro ⟨⟨⟨⟨a,b⟩,c⟩,d⟩,e⟩
  exact ⟨⟨⟨⟨by simpa using a,by have := b; simp [Tk.rows_len] at this; omega⟩,by simpa using c⟩,by simpa using d⟩,e⟩
 ·rintro ⟨⟨⟨⟨a,b⟩,c⟩,d⟩,e⟩
  exact ⟨⟨⟨⟨by simpa using a,by simp [Tk.rows_len]; omega⟩,by simpa using c⟩,by simpa using d⟩,e⟩
theorem uDB (s : List UInt8) : Ctr sys 103 [xs s] [] (xb (uAN s)) none []:=uGX (uGG (uEJ [] (by simp))) fun h=>uEJ s h
theorem uJV (s : List UInt8) : Ctr sys 53 [xs s] [] (xb (rnmE s)) none []:=uGX (uGG (uEQ [] (by simp))) fun h=>uEQ s h
theorem uNG (s : List UInt8) : rnmE s=uAN s:=by
 by_cases h : s.length≤65536
 ·exact (uLB s h).symm
 ·have h1 : uAN s=false:=by
   unfold uAN
   have : decide (s.length≤24)=false:=decide_eq_false (by omega)
   rw [this,Bool.and_false]
  have h2 : uCB s=false:=by
   unfold uCB
   have : decide (s.length≤24)=false:=decide_eq_false (by omega)
   simp only [this,Bool.and_false,Bool.false_and]
  rw [h1]
  unfold rnmE
  rw [h2,Bool.and_false]
end Go.Proofs.YtnjjdbapadkomaaGreatDoor
namespace Go.Proofs.YtnjjdbapadkomaaGreatDoor
open Go Go.Abs
theorem uCW {α : Type} {f : α→Int} {l : List α} {d : α} {k : Nat} {e : Int} (h : k < l.length) (hi : errs f (l.drop k)=e) : (f (l.getD k d)≠0→e=f (l.getD k d))∧(f (l.getD k d)=0→errs f (l.drop (k + 1))=e):=by
 rw [uI8 (d:=d) h,errs] at hi
 refine ⟨fun q=>?_,fun q=>?_⟩
 ·rw [if_pos q] at hi; exact hi.symm
 ·rw [if_neg (by rw [q]; simp)] at hi; exact hi
theorem uDn {α : Type} {f : α→Int} {l : List α} {k : Nat} {e : Int} (h : l.length≤k) (hi : errs f (l.drop k)=e) : e=0:=by
 rw [List.drop_of_length_le h] at hi; exact hi.symm
theorem uLK : ∀ (n : Nat) (t : T),t.size≤n→n≤2000000→Ctr sys 118 [xm t] [] (xi (rawE uAN t)) none []:=by
 intro n
 induction n with
 | zero=>intro t h; have := t.size_pos; omega
 | succ n ih =>
  intro t ht hn
  have hse:=t.size_eq
  have hrl:=T.rows_len t.kids
  have hls:=T.len_sizes t.kids
  have he:=uKn uAN t
  rw [uED] at he
  refine uAv Tryz.func118 rfl rfl rfl rfl rfl rfl ?_;refine uAe (uAb ?_);refine uAu rfl (uAT rfl rfl rfl rfl) ?_;refine uAa rfl rfl rfl (uAd rfl gU) ?_;refine uAf ?_;refine uAe ?_;refine uAe (uAb ?_);refine uAa rfl rfl rfl (uAg rfl gU rfl rfl) ?_;refine uAa rfl rfl rfl (uAm rfl gU rfl rfl rfl rfl) ?_;refine uAa rfl rfl rfl (uAk rfl rfl gU gU rfl) ?_;refine uAa rfl rfl rfl (uAc rfl gU) ?_;refine uAa rfl rfl rfl (uAg rfl gU rfl rfl) ?_;refine uAa rfl rfl rfl (uAm rfl (fun hh=>hh) rfl rfl rfl rfl) ?_;refine uAa rfl rfl rfl (uAk rfl rfl (fun hh=>hh) gU rfl) ?_;refine uAa rfl rfl rfl (uAM rfl rfl gU (fun _ hi=>gP rfl hi)) ?_;refine uAf ?_;refine uAn (s:=⟨[(1,_,_),(13,_,_)],[(.l 1,_)],[],[]⟩) (uAj (⟨sx rfl,sx rfl,trivial⟩) (⟨sx rfl,trivial⟩) trivial) ?_;refine uAl rfl (fun hc=>?_) (fun hc=>?_)
  ·try simp only [nn,uAh,T.rows_len,Fs.rows_len,Sp.rows_len,Gl.rows_len] at hc
   refine uAe (uAb ?_);refine uAa rfl rfl rfl (uAd rfl gU) ?_;refine uAf ?_;refine uAo ?_
   repeat (first | refine tR ?_ | refine bR ?_)
   refine uAq rfl ?_ trivial
   (rw [he,if_pos (by grind)]; rfl)
  ·try simp only [nn,uAh,T.rows_len,Fs.rows_len,Sp.rows_len,Gl.rows_len] at hc
   rw [if_neg (by grind)] at he
   refine uAp ?_;refine uAe ?_;refine uAe (uAb ?_);refine uAa rfl rfl rfl (uAg rfl gU rfl rfl) ?_;refine uAa rfl rfl rfl (uAm rfl gU rfl rfl rfl rfl) ?_;refine uAw rfl rfl rfl rfl rfl rfl gU gU (uDB _) rfl ?_;refine uAa rfl rfl rfl (uA1 rfl gU) ?_;refine uAf ?_;refine uAl rfl (fun hc2=>?_) (fun hc2=>?_)
   ·try simp only [nn,uAh,T.rows_len,Fs.rows_len,Sp.rows_len,Gl.rows_len] at hc2
    refine uAe (uAb ?_);refine uAa rfl rfl rfl (uAd rfl gU) ?_;refine uAf ?_;refine uAo ?_
    repeat (first | refine tR ?_ | refine bR ?_)
    refine uAq rfl ?_ trivial
    (rw [he,if_pos hc2]; rfl)
   ·try simp only [nn,uAh,T.rows_len,Fs.rows_len,Sp.rows_len,Gl.rows_len] at hc2
    rw [if_neg (by rw [hc2]; simp)] at he
    refine uAp ?_;refine uAe ?_;refine uAe (uAb ?_);refine uAa rfl rfl rfl (uAg rfl gU rfl rfl) ?_;refine uAa rfl rfl rfl (uAm rfl gU rfl rfl rfl rfl) ?_;refine uAQ rfl rfl rfl rfl rfl gU rfl rfl ?_ (fun hh=>by simp at hh); intro hlen;refine uAa rfl rfl rfl (uAc rfl gU) ?_;refine uAf ?_;refine uAn (s:=⟨[(19,_,_),(20,_,_),(21,_,_)],[],[],[]⟩) (uAj (⟨sx rfl,sx rfl,sx rfl,trivial⟩) trivial trivial) ?_;refine uAt ?_;refine uAW (ι:=Nat) { t:=[(19,_,_),(20,_,_)],bx:=[],ow:=[] } (fun k=>[(21,true,xi (k : Int))]) (fun k=>[]) (fun k=>k≤t.kids.length∧errs (rawE uAN) (t.kids.drop k)=rawE uAN t) (fun k=>t.kids.length - k) (0) (⟨by simp,by rw [he]; rfl⟩) (uAj (⟨sx rfl,sx rfl,sx rfl,trivial⟩) trivial trivial) ?_
    intro k hok
    dsimp only [List.cons_append,List.nil_append]
    obtain ⟨hk,hi⟩:=hok
    refine uAe (uAb ?_);refine uAa rfl rfl rfl (uAk rfl rfl gU gU rfl) ?_;refine uAf ?_;refine uAe ?_;refine uAl rfl (fun hc3=>?_) (fun hc3=>?_)
    ·try simp only [nn,uAh,T.rows_len,Fs.rows_len,Sp.rows_len,Gl.rows_len] at hc3
     have hlt : k < t.kids.length:=by omega
     have h2:=T.getD_size hlt
     have hd:=uCW (d:=default) hlt hi
     refine uAp ?_;refine uAe ?_;refine uAt ?_;refine uAe (uAb ?_);refine uAa rfl rfl rfl (uAy rfl rfl gU gU rfl rfl rfl (fun hh=>T.rows_at (by first | omega | (simp at hh ⊢; omega)))) ?_;refine uAa rfl rfl rfl (uAJ rfl gU rfl rfl rfl rfl) ?_;refine uAu rfl (uAP rfl rfl rfl) ?_;refine uAu rfl (uAz rfl rfl rfl rfl rfl rfl rfl) ?_;refine uAf ?_;refine uAe (uAb ?_);refine uAa rfl rfl rfl (uAs rfl gU rfl rfl rfl rfl rfl) ?_;refine uAw rfl rfl rfl rfl rfl rfl gU gU (ih (t.kids.getD k default) (by omega) (by omega)) rfl ?_;refine uAa rfl rfl rfl (uAd rfl gU) ?_;refine uAf ?_;refine uAn (s:=⟨[(5,_,_),(19,_,_),(20,_,_),(21,_,_)],[],[],[]⟩) (uAj (⟨sx rfl,sx rfl,sx rfl,sx rfl,trivial⟩) trivial trivial) ?_;refine uAe (uAb ?_);refine uAa rfl rfl rfl (uAc rfl gU) ?_;refine uAa rfl rfl rfl (uAk rfl rfl gU gU rfl) ?_;refine uAf ?_;refine uAl rfl (fun hc1=>?_) (fun hc1=>?_)
     ·try simp only [nn,uAh,T.rows_len,Fs.rows_len,Sp.rows_len,Gl.rows_len] at hc1
      refine uAe (uAb ?_);refine uAa rfl rfl rfl (uAc rfl gU) ?_;refine uAa rfl rfl rfl (uAd rfl gU) ?_;refine uAf ?_;refine uAo ?_
      repeat (first | refine tR ?_ | refine bR ?_)
      refine uAq rfl ?_ trivial;exact uA9 (hd.1 (by assumption)).symm
     ·try simp only [nn,uAh,T.rows_len,Fs.rows_len,Sp.rows_len,Gl.rows_len] at hc1
      refine uAp ?_;refine uAb ?_;refine uAa rfl rfl rfl (uAr rfl rfl gU gU rfl (IntWalk.i64_in _ (by omega))) ?_;refine uAa rfl rfl rfl (uAc rfl gU) ?_;refine uAf ?_;refine ⟨k + 1,?_,?_,uAj (⟨⟨_,rfl,?_⟩,⟨sx rfl,sx rfl,trivial⟩⟩) trivial trivial⟩
      all_goals (first | rfl | omega | exact ⟨by omega,hd.2 (by assumption)⟩)
    ·try simp only [nn,uAh,T.rows_len,Fs.rows_len,Sp.rows_len,Gl.rows_len] at hc3
     refine uAL ?_
     repeat (first | refine uAF ?_ | refine uAE ?_ | refine uAB rfl ?_)
     refine uAe (uAb ?_);refine uAa rfl rfl rfl (uAd rfl gU) ?_;refine uAf ?_;refine uAo ?_
     repeat (first | refine tR ?_ | refine bR ?_)
     refine uAq rfl ?_ trivial;exact uA9 (uDn (by omega) hi).symm
theorem uDv (t : T) (ht : t.size≤900000) : Ctr sys 67 [xm t] [] (xi (uC0 uAN t)) none []:=by
 refine uAv Tryz.func67 rfl rfl rfl rfl rfl rfl ?_;refine uAe (uAb ?_);refine uAu rfl (uAT rfl rfl rfl rfl) ?_;refine uAa rfl rfl rfl (uAd rfl gU) ?_;refine uAf ?_;refine uAe ?_;refine uAe (uAb ?_);refine uAa rfl rfl rfl (uAs rfl gU rfl rfl rfl rfl rfl) ?_;refine uAw rfl rfl rfl rfl rfl rfl gU gU (uI2 _ (by omega)) rfl ?_;refine uAa rfl rfl rfl (uAd rfl gU) ?_;refine uAf ?_;refine uAn (s:=⟨[(1,_,_),(3,_,_)],[(.l 1,_)],[],[]⟩) (uAj (⟨sx rfl,sx rfl,trivial⟩) (⟨sx rfl,trivial⟩) trivial) ?_;refine uAe (uAb ?_);refine uAa rfl rfl rfl (uAc rfl gU) ?_;refine uAa rfl rfl rfl (uAk rfl rfl gU gU rfl) ?_;refine uAf ?_;refine uAl rfl (fun hc=>?_) (fun hc=>?_)
 ·try simp only [nn,uAh,T.rows_len,Fs.rows_len,Sp.rows_len,Gl.rows_len] at hc
  refine uAe (uAb ?_);refine uAa rfl rfl rfl (uAc rfl gU) ?_;refine uAa rfl rfl rfl (uAd rfl gU) ?_;refine uAf ?_;refine uAo ?_
  repeat (first | refine tR ?_ | refine bR ?_)
  refine uAq rfl ?_ trivial
  (rw [uC0,if_pos hc]; rfl)
 ·try simp only [nn,uAh,T.rows_len,Fs.rows_len,Sp.rows_len,Gl.rows_len] at hc
  refine uAp ?_;refine uAe (uAb ?_);refine uAa rfl rfl rfl (uAs rfl gU rfl rfl rfl rfl rfl) ?_;refine uAw rfl rfl rfl rfl rfl rfl gU gU (uLK _ _ (Nat.le_refl _) (by omega)) rfl ?_;refine uAa rfl rfl rfl (uAd rfl gU) ?_;refine uAf ?_;refine uAo ?_
  repeat (first | refine tR ?_ | refine bR ?_)
  refine uAq rfl ?_ trivial
  (rw [uC0,if_neg (by simpa using hc)]; rfl)
theorem uEX (t : T) (ht : t.size≤900000) : Ctr sys 51 [xm t] [] (xi (msgE uAN t)) none []:=by
 refine uAv Tryz.func51 rfl rfl rfl rfl rfl rfl ?_;refine uAe (uAb ?_);refine uAu rfl (uAT rfl rfl rfl rfl) ?_;refine uAa rfl rfl rfl (uAd rfl gU) ?_;refine uAf ?_;refine uAe ?_;refine uAe (uAb ?_);refine uAa rfl rfl rfl (uAs rfl gU rfl rfl rfl rfl rfl) ?_;refine uAw rfl rfl rfl rfl rfl rfl gU gU (uDv _ (by omega)) rfl ?_;refine uAa rfl rfl rfl (uAd rfl gU) ?_;refine uAf ?_;refine uAn (s:=⟨[(1,_,_),(3,_,_)],[(.l 1,_)],[],[]⟩) (uAj (⟨sx rfl,sx rfl,trivial⟩) (⟨sx rfl,trivial⟩) trivial) ?_;refine uAe (uAb ?_);refine uAa rfl rfl rfl (uAc rfl gU) ?_;refine uAa rfl rfl rfl (uAk rfl rfl gU gU rfl) ?_;refine uAf ?_;refine uAl rfl (fun hc=>?_) (fun hc=>?_)
 ·try simp only [nn,uAh,T.rows_len,Fs.rows_len,Sp.rows_len,Gl.rows_len] at hc
  refine uAe (uAb ?_);refine uAa rfl rfl rfl (uAc rfl gU) ?_;refine uAa rfl rfl rfl (uAd rfl gU) ?_;refine uAf ?_;refine uAo ?_
  repeat (first | refine tR ?_ | refine bR ?_)
  refine uAq rfl ?_ trivial
  (rw [msgE,if_pos hc]; rfl)
 ·try simp only [nn,uAh,T.rows_len,Fs.rows_len,Sp.rows_len,Gl.rows_len] at hc
  refine uAp ?_;refine uAe ?_;refine uAe (uAb ?_);refine uAa rfl rfl rfl (uAs rfl gU rfl rfl rfl rfl rfl) ?_;refine uAw rfl rfl rfl rfl rfl rfl gU gU (uJv _ _ (Nat.le_refl _) (by omega)) rfl ?_;refine uAa rfl rfl rfl (uAk rfl rfl gU gU rfl) ?_;refine uAf ?_;refine uAn (s:=⟨[(11,_,_)],[],[],[]⟩) (uAj (⟨sx rfl,trivial⟩) trivial trivial) ?_;refine uAl rfl (fun hc2=>?_) (fun hc2=>?_)
  ·try simp only [nn,uAh,T.rows_len,Fs.rows_len,Sp.rows_len,Gl.rows_len] at hc2
   refine uAe (uAb ?_);refine uAa rfl rfl rfl (uAd rfl gU) ?_;refine uAf ?_;refine uAo ?_
   repeat (first | refine tR ?_ | refine bR ?_)
   refine uAq rfl ?_ trivial
   (rw [msgE,if_neg (by simpa using hc),if_pos (by omega)]; rfl)
  ·try simp only [nn,uAh,T.rows_len,Fs.rows_len,Sp.rows_len,Gl.rows_len] at hc2
   refine uAp ?_;refine uAe (uAb ?_);refine uAa rfl rfl rfl (uAd rfl gU) ?_;refine uAf ?_;refine uAo ?_
   repeat (first | refine tR ?_ | refine bR ?_)
   refine uAq rfl ?_ trivial
   (rw [msgE,if_neg (by simpa using hc),if_neg (by omega)]; rfl)
theorem uBS (g : Gl) : Ctr sys 96 [xg g] [] (xb (uBC g.kind)) none []:=by
 refine uAv Tryz.func96 rfl rfl rfl rfl rfl rfl ?_;refine uAe (uAb ?_);refine uAu rfl (uAT rfl rfl rfl rfl) ?_;refine uAa rfl rfl rfl (uAd rfl gU) ?_;refine uAf ?_;refine uAe (uAb ?_);refine uAa rfl rfl rfl (uAg rfl gU rfl rfl) ?_;refine uAa rfl rfl rfl (uAm rfl gU rfl rfl rfl rfl) ?_;refine uAa rfl rfl rfl (uAk rfl rfl gU gU rfl) ?_;refine uAa rfl rfl rfl (uAc rfl gU) ?_;refine uAa rfl rfl rfl (uAg rfl gU rfl rfl) ?_;refine uAa rfl rfl rfl (uAm rfl (fun hh=>hh) rfl rfl rfl rfl) ?_;refine uAa rfl rfl rfl (uAk rfl rfl (fun hh=>hh) gU rfl) ?_;refine uAa rfl rfl rfl (uAM rfl rfl gU (fun _ hi=>gP rfl hi)) ?_;refine uAa rfl rfl rfl (uAd rfl gU) ?_;refine uAf ?_;refine uAo ?_
 repeat (first | refine tR ?_ | refine bR ?_)
 refine uAq rfl ?_ trivial
 rfl
theorem uCG (s : List UInt8) : Ctr sys 50 [xs s] [] (xb (!uAN s)) none []:=by
 refine uAv Tryz.func50 rfl rfl rfl rfl rfl rfl ?_;refine uAe (uAb ?_);refine uAa rfl rfl rfl (uAd rfl gU) ?_;refine uAf ?_;refine uAe (uAb ?_);refine uAa rfl rfl rfl (uAc rfl gU) ?_;refine uAw rfl rfl rfl rfl rfl rfl gU gU (uDB _) rfl ?_;refine uAa rfl rfl rfl (uA1 rfl gU) ?_;refine uAa rfl rfl rfl (uAd rfl gU) ?_;refine uAf ?_;refine uAo ?_
 repeat (first | refine tR ?_ | refine bR ?_)
 refine uAq rfl ?_ trivial
 rfl
theorem uLv (g : Gl) (hg : T.sizes g.data≤900000) : Ctr sys 52 [xg g] [] (xi (uDe uAN g)) none []:=by
 have hls:=T.len_sizes g.data
 have hrl:=T.rows_len g.data
 refine uAv Tryz.func52 rfl rfl rfl rfl rfl rfl ?_;refine uAe (uAb ?_);refine uAu rfl (uAT rfl rfl rfl rfl) ?_;refine uAa rfl rfl rfl (uAd rfl gU) ?_;refine uAf ?_;refine uAe (uAb ?_);refine uAa rfl rfl rfl (uAg rfl gU rfl rfl) ?_;refine uAa rfl rfl rfl (uAm rfl gU rfl rfl rfl rfl) ?_;refine uAQ rfl rfl rfl rfl rfl gU rfl rfl ?_ (fun hh=>by simp at hh); intro hlen;refine uAa rfl rfl rfl (uAd rfl gU) ?_;refine uAf ?_;refine uAn (s:=⟨[(1,_,_),(3,_,_)],[(.l 1,_)],[],[]⟩) (uAj (⟨sx rfl,sx rfl,trivial⟩) (⟨sx rfl,trivial⟩) trivial) ?_;refine uAe ?_;refine uAt ?_;refine uAe (uAb ?_);refine uAa rfl rfl rfl (uAg rfl gU rfl rfl) ?_;refine uAa rfl rfl rfl (uAm rfl gU rfl rfl rfl rfl) ?_;refine uAa rfl rfl rfl (uAk rfl rfl gU gU rfl) ?_;refine uAa rfl rfl rfl (uAc rfl gU) ?_;refine uAa rfl rfl rfl (uAg rfl gU rfl rfl) ?_;refine uAa rfl rfl rfl (uAm rfl (fun hh=>hh) rfl rfl rfl rfl) ?_;refine uAa rfl rfl rfl (uAk rfl rfl (fun hh=>hh) gU rfl) ?_;refine uAa rfl rfl rfl (uAM rfl rfl gU (fun _ hi=>gP rfl hi)) ?_;refine uAa rfl rfl rfl (uAd rfl gU) ?_;refine uAf ?_;refine uAn (s:=⟨[(1,_,_),(3,_,_),(10,_,_)],[(.l 1,_)],[],[]⟩) (uAj (⟨sx rfl,sx rfl,sx rfl,trivial⟩) (⟨sx rfl,trivial⟩) trivial) ?_
 refine uAl rfl (fun hc=>?_) (fun hc=>?_)
 ·try simp only [nn,uAh,T.rows_len,Fs.rows_len,Sp.rows_len,Gl.rows_len] at hc
  refine uAe (uAb ?_);refine uAa rfl rfl rfl (uAd rfl gU) ?_;refine uAf ?_;refine uAo ?_
  repeat (first | refine tR ?_ | refine bR ?_)
  refine uAq rfl ?_ trivial
  (rw [uDe,if_pos (by grind)]; rfl)
 ·try simp only [nn,uAh,T.rows_len,Fs.rows_len,Sp.rows_len,Gl.rows_len] at hc
  refine uAe (uAb ?_);refine uAa rfl rfl rfl (uAg rfl gU rfl rfl) ?_;refine uAa rfl rfl rfl (uAm rfl gU rfl rfl rfl rfl) ?_;refine uAw rfl rfl rfl rfl rfl rfl gU gU (uDB _) rfl ?_;refine uAa rfl rfl rfl (uA1 rfl gU) ?_;refine uAa rfl rfl rfl (uAc rfl gU) ?_;refine uAa rfl rfl rfl (uAs rfl gU rfl rfl rfl rfl rfl) ?_;refine uAw rfl rfl rfl rfl rfl rfl gU (fun hh=>gA ((fun hh=>hh) hh) (rfl)) (uBS _) rfl ?_;refine uAa rfl rfl rfl (uAc rfl (fun hh=>hh)) ?_;refine uAa rfl rfl rfl (uAg rfl gU rfl rfl) ?_;refine uAa rfl rfl rfl (uAm rfl (fun hh=>hh) rfl rfl rfl rfl) ?_;refine uAw rfl rfl rfl rfl rfl rfl gU (fun hh=>gA ((fun hh=>hh) hh) (rfl)) (uDB _) rfl ?_;refine uAa rfl rfl rfl (uA1 rfl (fun hh=>hh)) ?_;refine uBq (s:=⟨[(1,_,_),(3,_,_),(24,_,_),(27,_,_),(31,_,_)],[(.l 1,_)],[],[]⟩) (uAj (⟨sx rfl,sx rfl,sx rfl,sx rfl,sx rfl,trivial⟩) (⟨sx rfl,trivial⟩) trivial) ?_;refine uAa rfl rfl rfl (uAO rfl rfl (fun hh=>hh) (fun hh hi=>gP hh hi)) ?_;refine uAa rfl rfl rfl (uAM rfl rfl gU (fun _ hi=>gP rfl hi)) ?_;refine uAa rfl rfl rfl (uAd rfl gU) ?_;refine uAf ?_;refine uAl rfl (fun hc2=>?_) (fun hc2=>?_)
  ·try simp only [nn,uAh,T.rows_len,Fs.rows_len,Sp.rows_len,Gl.rows_len] at hc2
   refine uAe (uAb ?_);refine uAa rfl rfl rfl (uAd rfl gU) ?_;refine uAf ?_;refine uAo ?_
   repeat (first | refine tR ?_ | refine bR ?_)
   refine uAq rfl ?_ trivial
   (rw [uDe,if_neg (by grind),if_pos (by grind)]; rfl)
  ·try simp only [nn,uAh,T.rows_len,Fs.rows_len,Sp.rows_len,Gl.rows_len] at hc2
   refine uAe (uAb ?_);refine uAa rfl rfl rfl (uAs rfl gU rfl rfl rfl rfl rfl) ?_;refine uAw rfl rfl rfl rfl rfl rfl gU gU (uBS _) rfl ?_;refine uAa rfl rfl rfl (uA1 rfl gU) ?_;refine uAa rfl rfl rfl (uAc rfl gU) ?_;refine uAa rfl rfl rfl (uAg rfl gU rfl rfl) ?_;refine uAa rfl rfl rfl (uAm rfl (fun hh=>hh) rfl rfl rfl rfl) ?_;refine uAa rfl rfl rfl (uAY rfl rfl (fun hh=>hh) gU rfl) ?_;refine uAa rfl rfl rfl (uAO rfl rfl gU (fun _ hi=>gP rfl hi)) ?_;refine uAa rfl rfl rfl (uAd rfl gU) ?_;refine uAf ?_;refine uAn (s:=⟨[(1,_,_),(3,_,_),(34,_,_)],[(.l 1,_)],[],[]⟩) (uAj (⟨sx rfl,sx rfl,sx rfl,trivial⟩) (⟨sx rfl,trivial⟩) trivial) ?_;refine uAl rfl (fun hc3=>?_) (fun hc3=>?_)
   ·try simp only [nn,uAh,T.rows_len,Fs.rows_len,Sp.rows_len,Gl.rows_len] at hc3
    refine uAe (uAb ?_);refine uAa rfl rfl rfl (uAd rfl gU) ?_;refine uAf ?_;refine uAo ?_
    repeat (first | refine tR ?_ | refine bR ?_)
    refine uAq rfl ?_ trivial
    (rw [uDe,if_neg (by grind),if_neg (by grind),if_pos (by grind)]; rfl)
   ·try simp only [nn,uAh,T.rows_len,Fs.rows_len,Sp.rows_len,Gl.rows_len] at hc3
    refine uAe (uAb ?_);refine uAa rfl rfl rfl (uAs rfl gU rfl rfl rfl rfl rfl) ?_;refine uAw rfl rfl rfl rfl rfl rfl gU gU (uBS _) rfl ?_;refine uAa rfl rfl rfl (uAc rfl gU) ?_;refine uAa rfl rfl rfl (uAc rfl gU) ?_;refine uAa rfl rfl rfl (uAk rfl rfl (fun hh=>hh) gU rfl) ?_;refine uAa rfl rfl rfl (uAc rfl (fun hh=>hh)) ?_;refine uAa rfl rfl rfl (uAc rfl gU) ?_;refine uAa rfl rfl rfl (uAk rfl rfl (fun hh=>hh) gU rfl) ?_;refine uAa rfl rfl rfl (uAM rfl rfl (fun hh=>hh) (fun hh hi=>gP hh hi)) ?_;refine uAa rfl rfl rfl (uAO rfl rfl gU (fun _ hi=>gP rfl hi)) ?_;refine uAa rfl rfl rfl (uAc rfl gU) ?_;refine uAa rfl rfl rfl (uAs rfl gU rfl rfl rfl rfl rfl) ?_;refine uBq (s:=⟨[(1,_,_),(3,_,_),(54,_,_),(55,_,_)],[(.l 1,_)],[],[]⟩) (uAj (⟨sx rfl,sx rfl,sx rfl,sx rfl,trivial⟩) (⟨sx rfl,trivial⟩) trivial) ?_;refine uAw rfl rfl rfl rfl rfl rfl gU (fun hh=>gA ((fun hh=>hh) hh) (rfl)) (uBS _) rfl ?_;refine uAa rfl rfl rfl (uA1 rfl (fun hh=>hh)) ?_;refine uAa rfl rfl rfl (uAc rfl (fun hh=>hh)) ?_;refine uAa rfl rfl rfl (uAc rfl gU) ?_;refine uAa rfl rfl rfl (uAk rfl rfl (fun hh=>hh) gU rfl) ?_;refine uAa rfl rfl rfl (uAO rfl rfl (fun hh=>hh) (fun hh hi=>gP hh hi)) ?_;refine uAa rfl rfl rfl (uAM rfl rfl gU (fun _ hi=>gP rfl hi)) ?_
    refine uAa rfl rfl rfl (uAd rfl gU) ?_;refine uAf ?_;refine uAn (s:=⟨[(1,_,_),(43,_,_)],[(.l 1,_)],[],[]⟩) (uAj (⟨sx rfl,sx rfl,trivial⟩) (⟨sx rfl,trivial⟩) trivial) ?_;refine uAl rfl (fun hc4=>?_) (fun hc4=>?_)
    ·try simp only [nn,uAh,T.rows_len,Fs.rows_len,Sp.rows_len,Gl.rows_len] at hc4
     refine uAe (uAb ?_);refine uAa rfl rfl rfl (uAd rfl gU) ?_;refine uAf ?_;refine uAo ?_
     repeat (first | refine tR ?_ | refine bR ?_)
     refine uAq rfl ?_ trivial
     (rw [uDe,if_neg (by grind),if_neg (by grind),if_neg (by grind),if_pos (by grind)]; rfl)
    ·try simp only [nn,uAh,T.rows_len,Fs.rows_len,Sp.rows_len,Gl.rows_len] at hc4
     have he : uDe uAN g=errs (msgE uAN) g.data:=by rw [uDe,if_neg (by grind),if_neg (by grind),if_neg (by grind),if_neg (by grind)]
     refine uAp ?_;refine uAe ?_;refine uAe (uAb ?_);refine uAa rfl rfl rfl (uAg rfl gU rfl rfl) ?_;refine uAa rfl rfl rfl (uAm rfl gU rfl rfl rfl rfl) ?_;refine uAQ rfl rfl rfl rfl rfl gU rfl rfl ?_ (fun hh=>by simp at hh); intro hlen;refine uAa rfl rfl rfl (uAc rfl gU) ?_;refine uAf ?_;refine uAt ?_;refine uAW (ι:=Nat) { t:=[(64,_,_),(65,_,_)],bx:=[],ow:=[] } (fun k=>[(66,true,xi (k : Int))]) (fun k=>[]) (fun k=>k≤g.data.length∧errs (msgE uAN) (g.data.drop k)=uDe uAN g) (fun k=>g.data.length - k) (0) (⟨by simp,by rw [he]; rfl⟩) (uAj (⟨sx rfl,sx rfl,sx rfl,trivial⟩) trivial trivial) ?_
     intro k hok
     dsimp only [List.cons_append,List.nil_append]
     obtain ⟨hk,hi⟩:=hok
     refine uAe (uAb ?_);refine uAa rfl rfl rfl (uAk rfl rfl gU gU rfl) ?_;refine uAf ?_;refine uAe ?_;refine uAl rfl (fun hc5=>?_) (fun hc5=>?_)
     ·try simp only [nn,uAh,T.rows_len,Fs.rows_len,Sp.rows_len,Gl.rows_len] at hc5
      have hlt : k < g.data.length:=by omega
      have h2:=T.getD_size hlt
      have hd:=uCW (d:=default) hlt hi
      refine uAp ?_;refine uAe ?_;refine uAt ?_;refine uAe (uAb ?_);refine uAa rfl rfl rfl (uAy rfl rfl gU gU rfl rfl rfl (fun hh=>T.rows_at (by first | omega | (simp at hh ⊢; omega)))) ?_;refine uAa rfl rfl rfl (uAJ rfl gU rfl rfl rfl rfl) ?_;refine uAu rfl (uAP rfl rfl rfl) ?_;refine uAu rfl (uAz rfl rfl rfl rfl rfl rfl rfl) ?_;refine uAf ?_;refine uAe (uAb ?_);refine uAa rfl rfl rfl (uAs rfl gU rfl rfl rfl rfl rfl) ?_;refine uAw rfl rfl rfl rfl rfl rfl gU gU (uEX _ (by omega)) rfl ?_;refine uAa rfl rfl rfl (uAd rfl gU) ?_;refine uAf ?_;refine uAn (s:=⟨[(6,_,_),(64,_,_),(65,_,_),(66,_,_)],[],[],[]⟩) (uAj (⟨sx rfl,sx rfl,sx rfl,sx rfl,trivial⟩) trivial trivial) ?_;refine uAe (uAb ?_);refine uAa rfl rfl rfl (uAc rfl gU) ?_;refine uAa rfl rfl rfl (uAk rfl rfl gU gU rfl) ?_;refine uAf ?_;refine uAl rfl (fun hc1=>?_) (fun hc1=>?_)
      ·try simp only [nn,uAh,T.rows_len,Fs.rows_len,Sp.rows_len,Gl.rows_len] at hc1
       refine uAe (uAb ?_);refine uAa rfl rfl rfl (uAc rfl gU) ?_;refine uAa rfl rfl rfl (uAd rfl gU) ?_;refine uAf ?_;refine uAo ?_
       repeat (first | refine tR ?_ | refine bR ?_)
       refine uAq rfl ?_ trivial;exact uA9 (hd.1 (by assumption)).symm
      ·try simp only [nn,uAh,T.rows_len,Fs.rows_len,Sp.rows_len,Gl.rows_len] at hc1
       refine uAp ?_;refine uAb ?_;refine uAa rfl rfl rfl (uAr rfl rfl gU gU rfl (IntWalk.i64_in _ (by omega))) ?_;refine uAa rfl rfl rfl (uAc rfl gU) ?_;refine uAf ?_;refine ⟨k + 1,?_,?_,uAj (⟨⟨_,rfl,?_⟩,⟨sx rfl,sx rfl,trivial⟩⟩) trivial trivial⟩
       all_goals (first | rfl | omega | exact ⟨by omega,hd.2 (by assumption)⟩)
     ·try simp only [nn,uAh,T.rows_len,Fs.rows_len,Sp.rows_len,Gl.rows_len] at hc5
      refine uAL ?_
      repeat (first | refine uAF ?_ | refine uAE ?_ | refine uAB rfl ?_)
      refine uAe (uAb ?_);refine uAa rfl rfl rfl (uAd rfl gU) ?_;refine uAf ?_;refine uAo ?_
      repeat (first | refine tR ?_ | refine bR ?_)
      refine uAq rfl ?_ trivial;exact uA9 (uDn (by omega) hi).symm
end Go.Proofs.YtnjjdbapadkomaaGreatDoor
namespace Go.Proofs.YtnjjdbapadkomaaGreatDoor
open Go Go.Abs
def idxF (p : List UInt8→Bool) : List (List UInt8)→Int
 | []=>-1
 | x :: r=>if p x=true then 0 else if idxF p r < 0 then -1 else idxF p r + 1
theorem uHS {p : List UInt8→Bool} {l : List (List UInt8)} {k : Nat} {e : Int} (h : k < l.length) (hi : (if idxF p (l.drop k) < 0 then -1 else idxF p (l.drop k) + k)=e) :
  (p (l.getD k [])=true→e=k)∧(p (l.getD k [])=false→(if idxF p (l.drop (k + 1)) < 0 then -1 else idxF p (l.drop (k + 1)) + (k + 1 : Nat))=e):=by
 rw [uI8 (d:=[]) h,idxF] at hi
 refine ⟨fun q=>?_,fun q=>?_⟩
 ·rw [if_pos q] at hi; simp at hi; omega
 ·rw [q] at hi
  simp only [Bool.false_eq_true,if_false] at hi
  generalize idxF p (List.drop (k + 1) l)=x at hi ⊢
  rw [← hi]
  by_cases hx : x < 0
  ·rw [if_pos hx,if_pos hx]; simp
  ·rw [if_neg hx,if_neg hx,if_neg (by omega)]; push_cast; omega
theorem uCq {α : Type} {l : List α} {d : α} {k : Nat} (h : k < l.length) : l.getD k d ∈ l:=by
 rw [List.getD_eq_getElem?_getD,List.getElem?_eq_getElem h]
 exact List.getElem_mem h
theorem uJe {p : List UInt8→Bool} {l : List (List UInt8)} {k : Nat} {e : Int} (h : l.length≤k) (hi : (if idxF p (l.drop k) < 0 then -1 else idxF p (l.drop k) + k)=e) : e = -1:=by
 rw [List.drop_of_length_le h] at hi; simpa [idxF] using hi.symm
theorem uGD (p : List UInt8→Bool) (l : List (List UInt8)) : (if idxF p (l.drop 0) < 0 then -1 else idxF p (l.drop 0) + ((0 : Nat) : Int))=if idxF p l < 0 then -1 else idxF p l:=by simp
theorem uKz (p : List UInt8→Bool) : ∀ l : List (List UInt8),-1≤idxF p l
 | []=>by simp [idxF]
 | x :: r=>by have := uKz p r; rw [idxF]; split; omega; split <;> omega
theorem uHB (p : List UInt8→Bool) (l : List (List UInt8)) : (if idxF p l < 0 then -1 else idxF p l)=idxF p l := by have := uKz p l; split <;> omega
theorem uGS (p : List UInt8→Bool) : ∀ l : List (List UInt8),decide (idxF p l ≥ 0)=l.any p
 | []=>by simp [idxF]
 | x :: r=>by
  have ih:=uGS p r
  rw [idxF,List.any_cons,← ih]
  by_cases h : p x=true
  ·rw [if_pos h,h]; simp
  ·rw [if_neg h]
   have h' : p x=false:=by simpa using h
   rw [h',Bool.false_or]
   split
   ·rename_i h1; simp; omega
   ·rename_i h1; rw [Bool.eq_iff_iff]; simp; omega
theorem uHa (l : List (List UInt8)) : Ctr sys 140 [xss l, .fn 50 []] [] (xi (idxF (fun s=>!uAN s) l)) none []:=by
 have hrl:=uAh l
 refine uAv Tryz.func140 rfl rfl rfl rfl rfl rfl ?_;refine uAe (uAb ?_);refine uAa rfl rfl rfl (uAd rfl gU) ?_;refine uAf ?_;refine uAe ?_;refine uAe (uAb ?_);refine uAa rfl rfl rfl (uAc rfl gU) ?_;refine uAQ rfl rfl rfl rfl rfl gU rfl rfl ?_ (fun hh=>by simp at hh); intro hlen;refine uAa rfl rfl rfl (uAc rfl gU) ?_;refine uAf ?_;refine uAt ?_;refine uAW (ι:=Nat) { t:=[(0,_,_),(1,_,_),(7,_,_)],bx:=[],ow:=[] } (fun k=>[(8,true,xi (k : Int))]) (fun k=>[]) (fun k=>k≤l.length∧(if idxF (fun s=>!uAN s) (l.drop k) < 0 then -1 else idxF (fun s=>!uAN s) (l.drop k) + k)=idxF (fun s=>!uAN s) l) (fun k=>l.length - k) (0) (⟨by simp,(uGD _ _).trans (uHB _ _)⟩) (uAj (⟨sx rfl,sx rfl,sx rfl,sx rfl,trivial⟩) trivial trivial) ?_
 intro k hok
 dsimp only [List.cons_append,List.nil_append]
 obtain ⟨hk,hi⟩:=hok
 refine uAe (uAb ?_);refine uAa rfl rfl rfl (uAk rfl rfl gU gU rfl) ?_;refine uAf ?_;refine uAe ?_;refine uAl rfl (fun hc=>?_) (fun hc=>?_)
 ·try simp only [nn,uAh,T.rows_len,Fs.rows_len,Sp.rows_len,Gl.rows_len] at hc
  have hd:=uHS (k:=k) (l:=l) (by omega) hi
  refine uAp ?_;refine uAe ?_;refine uAt ?_;refine uAe (uAb ?_);refine uAa rfl rfl rfl (uAc rfl gU) ?_;refine uAa rfl rfl rfl (uAd rfl gU) ?_;refine uAf ?_;refine uAe (uAb ?_);refine uAa rfl rfl rfl (uAc rfl gU) ?_;refine uAa rfl rfl rfl (uAc rfl gU) ?_;refine uAa rfl rfl rfl (uAc rfl gU) ?_;refine uAa rfl rfl rfl (uAy rfl rfl gU gU rfl rfl rfl (fun hh=>uCK (by first | omega | (simp at hh ⊢; omega)))) ?_;refine uAa rfl rfl rfl (uAX rfl gU rfl rfl rfl) ?_;refine uAw rfl rfl rfl rfl rfl rfl gU gU (uCG _) rfl ?_;refine uAf ?_;refine uAn (s:=⟨[(0,_,_),(1,_,_),(5,_,_),(7,_,_),(8,_,_),(16,_,_)],[],[],[]⟩) (uAj (⟨sx rfl,sx rfl,sx rfl,sx rfl,sx rfl,sx rfl,trivial⟩) trivial trivial) ?_;refine uAl rfl (fun hc2=>?_) (fun hc2=>?_)
  ·try simp only [nn,uAh,T.rows_len,Fs.rows_len,Sp.rows_len,Gl.rows_len] at hc2
   refine uAe (uAb ?_);refine uAa rfl rfl rfl (uAc rfl gU) ?_;refine uAa rfl rfl rfl (uAd rfl gU) ?_;refine uAf ?_;refine uAo ?_
   repeat (first | refine tR ?_ | refine bR ?_)
   refine uAq rfl ?_ trivial;exact uA9 (hd.1 (by simpa using hc2)).symm
  ·try simp only [nn,uAh,T.rows_len,Fs.rows_len,Sp.rows_len,Gl.rows_len] at hc2
   refine uAp ?_;refine uAb ?_;refine uAa rfl rfl rfl (uAr rfl rfl gU gU rfl (IntWalk.i64_in _ (by omega))) ?_;refine uAa rfl rfl rfl (uAc rfl gU) ?_;refine uAf ?_;refine ⟨k + 1,?_,?_,uAj (⟨⟨_,rfl,?_⟩,⟨sx rfl,sx rfl,sx rfl,trivial⟩⟩) trivial trivial⟩
   all_goals (first | rfl | omega | exact ⟨by omega,hd.2 (by simpa using hc2)⟩)
 ·try simp only [nn,uAh,T.rows_len,Fs.rows_len,Sp.rows_len,Gl.rows_len] at hc
  refine uAL ?_
  repeat (first | refine uAF ?_ | refine uAE ?_ | refine uAB rfl ?_)
  refine uAe (uAb ?_);refine uAa rfl rfl rfl (uAd rfl gU) ?_;refine uAf ?_;refine uAo ?_
  repeat (first | refine tR ?_ | refine bR ?_)
  refine uAq rfl ?_ trivial;exact uA9 (uJe (by omega) hi).symm
theorem uEm (l : List (List UInt8)) : Ctr sys 102 [xss l, .fn 50 []] [] (xb (l.any fun s=>!uAN s)) none []:=by
 refine uAv Tryz.func102 rfl rfl rfl rfl rfl rfl ?_;refine uAe (uAb ?_);refine uAa rfl rfl rfl (uAd rfl gU) ?_;refine uAf ?_;refine uAe (uAb ?_);refine uAa rfl rfl rfl (uAc rfl gU) ?_;refine uAa rfl rfl rfl (uAc rfl gU) ?_;refine uAw rfl rfl rfl rfl rfl rfl gU gU (uHa _) rfl ?_;refine uAa rfl rfl rfl (uAk rfl rfl gU gU rfl) ?_;refine uAa rfl rfl rfl (uAd rfl gU) ?_;refine uAf ?_;refine uAo ?_
 repeat (first | refine tR ?_ | refine bR ?_)
 refine uAq rfl ?_ trivial;exact uCu (uGS _ l)
theorem uF1 (l : List (List UInt8)) : (l.any fun s=>!uAN s) = !(l.all uAN):=by
 induction l with
 | nil=>rfl
 | cons x r ih=>rw [List.any_cons,List.all_cons,ih,Bool.not_and]
theorem uK2 (n : Nar) : Ctr sys 49 [xn n] [] (xi (uGU uAN n)) none []:=by
 have h1:=uAh n.roles
 have h2:=uAh n.tags
 have h3:=Fs.rows_len n.fresh
 have h4:=Sp.rows_len n.steps
 have h5:=Gl.rows_len n.goals
 refine uAv Tryz.func49 rfl rfl rfl rfl rfl rfl ?_;refine uAe (uAb ?_);refine uAu rfl (uAT rfl rfl rfl rfl) ?_;refine uAa rfl rfl rfl (uAd rfl gU) ?_;refine uAf ?_;refine uAe ?_;refine uAt ?_;refine uAe (uAb ?_);refine uAa rfl rfl rfl (uAg rfl gU rfl rfl) ?_;refine uAa rfl rfl rfl (uAm rfl gU rfl rfl rfl rfl) ?_;refine uAw rfl rfl rfl rfl rfl rfl gU gU (uCG _) rfl ?_;refine uAa rfl rfl rfl (uAd rfl gU) ?_;refine uAf ?_;refine uAn (s:=⟨[(1,_,_),(5,_,_)],[(.l 1,_)],[],[]⟩) (uAj (⟨sx rfl,sx rfl,trivial⟩) (⟨sx rfl,trivial⟩) trivial) ?_;refine uAl rfl (fun hc=>?_) (fun hc=>?_)
 ·try simp only [nn,uAh,T.rows_len,Fs.rows_len,Sp.rows_len,Gl.rows_len] at hc
  refine uAe (uAb ?_);refine uAa rfl rfl rfl (uAd rfl gU) ?_;refine uAf ?_;refine uAo ?_
  repeat (first | refine tR ?_ | refine bR ?_)
  refine uAq rfl ?_ trivial
  (rw [uGU,if_pos (by simpa using hc)]; rfl)
 ·try simp only [nn,uAh,T.rows_len,Fs.rows_len,Sp.rows_len,Gl.rows_len] at hc
  have hn : uAN n.name=true:=by simpa using hc
  have e1 : uGU uAN n=if cntE n≠0 then cntE n else if n.roles.all uAN=false then 2 else if errs (frE uAN) n.fresh≠0 then errs (frE uAN) n.fresh else if n.tags.all uAN=false then 2 else 0:=by rw [uGU,if_neg (by rw [hn]; simp)]
  refine uAe (uAb ?_);refine uAa rfl rfl rfl (uAg rfl gU rfl rfl) ?_;refine uAa rfl rfl rfl (uAm rfl gU rfl rfl rfl rfl) ?_;refine uAQ rfl rfl rfl rfl rfl gU rfl rfl ?_ (fun hh=>by simp at hh); intro hlen;refine uAa rfl rfl rfl (uAk rfl rfl gU gU rfl) ?_;refine uAa rfl rfl rfl (uAd rfl gU) ?_;refine uAf ?_;refine uAn (s:=⟨[(1,_,_),(9,_,_)],[(.l 1,_)],[],[]⟩) (uAj (⟨sx rfl,sx rfl,trivial⟩) (⟨sx rfl,trivial⟩) trivial) ?_;refine uAl rfl (fun hc2=>?_) (fun hc2=>?_)
  ·try simp only [nn,uAh,T.rows_len,Fs.rows_len,Sp.rows_len,Gl.rows_len] at hc2
   have : cntE n=8:=by rw [cntE,if_pos (by omega)]
   refine uAe (uAb ?_);refine uAa rfl rfl rfl (uAd rfl gU) ?_;refine uAf ?_;refine uAo ?_
   repeat (first | refine tR ?_ | refine bR ?_)
   refine uAq rfl ?_ trivial
   (rw [e1,this]; rfl)
  ·try simp only [nn,uAh,T.rows_len,Fs.rows_len,Sp.rows_len,Gl.rows_len] at hc2
   refine uAe (uAb ?_);refine uAa rfl rfl rfl (uAg rfl gU rfl rfl) ?_;refine uAa rfl rfl rfl (uAm rfl gU rfl rfl rfl rfl) ?_;refine uAQ rfl rfl rfl rfl rfl gU rfl rfl ?_ (fun hh=>by simp at hh); intro hlen;refine uAa rfl rfl rfl (uAk rfl rfl gU gU rfl) ?_;refine uAa rfl rfl rfl (uAc rfl gU) ?_;refine uAa rfl rfl rfl (uAg rfl gU rfl rfl) ?_;refine uAa rfl rfl rfl (uAm rfl (fun hh=>hh) rfl rfl rfl rfl) ?_;refine uAa rfl rfl rfl (uBb rfl (fun hh=>hh) rfl rfl) ?_;refine uAa rfl rfl rfl (uAk rfl rfl (fun hh=>hh) gU rfl) ?_;refine uAa rfl rfl rfl (uAM rfl rfl gU (fun _ hi=>gP rfl hi)) ?_;refine uAa rfl rfl rfl (uAc rfl gU) ?_;refine uAa rfl rfl rfl (uAg rfl gU rfl rfl) ?_;refine uBq (s:=⟨[(1,_,_),(25,_,_),(26,_,_)],[(.l 1,_)],[],[]⟩) (uAj (⟨sx rfl,sx rfl,sx rfl,trivial⟩) (⟨sx rfl,trivial⟩) trivial) ?_;refine uAa rfl rfl rfl (uAm rfl (fun hh=>hh) rfl rfl rfl rfl) ?_;refine uAa rfl rfl rfl (uBb rfl (fun hh=>hh) rfl rfl) ?_;refine uAa rfl rfl rfl (uAk rfl rfl (fun hh=>hh) gU rfl) ?_;refine uAa rfl rfl rfl (uAM rfl rfl gU (fun _ hi=>gP rfl hi)) ?_;refine uAa rfl rfl rfl (uAd rfl gU) ?_;refine uAf ?_;refine uAn (s:=⟨[(1,_,_),(14,_,_)],[(.l 1,_)],[],[]⟩) (uAj (⟨sx rfl,sx rfl,trivial⟩) (⟨sx rfl,trivial⟩) trivial) ?_
   refine uAl rfl (fun hc3=>?_) (fun hc3=>?_)
   ·try simp only [nn,uAh,T.rows_len,Fs.rows_len,Sp.rows_len,Gl.rows_len] at hc3
    have : cntE n=3:=by rw [cntE,if_neg (by omega),if_pos (by omega)]
    refine uAe (uAb ?_);refine uAa rfl rfl rfl (uAd rfl gU) ?_;refine uAf ?_;refine uAo ?_
    repeat (first | refine tR ?_ | refine bR ?_)
    refine uAq rfl ?_ trivial
    (rw [e1,this]; rfl)
   ·try simp only [nn,uAh,T.rows_len,Fs.rows_len,Sp.rows_len,Gl.rows_len] at hc3
    refine uAe (uAb ?_);refine uAa rfl rfl rfl (uAg rfl gU rfl rfl) ?_;refine uAa rfl rfl rfl (uAm rfl gU rfl rfl rfl rfl) ?_;refine uAQ rfl rfl rfl rfl rfl gU rfl rfl ?_ (fun hh=>by simp at hh); intro hlen;refine uAa rfl rfl rfl (uAk rfl rfl gU gU rfl) ?_;refine uAa rfl rfl rfl (uAd rfl gU) ?_;refine uAf ?_;refine uAn (s:=⟨[(1,_,_),(31,_,_)],[(.l 1,_)],[],[]⟩) (uAj (⟨sx rfl,sx rfl,trivial⟩) (⟨sx rfl,trivial⟩) trivial) ?_;refine uAl rfl (fun hc4=>?_) (fun hc4=>?_)
    ·try simp only [nn,uAh,T.rows_len,Fs.rows_len,Sp.rows_len,Gl.rows_len] at hc4
     have : cntE n=8:=by rw [cntE,if_neg (by omega),if_neg (by omega),if_pos (by omega)]
     refine uAe (uAb ?_);refine uAa rfl rfl rfl (uAd rfl gU) ?_;refine uAf ?_;refine uAo ?_
     repeat (first | refine tR ?_ | refine bR ?_)
     refine uAq rfl ?_ trivial
     (rw [e1,this]; rfl)
    ·try simp only [nn,uAh,T.rows_len,Fs.rows_len,Sp.rows_len,Gl.rows_len] at hc4
     refine uAe (uAb ?_);refine uAa rfl rfl rfl (uAg rfl gU rfl rfl) ?_;refine uAa rfl rfl rfl (uAm rfl gU rfl rfl rfl rfl) ?_;refine uAQ rfl rfl rfl rfl rfl gU rfl rfl ?_ (fun hh=>by simp at hh); intro hlen;refine uAa rfl rfl rfl (uAk rfl rfl gU gU rfl) ?_;refine uAa rfl rfl rfl (uAc rfl gU) ?_;refine uAa rfl rfl rfl (uAg rfl gU rfl rfl) ?_;refine uAa rfl rfl rfl (uAm rfl (fun hh=>hh) rfl rfl rfl rfl) ?_;refine uAa rfl rfl rfl (uBb rfl (fun hh=>hh) rfl rfl) ?_;refine uAa rfl rfl rfl (uAk rfl rfl (fun hh=>hh) gU rfl) ?_;refine uAa rfl rfl rfl (uAM rfl rfl gU (fun _ hi=>gP rfl hi)) ?_;refine uAa rfl rfl rfl (uAd rfl gU) ?_;refine uAf ?_;refine uAn (s:=⟨[(1,_,_),(36,_,_)],[(.l 1,_)],[],[]⟩) (uAj (⟨sx rfl,sx rfl,trivial⟩) (⟨sx rfl,trivial⟩) trivial) ?_;refine uAl rfl (fun hc5=>?_) (fun hc5=>?_)
     ·try simp only [nn,uAh,T.rows_len,Fs.rows_len,Sp.rows_len,Gl.rows_len] at hc5
      have : cntE n=3:=by rw [cntE,if_neg (by omega),if_neg (by omega),if_neg (by omega),if_pos (by omega)]
      refine uAe (uAb ?_);refine uAa rfl rfl rfl (uAd rfl gU) ?_;refine uAf ?_;refine uAo ?_
      repeat (first | refine tR ?_ | refine bR ?_)
      refine uAq rfl ?_ trivial
      (rw [e1,this]; rfl)
     ·try simp only [nn,uAh,T.rows_len,Fs.rows_len,Sp.rows_len,Gl.rows_len] at hc5
      have : cntE n=0:=by rw [cntE,if_neg (by omega),if_neg (by omega),if_neg (by omega),if_neg (by omega)]
      rw [if_neg (by rw [this]; simp)] at e1
      refine uAe (uAb ?_);refine uAa rfl rfl rfl (uAg rfl gU rfl rfl) ?_;refine uAa rfl rfl rfl (uAm rfl gU rfl rfl rfl rfl) ?_;refine uAw rfl rfl rfl rfl rfl rfl gU gU (uEm _) rfl ?_;refine uAa rfl rfl rfl (uAd rfl gU) ?_;refine uAf ?_;refine uAl rfl (fun hc6=>?_) (fun hc6=>?_)
      ·rw [uF1] at hc6
       refine uAe (uAb ?_);refine uAa rfl rfl rfl (uAd rfl gU) ?_;refine uAf ?_;refine uAo ?_
       repeat (first | refine tR ?_ | refine bR ?_)
       refine uAq rfl ?_ trivial
       (rw [e1,if_pos (by simpa using hc6)]; rfl)
      ·rw [uF1] at hc6
       rw [if_neg (by simpa using hc6)] at e1
       refine uAp ?_;refine uAe ?_;refine uAe (uAb ?_);refine uAa rfl rfl rfl (uAg rfl gU rfl rfl) ?_;refine uAa rfl rfl rfl (uAm rfl gU rfl rfl rfl rfl) ?_;refine uAQ rfl rfl rfl rfl rfl gU rfl rfl ?_ (fun hh=>by simp at hh); intro hlen;refine uAa rfl rfl rfl (uAc rfl gU) ?_;refine uAf ?_;refine uAn (s:=⟨[(1,_,_),(52,_,_),(53,_,_),(54,_,_)],[(.l 1,_)],[],[]⟩) (uAj (⟨sx rfl,sx rfl,sx rfl,sx rfl,trivial⟩) (⟨sx rfl,trivial⟩) trivial) ?_;refine uAt ?_;refine uAW (ι:=Nat) { t:=[(1,_,_),(52,_,_),(53,_,_)],bx:=[(.l 1,_)],ow:=[] } (fun k=>[(54,true,xi (k : Int))]) (fun k=>[]) (fun k=>k≤n.fresh.length∧errs (frE uAN) (n.fresh.drop k)=errs (frE uAN) n.fresh) (fun k=>n.fresh.length - k) (0) (by simp) (uAj (⟨sx rfl,sx rfl,sx rfl,sx rfl,trivial⟩) (⟨sx rfl,trivial⟩) trivial) ?_
       intro k hok
       dsimp only [List.cons_append,List.nil_append]
       obtain ⟨hk,hi⟩:=hok
       refine uAe (uAb ?_);refine uAa rfl rfl rfl (uAk rfl rfl gU gU rfl) ?_;refine uAf ?_;refine uAe ?_;refine uAl rfl (fun hc7=>?_) (fun hc7=>?_)
       ·try simp only [nn,uAh,T.rows_len,Fs.rows_len,Sp.rows_len,Gl.rows_len] at hc7
        have hd:=uCW (d:=default) (k:=k) (l:=n.fresh) (by omega) hi
        have hf : frE uAN (n.fresh.getD k default)=if uAN (n.fresh.getD k default).role=false∨uAN (n.fresh.getD k default).name=false then 2 else if (n.fresh.getD k default).sort < 2∨4 < (n.fresh.getD k default).sort then 10 else 0:=rfl
        refine uAp ?_;refine uAe ?_;refine uAt ?_;refine uAe (uAb ?_);refine uAa rfl rfl rfl (uAy rfl rfl gU gU rfl rfl rfl (fun hh=>Fs.rows_at (by first | omega | (simp at hh ⊢; omega)))) ?_;refine uAa rfl rfl rfl (uAJ rfl gU rfl rfl rfl rfl) ?_;refine uAu rfl (uAP rfl rfl rfl) ?_;refine uAu rfl (uAz rfl rfl rfl rfl rfl rfl rfl) ?_;refine uAf ?_;refine uAt ?_;refine uAe (uAb ?_);refine uAa rfl rfl rfl (uAg rfl gU rfl rfl) ?_;refine uAa rfl rfl rfl (uAm rfl gU rfl rfl rfl rfl) ?_;refine uAw rfl rfl rfl rfl rfl rfl gU gU (uCG _) rfl ?_;refine uAa rfl rfl rfl (uAc rfl gU) ?_;refine uAa rfl rfl rfl (uAg rfl gU rfl rfl) ?_;refine uAa rfl rfl rfl (uAm rfl (fun hh=>hh) rfl rfl rfl rfl) ?_;refine uAw rfl rfl rfl rfl rfl rfl gU (fun hh=>gA ((fun hh=>hh) hh) (rfl)) (uCG _) rfl ?_;refine uAa rfl rfl rfl (uAM rfl rfl gU (fun _ hi=>gP rfl hi)) ?_;refine uBq (s:=⟨[(1,_,_),(4,_,_),(52,_,_),(53,_,_),(54,_,_),(66,_,_)],[(.l 1,_),(.l 4,_)],[],[]⟩) (uAj (⟨sx rfl,sx rfl,sx rfl,sx rfl,sx rfl,sx rfl,trivial⟩) (⟨sx rfl,sx rfl,trivial⟩) trivial) ?_;refine uAa rfl rfl rfl (uAd rfl gU) ?_;refine uAf ?_;refine uAl rfl (fun hc8=>?_) (fun hc8=>?_)
        ·try simp only [nn,uAh,T.rows_len,Fs.rows_len,Sp.rows_len,Gl.rows_len] at hc8
         rw [if_pos (by grind)] at hf
         have := hd.1 (by rw [hf]; simp)
         refine uAe (uAb ?_);refine uAa rfl rfl rfl (uAd rfl gU) ?_;refine uAf ?_;refine uAo ?_
         repeat (first | refine tR ?_ | refine bR ?_)
         refine uAq rfl ?_ trivial
         (rw [e1,this,hf]; rfl)
        ·try simp only [nn,uAh,T.rows_len,Fs.rows_len,Sp.rows_len,Gl.rows_len] at hc8
         rw [if_neg (by grind)] at hf
         refine uAe (uAb ?_);refine uAa rfl rfl rfl (uAg rfl gU rfl rfl) ?_;refine uAa rfl rfl rfl (uAm rfl gU rfl rfl rfl rfl) ?_;refine uAa rfl rfl rfl (uAk rfl rfl gU gU rfl) ?_;refine uAa rfl rfl rfl (uAc rfl gU) ?_;refine uAa rfl rfl rfl (uAg rfl gU rfl rfl) ?_;refine uAa rfl rfl rfl (uAm rfl (fun hh=>hh) rfl rfl rfl rfl) ?_;refine uAa rfl rfl rfl (uAk rfl rfl (fun hh=>hh) gU rfl) ?_;refine uAa rfl rfl rfl (uAM rfl rfl gU (fun _ hi=>gP rfl hi)) ?_;refine uAa rfl rfl rfl (uAd rfl gU) ?_;refine uAf ?_;refine uAn (s:=⟨[(1,_,_),(52,_,_),(53,_,_),(54,_,_),(67,_,_)],[(.l 1,_)],[],[]⟩) (uAj (⟨sx rfl,sx rfl,sx rfl,sx rfl,sx rfl,trivial⟩) (⟨sx rfl,trivial⟩) trivial) ?_;refine uAl rfl (fun hc9=>?_) (fun hc9=>?_)
         ·try simp only [nn,uAh,T.rows_len,Fs.rows_len,Sp.rows_len,Gl.rows_len] at hc9
          rw [if_pos (by omega)] at hf
          have := hd.1 (by rw [hf]; simp)
          refine uAe (uAb ?_);refine uAa rfl rfl rfl (uAd rfl gU) ?_;refine uAf ?_;refine uAo ?_
          repeat (first | refine tR ?_ | refine bR ?_)
          refine uAq rfl ?_ trivial
          (rw [e1,this,hf]; rfl)
         ·try simp only [nn,uAh,T.rows_len,Fs.rows_len,Sp.rows_len,Gl.rows_len] at hc9
          rw [if_neg (by omega)] at hf
          refine uAp ?_;refine uAb ?_;refine uAa rfl rfl rfl (uAr rfl rfl gU gU rfl (IntWalk.i64_in _ (by omega))) ?_;refine uAa rfl rfl rfl (uAc rfl gU) ?_;refine uAf ?_;refine ⟨k + 1,?_,?_,uAj (⟨⟨_,rfl,?_⟩,⟨sx rfl,sx rfl,sx rfl,trivial⟩⟩) (⟨sx rfl,trivial⟩) trivial⟩
          all_goals (first | rfl | omega | exact ⟨by omega,hd.2 hf⟩)
       ·try simp only [nn,uAh,T.rows_len,Fs.rows_len,Sp.rows_len,Gl.rows_len] at hc7
        have hz:=uDn (by omega) hi
        rw [hz] at e1
        rw [if_neg (by simp)] at e1
        refine uAL ?_
        repeat (first | refine uAF ?_ | refine uAE ?_ | refine uAB rfl ?_)
        refine uAe ?_;refine uAe (uAb ?_);refine uAa rfl rfl rfl (uAg rfl gU rfl rfl) ?_;refine uAa rfl rfl rfl (uAm rfl gU rfl rfl rfl rfl) ?_;refine uAw rfl rfl rfl rfl rfl rfl gU gU (uEm _) rfl ?_;refine uAf ?_;refine uAl rfl (fun hc8=>?_) (fun hc8=>?_)
        ·rw [uF1] at hc8
         refine uAe (uAb ?_);refine uAa rfl rfl rfl (uAd rfl gU) ?_;refine uAf ?_;refine uAo ?_
         repeat (first | refine tR ?_ | refine bR ?_)
         refine uAq rfl ?_ trivial
         (rw [e1,if_pos (by simpa using hc8)]; rfl)
        ·rw [uF1] at hc8
         refine uAp ?_;refine uAe (uAb ?_);refine uAa rfl rfl rfl (uAd rfl gU) ?_;refine uAf ?_;refine uAo ?_
         repeat (first | refine tR ?_ | refine bR ?_)
         refine uAq rfl ?_ trivial
         (rw [e1,if_neg (by simpa using hc8)]; rfl)
theorem uEw (n : Nar) (hs : ∀ s ∈ n.steps,s.msg.size≤900000) (hg : ∀ g ∈ n.goals,T.sizes g.data≤900000) : Ctr sys 14 [xn n] [] (xi (narE uAN n)) none []:=by
 have h4:=Sp.rows_len n.steps
 have h5:=Gl.rows_len n.goals
 refine uAv Tryz.func14 rfl rfl rfl rfl rfl rfl ?_;refine uAe (uAb ?_);refine uAu rfl (uAT rfl rfl rfl rfl) ?_;refine uAa rfl rfl rfl (uAd rfl gU) ?_;refine uAf ?_;refine uAe ?_;refine uAe (uAb ?_);refine uAa rfl rfl rfl (uAs rfl gU rfl rfl rfl rfl rfl) ?_;refine uAw rfl rfl rfl rfl rfl rfl gU gU (uK2 _) rfl ?_;refine uAa rfl rfl rfl (uAd rfl gU) ?_;refine uAf ?_;refine uAn (s:=⟨[(1,_,_),(3,_,_)],[(.l 1,_)],[],[]⟩) (uAj (⟨sx rfl,sx rfl,trivial⟩) (⟨sx rfl,trivial⟩) trivial) ?_;refine uAe (uAb ?_);refine uAa rfl rfl rfl (uAc rfl gU) ?_;refine uAa rfl rfl rfl (uAk rfl rfl gU gU rfl) ?_;refine uAf ?_;refine uAl rfl (fun hc=>?_) (fun hc=>?_)
 ·try simp only [nn,uAh,T.rows_len,Fs.rows_len,Sp.rows_len,Gl.rows_len] at hc
  refine uAe (uAb ?_);refine uAa rfl rfl rfl (uAc rfl gU) ?_;refine uAa rfl rfl rfl (uAd rfl gU) ?_;refine uAf ?_;refine uAo ?_
  repeat (first | refine tR ?_ | refine bR ?_)
  refine uAq rfl ?_ trivial
  (rw [narE,if_pos hc]; rfl)
 ·try simp only [nn,uAh,T.rows_len,Fs.rows_len,Sp.rows_len,Gl.rows_len] at hc
  have e1 : narE uAN n=if errs (spE uAN) n.steps≠0 then errs (spE uAN) n.steps else errs (uDe uAN) n.goals:=by rw [narE,if_neg (by simpa using hc)]
  refine uAp ?_;refine uAe ?_;refine uAe (uAb ?_);refine uAa rfl rfl rfl (uAg rfl gU rfl rfl) ?_;refine uAa rfl rfl rfl (uAm rfl gU rfl rfl rfl rfl) ?_;refine uAQ rfl rfl rfl rfl rfl gU rfl rfl ?_ (fun hh=>by simp at hh); intro hlen;refine uAa rfl rfl rfl (uAc rfl gU) ?_;refine uAf ?_;refine uAn (s:=⟨[(1,_,_),(16,_,_),(17,_,_),(18,_,_)],[(.l 1,_)],[],[]⟩) (uAj (⟨sx rfl,sx rfl,sx rfl,sx rfl,trivial⟩) (⟨sx rfl,trivial⟩) trivial) ?_;refine uAt ?_;refine uAW (ι:=Nat) { t:=[(1,_,_),(16,_,_),(17,_,_)],bx:=[(.l 1,_)],ow:=[] } (fun k=>[(18,true,xi (k : Int))]) (fun k=>[]) (fun k=>k≤n.steps.length∧errs (spE uAN) (n.steps.drop k)=errs (spE uAN) n.steps) (fun k=>n.steps.length - k) (0) (by simp) (uAj (⟨sx rfl,sx rfl,sx rfl,sx rfl,trivial⟩) (⟨sx rfl,trivial⟩) trivial) ?_
  intro k hok
  dsimp only [List.cons_append,List.nil_append]
  obtain ⟨hk,hi⟩:=hok
  refine uAe (uAb ?_);refine uAa rfl rfl rfl (uAk rfl rfl gU gU rfl) ?_;refine uAf ?_;refine uAe ?_;refine uAl rfl (fun hc2=>?_) (fun hc2=>?_)
  ·try simp only [nn,uAh,T.rows_len,Fs.rows_len,Sp.rows_len,Gl.rows_len] at hc2
   have hlt : k < n.steps.length:=by omega
   have hd:=uCW (d:=default) (k:=k) (l:=n.steps) (by omega) hi
   have hm:=hs _ (uCq (d:=default) hlt)
   have hf : spE uAN (n.steps.getD k default)=if uAN (n.steps.getD k default).frm=false∨uAN (n.steps.getD k default).dst=false then 2 else msgE uAN (n.steps.getD k default).msg:=rfl
   refine uAp ?_;refine uAe ?_;refine uAt ?_;refine uAe (uAb ?_);refine uAa rfl rfl rfl (uAy rfl rfl gU gU rfl rfl rfl (fun hh=>Sp.rows_at (by first | omega | (simp at hh ⊢; omega)))) ?_;refine uAa rfl rfl rfl (uAJ rfl gU rfl rfl rfl rfl) ?_;refine uAu rfl (uAP rfl rfl rfl) ?_;refine uAu rfl (uAz rfl rfl rfl rfl rfl rfl rfl) ?_;refine uAf ?_;refine uAe ?_;refine uAe (uAb ?_);refine uAa rfl rfl rfl (uAg rfl gU rfl rfl) ?_;refine uAa rfl rfl rfl (uAm rfl gU rfl rfl rfl rfl) ?_;refine uAw rfl rfl rfl rfl rfl rfl gU gU (uCG _) rfl ?_;refine uAa rfl rfl rfl (uAc rfl gU) ?_;refine uAa rfl rfl rfl (uAg rfl gU rfl rfl) ?_;refine uAa rfl rfl rfl (uAm rfl (fun hh=>hh) rfl rfl rfl rfl) ?_;refine uAw rfl rfl rfl rfl rfl rfl gU (fun hh=>gA ((fun hh=>hh) hh) (rfl)) (uCG _) rfl ?_;refine uAa rfl rfl rfl (uAM rfl rfl gU (fun _ hi=>gP rfl hi)) ?_;refine uAf ?_;refine uAn (s:=⟨[(1,_,_),(5,_,_),(16,_,_),(17,_,_),(18,_,_),(29,_,_)],[(.l 1,_),(.l 5,_)],[],[]⟩) (uAj (⟨sx rfl,sx rfl,sx rfl,sx rfl,sx rfl,sx rfl,trivial⟩) (⟨sx rfl,sx rfl,trivial⟩) trivial) ?_;refine uAl rfl (fun hc3=>?_) (fun hc3=>?_)
   ·try simp only [nn,uAh,T.rows_len,Fs.rows_len,Sp.rows_len,Gl.rows_len] at hc3
    rw [if_pos (by grind)] at hf
    have := hd.1 (by rw [hf]; simp)
    refine uAe (uAb ?_);refine uAa rfl rfl rfl (uAd rfl gU) ?_;refine uAf ?_;refine uAo ?_
    repeat (first | refine tR ?_ | refine bR ?_)
    refine uAq rfl ?_ trivial
    (rw [e1,this,hf]; rfl)
   ·try simp only [nn,uAh,T.rows_len,Fs.rows_len,Sp.rows_len,Gl.rows_len] at hc3
    rw [if_neg (by grind)] at hf
    refine uAp ?_;refine uAe (uAb ?_);refine uAa rfl rfl rfl (uAg rfl gU rfl rfl) ?_;refine uAa rfl rfl rfl (uAs rfl gU rfl rfl rfl rfl rfl) ?_;refine uAw rfl rfl rfl rfl rfl rfl gU gU (uEX (n.steps.getD k default).msg hm) rfl ?_;refine uAa rfl rfl rfl (uAd rfl gU) ?_;refine uAf ?_;refine uAe (uAb ?_);refine uAa rfl rfl rfl (uAc rfl gU) ?_;refine uAa rfl rfl rfl (uAk rfl rfl gU gU rfl) ?_;refine uAf ?_;refine uAn (s:=⟨[(1,_,_),(6,_,_),(16,_,_),(17,_,_),(18,_,_),(34,_,_)],[(.l 1,_)],[],[]⟩) (uAj (⟨sx rfl,sx rfl,sx rfl,sx rfl,sx rfl,sx rfl,trivial⟩) (⟨sx rfl,trivial⟩) trivial) ?_;refine uAl rfl (fun hc4=>?_) (fun hc4=>?_)
    ·try simp only [nn,uAh,T.rows_len,Fs.rows_len,Sp.rows_len,Gl.rows_len] at hc4
     have := hd.1 (by rw [hf]; exact hc4)
     refine uAe (uAb ?_);refine uAa rfl rfl rfl (uAc rfl gU) ?_;refine uAa rfl rfl rfl (uAd rfl gU) ?_;refine uAf ?_;refine uAo ?_
     repeat (first | refine tR ?_ | refine bR ?_)
     refine uAq rfl ?_ trivial
     (rw [e1,this,hf,if_pos hc4]; rfl)
    ·try simp only [nn,uAh,T.rows_len,Fs.rows_len,Sp.rows_len,Gl.rows_len] at hc4
     refine uAp ?_;refine uAb ?_;refine uAa rfl rfl rfl (uAr rfl rfl gU gU rfl (IntWalk.i64_in _ (by omega))) ?_;refine uAa rfl rfl rfl (uAc rfl gU) ?_;refine uAf ?_;refine ⟨k + 1,?_,?_,uAj (⟨⟨_,rfl,?_⟩,⟨sx rfl,sx rfl,sx rfl,trivial⟩⟩) (⟨sx rfl,trivial⟩) trivial⟩
     all_goals (first | rfl | omega | exact ⟨by omega,hd.2 (by rw [hf]; simpa using hc4)⟩)
  ·try simp only [nn,uAh,T.rows_len,Fs.rows_len,Sp.rows_len,Gl.rows_len] at hc2
   have hz:=uDn (by omega) hi
   rw [hz,if_neg (by simp)] at e1
   refine uAL ?_
   repeat (first | refine uAF ?_ | refine uAE ?_ | refine uAB rfl ?_)
   refine uAe ?_;refine uAe (uAb ?_);refine uAa rfl rfl rfl (uAg rfl gU rfl rfl) ?_;refine uAa rfl rfl rfl (uAm rfl gU rfl rfl rfl rfl) ?_;refine uAQ rfl rfl rfl rfl rfl gU rfl rfl ?_ (fun hh=>by simp at hh); intro hlen;refine uAa rfl rfl rfl (uAc rfl gU) ?_;refine uAf ?_;refine uAn (s:=⟨[(38,_,_),(39,_,_),(40,_,_)],[],[],[]⟩) (uAj (⟨sx rfl,sx rfl,sx rfl,trivial⟩) trivial trivial) ?_;refine uAt ?_;refine uAW (ι:=Nat) { t:=[(38,_,_),(39,_,_)],bx:=[],ow:=[] } (fun k=>[(40,true,xi (k : Int))]) (fun k=>[]) (fun k=>k≤n.goals.length∧errs (uDe uAN) (n.goals.drop k)=errs (uDe uAN) n.goals) (fun k=>n.goals.length - k) (0) (by simp) (uAj (⟨sx rfl,sx rfl,sx rfl,trivial⟩) trivial trivial) ?_
   intro k hok2
   dsimp only [List.cons_append,List.nil_append]
   obtain ⟨hk2,hi2⟩:=hok2
   refine uAe (uAb ?_);refine uAa rfl rfl rfl (uAk rfl rfl gU gU rfl) ?_;refine uAf ?_;refine uAe ?_;refine uAl rfl (fun hc5=>?_) (fun hc5=>?_)
   ·try simp only [nn,uAh,T.rows_len,Fs.rows_len,Sp.rows_len,Gl.rows_len] at hc5
    have hlt : k < n.goals.length:=by omega
    have hd:=uCW (d:=default) (k:=k) (l:=n.goals) (by omega) hi2
    have hm:=hg _ (uCq (d:=default) hlt)
    refine uAp ?_;refine uAe ?_;refine uAt ?_;refine uAe (uAb ?_);refine uAa rfl rfl rfl (uAy rfl rfl gU gU rfl rfl rfl (fun hh=>Gl.rows_at (by first | omega | (simp at hh ⊢; omega)))) ?_;refine uAa rfl rfl rfl (uAJ rfl gU rfl rfl rfl rfl) ?_;refine uAu rfl (uAP rfl rfl rfl) ?_;refine uAu rfl (uAz rfl rfl rfl rfl rfl rfl rfl) ?_;refine uAf ?_;refine uAe (uAb ?_);refine uAa rfl rfl rfl (uAs rfl gU rfl rfl rfl rfl rfl) ?_;refine uAw rfl rfl rfl rfl rfl rfl gU gU (uLv (n.goals.getD k default) hm) rfl ?_;refine uAa rfl rfl rfl (uAd rfl gU) ?_;refine uAf ?_;refine uAn (s:=⟨[(9,_,_),(38,_,_),(39,_,_),(40,_,_)],[],[],[]⟩) (uAj (⟨sx rfl,sx rfl,sx rfl,sx rfl,trivial⟩) trivial trivial) ?_;refine uAe (uAb ?_);refine uAa rfl rfl rfl (uAc rfl gU) ?_;refine uAa rfl rfl rfl (uAk rfl rfl gU gU rfl) ?_;refine uAf ?_;refine uAl rfl (fun hc6=>?_) (fun hc6=>?_)
    ·try simp only [nn,uAh,T.rows_len,Fs.rows_len,Sp.rows_len,Gl.rows_len] at hc6
     have := hd.1 hc6
     refine uAe (uAb ?_);refine uAa rfl rfl rfl (uAc rfl gU) ?_;refine uAa rfl rfl rfl (uAd rfl gU) ?_;refine uAf ?_;refine uAo ?_
     repeat (first | refine tR ?_ | refine bR ?_)
     refine uAq rfl ?_ trivial
     (rw [e1,this]; rfl)
    ·try simp only [nn,uAh,T.rows_len,Fs.rows_len,Sp.rows_len,Gl.rows_len] at hc6
     refine uAp ?_;refine uAb ?_;refine uAa rfl rfl rfl (uAr rfl rfl gU gU rfl (IntWalk.i64_in _ (by omega))) ?_;refine uAa rfl rfl rfl (uAc rfl gU) ?_;refine uAf ?_;refine ⟨k + 1,?_,?_,uAj (⟨⟨_,rfl,?_⟩,⟨sx rfl,sx rfl,trivial⟩⟩) trivial trivial⟩
     all_goals (first | rfl | omega | exact ⟨by omega,hd.2 (by simpa using hc6)⟩)
   ·try simp only [nn,uAh,T.rows_len,Fs.rows_len,Sp.rows_len,Gl.rows_len] at hc5
    have hz2:=uDn (by omega) hi2
    refine uAL ?_
    repeat (first | refine uAF ?_ | refine uAE ?_ | refine uAB rfl ?_)
    refine uAe (uAb ?_);refine uAa rfl rfl rfl (uAd rfl gU) ?_;refine uAf ?_;refine uAo ?_
    repeat (first | refine tR ?_ | refine bR ?_)
    refine uAq rfl ?_ trivial
    (rw [e1,hz2]; rfl)
end Go.Proofs.YtnjjdbapadkomaaGreatDoor
namespace Go.Proofs.YtnjjdbapadkomaaGreatDoor
open Go Go.Abs
open Go.RowKit (Below)
theorem uIl : ∀ (L : List (List UInt8)),(L.map fun s : List UInt8=>(⟨s.toArray⟩ : ByteArray)).map (·.data.toList)=L
 | []=>rfl
 | s :: L=>by rw [List.map_cons,List.map_cons,uIl L]
theorem uDl (L : List (List UInt8)) (sep : List UInt8) (hL : L.length≤2000000) (hsl : sep.length≤1000) (hj : (Lib.join L sep).length≤140737488355328) : Ctr sys 40 [xss L,xs sep] [] (xs (Lib.join L sep)) none []:=by
 refine uHz (v:=.string ⟨(Lib.join L sep).toArray⟩) ⟨_,Tryz.func40,by kernel_rfl,by kernel_rfl⟩ (fun w G vs hv hwf hgl=>?_) (fun w G=>CRep.s _ (by omega))
 match vs,hv with
 | [u,v],⟨h1,h2,_⟩ =>
  rw [XRep.str h2]
  have h1 : CRep w G.S (.sl 1 (strR L)) u:=h1
  have hnone : ∀ (a : Option Addr) (c : Nat),L=[]→Calls Tryz.prog 40 #[.slice a 0 c, .string ⟨sep.toArray⟩] w fun e w'=>e = .returned (.string ⟨(Lib.join L sep).toArray⟩)∧Below w.heap.size w w':=by
   intro a c hnil
   subst hnil
   refine (Any.strings_Join_none uKy uDG a c ⟨sep.toArray⟩ w).mono ?_
   rintro e w' ⟨he,hw⟩
   subst hw
   exact ⟨he,Below.refl _ _⟩
  generalize hes : strR L=es at h1
  cases h1 with
  | emp sz a=>exact hnone a 0 (by simpa [strR] using hes)
  | sl sz es blk off len cap vals hl hc hm hsz hcell hrep =>
   by_cases hnil : L=[]
   ·have : len=0:=by rw [← hl,← hes,hnil]; rfl
    subst this
    exact hnone _ cap hnil
   ·have hlen : len=L.length:=by rw [← hl,← hes,uAh]
    subst hlen
    have hpos : 0 < L.length:=List.length_pos_iff.2 hnil
    have hx : (L.map fun s : List UInt8=>(⟨s.toArray⟩ : ByteArray)).map (·.data.toList)=L:=uIl L
    have key:=Any.strings_Join uKy uDG blk off cap (L.map fun s : List UInt8=>(⟨s.toArray⟩ : ByteArray)) ⟨sep.toArray⟩ w (fun j x hj=>by
      rw [List.getElem?_map,Option.map_eq_some_iff] at hj
      obtain ⟨s,hs,rfl⟩:=hj
      have hjl:=(List.getElem?_eq_some_iff.1 hs).1
      obtain ⟨_,h5⟩:=hcell j 0 (by omega) (by omega)
      have hrow : es[j]? = some [.s s]:=by rw [← hes,strR,List.getElem?_map,hs]; rfl
      have h6:=hrep j _ 0 (.s s) hrow rfl
      have h7 : vals j 0 = .string ⟨s.toArray⟩:=XRep.str (G:=G) (w:=w) h6
      rw [show off + j=off + j * 1 + 0 by omega,h5,h7]) (by
      obtain ⟨_,h5⟩:=hcell 0 0 (by omega) (by omega)
      exact World.block_lt_of_cell? (a:=⟨blk,off + 0 * 1 + 0,none⟩) w h5) (by rw [List.length_map]; omega) (by rw [List.length_map]; omega) (by rw [hx]; exact hj)
    rw [hx,List.length_map] at key
    exact key
theorem uMM (t : T) (s : List UInt8) : Ctr sys 137 [xm t,xs s] [] (xb (decide (t.kind=3) && decide (t.name=s))) none []:=by
 refine uAv Tryz.func137 rfl rfl rfl rfl rfl rfl ?_;refine uAe (uAb ?_);refine uAu rfl (uAT rfl rfl rfl rfl) ?_;refine uAa rfl rfl rfl (uAd rfl gU) ?_;refine uAf ?_;refine uAe (uAb ?_);refine uAa rfl rfl rfl (uAg rfl gU rfl rfl) ?_;refine uAa rfl rfl rfl (uAm rfl gU rfl rfl rfl rfl) ?_;refine uAa rfl rfl rfl (uAk rfl rfl gU gU rfl) ?_;refine uAa rfl rfl rfl (uAc rfl gU) ?_;refine uAa rfl rfl rfl (uAg rfl gU rfl rfl) ?_;refine uAa rfl rfl rfl (uAm rfl (fun hh=>hh) rfl rfl rfl rfl) ?_;refine uAa rfl rfl rfl (uAc rfl gU) ?_;refine uAa rfl rfl rfl (uAY rfl rfl (fun hh=>hh) (fun hh=>hh) rfl) ?_;refine uAa rfl rfl rfl (uAO rfl rfl gU (fun _ hi=>gP rfl hi)) ?_;refine uAa rfl rfl rfl (uAd rfl gU) ?_;refine uAf ?_;refine uAo ?_
 repeat (first | refine tR ?_ | refine bR ?_)
 refine uAq rfl ?_ trivial;refine uCu ?_
 rw [Bool.eq_iff_iff]; simp
theorem uF3 (l : List T) (t : T) : X.v (.c (.sl 4 (T.rows l++[t.cells])))=xl (l++[t]):=by simp [xl,T.rows_eq]
theorem uIk (t : T) (h : t.size≤900000) : Ctr sys 94 [xm t] [] (xl (untE t)) none []:=by
 refine uAv Tryz.func94 rfl rfl rfl rfl rfl rfl ?_;refine uAe (uAb ?_);refine uAu rfl (uAT rfl rfl rfl rfl) ?_;refine uAu rfl (uBn (.inr rfl) rfl rfl) ?_;refine uAf ?_;refine uAe (uAb ?_);refine uAu rfl (uBn (.inr rfl) rfl rfl) ?_;refine uAf ?_;refine uAe ?_;refine uAt ?_;refine uAW (ι:=List T × T) { t:=[(1,_,_)],bx:=[],ow:=[(.t 3,_)] } (fun p=>[(3,true,xl p.1)]) (fun p=>[((.l 1),p.2.cells)]) (fun p=>p.1++untE p.2=untE t∧p.1.length + p.2.size≤t.size) (fun p=>p.2.size) (([],t)) (⟨rfl,by simp⟩) (uAj (⟨sx rfl,sx rfl,trivial⟩) (⟨sx rfl,trivial⟩) (⟨rfl,trivial⟩)) ?_
 intro p hok
 dsimp only [List.cons_append,List.nil_append] at *
 obtain ⟨l,u⟩:=p
 dsimp only at hok ⊢
 obtain ⟨hi,hl⟩:=hok
 have hrl:=T.rows_len l
 have hrk:=T.rows_len u.kids
 have hu:=uET u
 refine uAe ?_;refine uAe (uAb ?_);refine uAa rfl rfl rfl (uAs rfl gU rfl rfl rfl rfl rfl) ?_;refine uAw rfl rfl rfl rfl rfl rfl gU gU (uMM _ _) rfl ?_;refine uAa rfl rfl rfl (uAc rfl gU) ?_;refine uAa rfl rfl rfl (uAg rfl gU rfl rfl) ?_;refine uAa rfl rfl rfl (uAm rfl (fun hh=>hh) rfl rfl rfl rfl) ?_;refine uAa rfl rfl rfl (uBb rfl (fun hh=>hh) rfl rfl) ?_;refine uAa rfl rfl rfl (uAk rfl rfl (fun hh=>hh) gU rfl) ?_;refine uAa rfl rfl rfl (uAO rfl rfl gU (fun _ hi=>gP rfl hi)) ?_;refine uAf ?_;refine uAn (s:=⟨[(1,_,_),(3,_,_),(11,_,_)],[(.l 1,_)],[(.t 3,_)],[]⟩) (uAj (⟨sx rfl,sx rfl,sx rfl,trivial⟩) (⟨sx rfl,trivial⟩) (⟨rfl,trivial⟩)) ?_;refine uAl rfl (fun hc=>?_) (fun hc=>?_)
 ·try simp only [nn,uAh,T.rows_len,Fs.rows_len,Sp.rows_len,Gl.rows_len] at hc
  have hp : uCd u=true:=by simp only [uCd]; grind [wPair]
  have hps:=uCk hp
  have h0:=(u.kids.getD 0 default).size_pos
  have h1:=(u.kids.getD 1 default).size_pos
  have hk : u.kids.length=2:=by grind
  rw [if_pos hp] at hu
  refine uAp ?_;refine uAt ?_;refine uAe (uAb ?_);refine uAu rfl (uAH (.inl rfl) rfl rfl rfl) ?_;refine uAa rfl rfl rfl (uAg rfl gU rfl rfl) ?_;refine uAa rfl rfl rfl (uAm rfl gU rfl rfl rfl rfl) ?_;refine uAa rfl rfl rfl (uAy (j:=0) rfl rfl gU gU rfl rfl (by first | omega | (simp at hh ⊢; omega)) (fun hh=>T.rows_at (by first | omega | (simp at hh ⊢; omega)))) ?_;refine uAa rfl rfl rfl (uAJ rfl gU rfl rfl rfl rfl) ?_;refine uAw rfl rfl rfl rfl rfl rfl gU gU (uFy (u.kids.getD 0 default) (by omega)) rfl ?_;refine uAK (xs:=[_]) rfl rfl rfl rfl rfl rfl rfl rfl rfl gU rfl ?_;refine uAu rfl (uAZ rfl rfl rfl rfl rfl rfl rfl (by first | omega | (simp only [List.length_append,List.length_singleton,T.rows_len]; omega)) (by first | omega | (simp only [List.length_append,List.length_singleton,T.rows_len]; omega))) ?_;refine uAu rfl (uAH (.inr rfl) rfl rfl rfl) ?_;refine uAf ?_;refine uAn (s:=⟨[(1,_,_),(3,_,_)],[(.l 1,_)],[(.t 3,_)],[]⟩) (uAj (⟨sx rfl,sx rfl,trivial⟩) (⟨sx rfl,trivial⟩) (⟨rfl,trivial⟩)) ?_;refine uAb ?_;refine uAa rfl rfl rfl (uAg rfl gU rfl rfl) ?_;refine uAa rfl rfl rfl (uAm rfl gU rfl rfl rfl rfl) ?_;refine uAa rfl rfl rfl (uAy (j:=1) rfl rfl gU gU rfl rfl (by first | omega | (simp at hh ⊢; omega)) (fun hh=>T.rows_at (by first | omega | (simp at hh ⊢; omega)))) ?_
  refine uAa rfl rfl rfl (uAJ rfl gU rfl rfl rfl rfl) ?_;refine uAu rfl (uAz rfl rfl rfl rfl rfl rfl rfl) ?_;refine uAf ?_;refine ⟨(l++[u.kids.getD 0 default],u.kids.getD 1 default),?_,?_,uAj (⟨⟨_,rfl,?_⟩,⟨sx rfl,trivial⟩⟩) (⟨⟨_,rfl,?_⟩,trivial⟩) (⟨rfl,trivial⟩)⟩
  ·refine ⟨?_,?_⟩
   ·dsimp only; rw [← hi,hu]; simp
   ·simp only [List.length_append,List.length_singleton]; omega
  ·dsimp only; omega
  ·exact tx (uF3 _ _)
  ·rfl
 ·try simp only [nn,uAh,T.rows_len,Fs.rows_len,Sp.rows_len,Gl.rows_len] at hc
  have hp : ¬uCd u=true:=by simp only [uCd]; grind [wPair]
  rw [if_neg hp] at hu
  have hus:=u.size_pos
  refine uAL ?_
  repeat (first | refine uAF ?_ | refine uAE ?_ | refine uAB rfl ?_)
  refine uAe (uAb ?_);refine uAu rfl (uAH (.inl rfl) rfl rfl rfl) ?_;refine uAa rfl rfl rfl (uAs rfl gU rfl rfl rfl rfl rfl) ?_;refine uAw rfl rfl rfl rfl rfl rfl gU gU (uFy u (by omega)) rfl ?_;refine uAK (xs:=[_]) rfl rfl rfl rfl rfl rfl rfl rfl rfl gU rfl ?_;refine uAu rfl (uAZ rfl rfl rfl rfl rfl rfl rfl (by first | omega | (simp only [List.length_append,List.length_singleton,T.rows_len]; omega)) (by first | omega | (simp only [List.length_append,List.length_singleton,T.rows_len]; omega))) ?_;refine uAu rfl (uAH (.inr rfl) rfl rfl rfl) ?_;refine uAf ?_;refine uAo ?_
  repeat (first | refine tR ?_ | refine bR ?_)
  refine uAq rfl ?_ trivial
  (rw [← hi,hu]; exact uF3 _ _)
theorem uI6 {l : List T} {k : Nat} (h : k < l.length) : (l.take (k + 1)).map uBI=(l.take k).map uBI++[uBI (l.getD k default)]:=by rw [uEk (d:=default) h,List.map_append]; rfl
theorem uGH (n : Nat) (ih : ∀ t : T,t.size≤n→okB t=true→Ctr sys 43 [xm t] [] (xs (uBI t)) none []) (l : List T) (hl : ∀ x ∈ l,x.size≤n) (ho : ∀ x ∈ l,okB x=true) (hs : T.sizes l≤900000) :
  Ctr sys 93 [xl l] [] (xs (uB4 l)) none []:=by
 have hrl:=T.rows_len l
 have hls:=T.len_sizes l
 have hte:=uGx ho
 refine uAv Tryz.func93 rfl rfl rfl rfl rfl rfl ?_;refine uAe (uAb ?_);refine uAa rfl rfl rfl (uAd rfl gU) ?_;refine uAf ?_;refine uAe (uAb ?_);refine uAu rfl (uBn (.inr rfl) rfl rfl) ?_;refine uAf ?_;refine uAe ?_;refine uAe (uAb ?_);refine uAa rfl rfl rfl (uAc rfl gU) ?_;refine uAQ rfl rfl rfl rfl rfl gU rfl rfl ?_ (fun hh=>by simp at hh); intro hlen;refine uAa rfl rfl rfl (uAc rfl gU) ?_;refine uAf ?_;refine uAn (s:=⟨[(3,_,_),(6,_,_),(7,_,_),(8,_,_)],[],[(.t 3,_)],[]⟩) (uAj (⟨sx rfl,sx rfl,sx rfl,sx rfl,trivial⟩) trivial (⟨rfl,trivial⟩)) ?_;refine uAt ?_;refine uAW (ι:=Nat) { t:=[(6,_,_),(7,_,_)],bx:=[],ow:=[(.t 3,_)] } (fun k=>[(8,true,xi (k : Int)),(3,true,xss ((l.take k).map uBI))]) (fun k=>[]) (fun k=>k≤l.length) (fun k=>l.length - k) (0) (by simp) (uAj (⟨sx rfl,sx rfl,sx rfl,sx rfl,trivial⟩) trivial (⟨rfl,trivial⟩)) ?_
 intro k hok
 dsimp only [List.cons_append,List.nil_append]
 refine uAe (uAb ?_);refine uAa rfl rfl rfl (uAk rfl rfl gU gU rfl) ?_;refine uAf ?_;refine uAe ?_;refine uAl rfl (fun hc=>?_) (fun hc=>?_)
 ·try simp only [nn,uAh,T.rows_len,Fs.rows_len,Sp.rows_len,Gl.rows_len] at hc
  have hlt : k < l.length:=by omega
  refine uAp ?_;refine uAe ?_;refine uAt ?_;refine uAe (uAb ?_);refine uAa rfl rfl rfl (uAy rfl rfl gU gU rfl rfl rfl (fun hh=>T.rows_at (by first | omega | (simp at hh ⊢; omega)))) ?_;refine uAa rfl rfl rfl (uAJ rfl gU rfl rfl rfl rfl) ?_;refine uAu rfl (uAP rfl rfl rfl) ?_;refine uAu rfl (uAz rfl rfl rfl rfl rfl rfl rfl) ?_;refine uAf ?_;refine uAb ?_;refine uAu rfl (uAH (.inl rfl) rfl rfl rfl) ?_;refine uAa rfl rfl rfl (uAs rfl gU rfl rfl rfl rfl rfl) ?_;refine uAw rfl rfl rfl rfl rfl rfl gU gU (ih (l.getD k default) (hl _ (uCq hlt)) (ho _ (uCq hlt))) rfl ?_;refine uAK (xs:=[_]) rfl rfl rfl rfl rfl rfl rfl rfl rfl gU rfl ?_;refine uAu rfl (uAZ rfl rfl rfl rfl rfl rfl rfl (by first | omega | (simp only [List.length_append,List.length_singleton,uAh,List.length_map,List.length_take]; omega)) (by first | omega | (simp only [List.length_append,List.length_singleton,uAh,List.length_map,List.length_take]; omega))) ?_;refine uAu rfl (uAH (.inr rfl) rfl rfl rfl) ?_;refine uAf ?_;refine uAn (s:=⟨[(3,_,_),(6,_,_),(7,_,_),(8,_,_)],[],[(.t 3,_)],[]⟩) (uAj (⟨sx rfl,sx rfl,sx rfl,sx rfl,trivial⟩) trivial (⟨rfl,trivial⟩)) ?_;refine uAb ?_;refine uAa rfl rfl rfl (uAr rfl rfl gU gU rfl (IntWalk.i64_in _ (by omega))) ?_;refine uAa rfl rfl rfl (uAc rfl gU) ?_
  refine uAf ?_;refine ⟨k + 1,?_,?_,uAj (⟨⟨_,rfl,?_⟩,⟨⟨_,rfl,?_⟩,⟨sx rfl,sx rfl,trivial⟩⟩⟩) trivial (⟨rfl,trivial⟩)⟩
  all_goals first | rfl | omega | exact tx ((uB8 _ _).trans (by rw [uI6 hlt]))
 ·try simp only [nn,uAh,T.rows_len,Fs.rows_len,Sp.rows_len,Gl.rows_len] at hc
  have : k=l.length:=by omega
  subst this
  rw [List.take_length]
  refine uAL ?_
  repeat (first | refine uAF ?_ | refine uAE ?_ | refine uAB rfl ?_)
  refine uAe (uAb ?_);refine uAa rfl rfl rfl (uAc rfl gU) ?_;refine uAw rfl rfl rfl rfl rfl rfl gU gU (uDl _ [44,32] (by rw [List.length_map]; omega) (by decide) (by show (uB4 l).length≤_; omega)) rfl ?_;refine uAa rfl rfl rfl (uAd rfl gU) ?_;refine uAf ?_;refine uAo ?_
  repeat (first | refine tR ?_ | refine bR ?_)
  refine uAq rfl ?_ trivial
  rfl
theorem uLu : ∀ (n : Nat) (t : T),t.size≤n→n≤900000→okB t=true→Ctr sys 43 [xm t] [] (xs (uBI t)) none []:=by
 intro n
 induction n with
 | zero=>intro t h; have := t.size_pos; omega
 | succ n ih =>
  intro t ht hn ho
  have hse:=t.size_eq
  have hrl:=T.rows_len t.kids
  have hls:=T.len_sizes t.kids
  have hk:=(uD1 ho).1
  have hnl:=(uD1 ho).2
  have he:=uGf t
  have hle:=uES ho
  have ihh:=fun (x : T) (hx : x.size≤n) (hxo : okB x=true)=>ih x hx (by omega) hxo
  refine uAv Tryz.func43 rfl rfl rfl rfl rfl rfl ?_;refine uAe (uAb ?_);refine uAu rfl (uAT rfl rfl rfl rfl) ?_;refine uAa rfl rfl rfl (uAd rfl gU) ?_;refine uAf ?_;refine uAe ?_;refine uAe (uAb ?_);refine uAa rfl rfl rfl (uAg rfl gU rfl rfl) ?_;refine uAa rfl rfl rfl (uAm rfl gU rfl rfl rfl rfl) ?_;refine uAa rfl rfl rfl (uAk rfl rfl gU gU rfl) ?_;refine uAf ?_;refine uAn (s:=⟨[(1,_,_),(5,_,_)],[(.l 1,_)],[],[]⟩) (uAj (⟨sx rfl,sx rfl,trivial⟩) (⟨sx rfl,trivial⟩) trivial) ?_;refine uAl rfl (fun hc=>?_) (fun hc=>?_)
  ·try simp only [nn,uAh,T.rows_len,Fs.rows_len,Sp.rows_len,Gl.rows_len] at hc
   refine uAe (uAb ?_);refine uAa rfl rfl rfl (uAg rfl gU rfl rfl) ?_;refine uAa rfl rfl rfl (uAm rfl gU rfl rfl rfl rfl) ?_;refine uAa rfl rfl rfl (uAd rfl gU) ?_;refine uAf ?_;refine uAo ?_
   repeat (first | refine tR ?_ | refine bR ?_)
   refine uAq rfl ?_ trivial
   (rw [he,if_pos hc]; rfl)
  ·try simp only [nn,uAh,T.rows_len,Fs.rows_len,Sp.rows_len,Gl.rows_len] at hc
   rw [if_neg hc] at he
   refine uAp ?_;refine uAe ?_;refine uAe (uAb ?_);refine uAa rfl rfl rfl (uAg rfl gU rfl rfl) ?_;refine uAa rfl rfl rfl (uAm rfl gU rfl rfl rfl rfl) ?_;refine uAa rfl rfl rfl (uAY rfl rfl gU gU rfl) ?_;refine uAa rfl rfl rfl (uAc rfl gU) ?_;refine uAa rfl rfl rfl (uAg rfl gU rfl rfl) ?_;refine uAa rfl rfl rfl (uAm rfl (fun hh=>hh) rfl rfl rfl rfl) ?_;refine uAa rfl rfl rfl (uBb rfl (fun hh=>hh) rfl rfl) ?_;refine uAa rfl rfl rfl (uAk rfl rfl (fun hh=>hh) gU rfl) ?_;refine uAa rfl rfl rfl (uAO rfl rfl gU (fun _ hi=>gP rfl hi)) ?_;refine uAf ?_;refine uAn (s:=⟨[(1,_,_),(16,_,_)],[(.l 1,_)],[],[]⟩) (uAj (⟨sx rfl,sx rfl,trivial⟩) (⟨sx rfl,trivial⟩) trivial) ?_;refine uAl rfl (fun hc2=>?_) (fun hc2=>?_)
   ·try simp only [nn,uAh,T.rows_len,Fs.rows_len,Sp.rows_len,Gl.rows_len] at hc2
    have hp : uCd t=true:=by simp only [uCd]; grind [wPair]
    rw [if_pos hp] at he
    have hus:=uDE hp
    have htl : (uB4 (untE t)).length≤28 * t.size:=by rw [he] at hle; simp only [List.length_append,List.length_cons,List.length_nil] at hle; omega
    have htx := uGH n ihh (untE t) (fun x hx=>by have := uGV hp hx; omega) (uFZ _ ho) (by omega)
    refine uAe (uAb ?_);refine uAa rfl rfl rfl (uAs rfl gU rfl rfl rfl rfl rfl) ?_;refine uAw rfl rfl rfl rfl rfl rfl gU gU (uIk _ (by omega)) rfl ?_;refine uAw rfl rfl rfl rfl rfl rfl gU gU (htx) rfl ?_;refine uAa rfl rfl rfl (uAD rfl rfl gU gU (by first | omega | (simp only [List.length_append,List.length_cons,List.length_nil]; omega))) ?_;refine uAa rfl rfl rfl (uAD rfl rfl gU gU (by first | omega | (simp only [List.length_append,List.length_cons,List.length_nil]; omega))) ?_;refine uAa rfl rfl rfl (uAd rfl gU) ?_;refine uAf ?_;refine uAo ?_
    repeat (first | refine tR ?_ | refine bR ?_)
    refine uAq rfl ?_ trivial
    (rw [he]; rfl)
   ·try simp only [nn,uAh,T.rows_len,Fs.rows_len,Sp.rows_len,Gl.rows_len] at hc2
    have hp : ¬uCd t=true:=by simp only [uCd]; grind [wPair]
    rw [if_neg hp] at he
    have htl : (uB4 t.kids).length≤28 * t.size:=by rw [he] at hle; simp only [List.length_append,List.length_cons,List.length_nil] at hle; omega
    have htx := uGH n ihh t.kids (fun x hx=>by have := uDM hx; omega) (uFX ho) (by omega)
    refine uAp ?_;refine uAe ?_;refine awp_drawn' (by kernel_rfl) ?_;refine uAi rfl rfl rfl rfl (uAg rfl gU rfl rfl) ?_;refine uAV rfl rfl rfl rfl rfl rfl rfl gU rfl rfl rfl rfl ?_;refine uAi rfl rfl rfl rfl (uAD rfl rfl gU gU (by first | omega | (simp only [List.length_append,List.length_cons,List.length_nil]; omega))) ?_;refine uAi rfl rfl rfl rfl (uAg rfl gU rfl rfl) ?_;refine uAV rfl rfl rfl rfl rfl rfl rfl gU rfl rfl rfl rfl ?_;refine uBa rfl rfl rfl rfl rfl rfl rfl gU gU (htx) rfl ?_;refine uAi rfl rfl rfl rfl (uAD rfl rfl gU gU (by first | omega | (simp only [List.length_append,List.length_cons,List.length_nil]; omega))) ?_;refine uAi rfl rfl rfl rfl (uAD rfl rfl gU gU (by first | omega | (simp only [List.length_append,List.length_cons,List.length_nil]; omega))) ?_;refine uAi rfl rfl rfl rfl (uAd rfl gU) ?_;refine uBg (by kernel_rfl) ?_;refine uAo ?_
    repeat (first | refine tR ?_ | refine bR ?_)
    refine uAq rfl ?_ trivial
    (rw [he]; rfl)
theorem uDz (t : T) (ht : t.size≤900000) (ho : okB t=true) : Ctr sys 43 [xm t] [] (xs (uBI t)) none []:=uLu _ t (Nat.le_refl _) ht ho
theorem uGY (l : List T) (hs : T.sizes l≤900000) (ho : ∀ x ∈ l,okB x=true) : Ctr sys 93 [xl l] [] (xs (uB4 l)) none [] :=
 uGH 900000 (fun t h o=>uDz t h o) l (fun x hx=>by have := uGj hx; omega) ho hs
def ftE (t : T) : List UInt8 × Int:=if uC0 uAN t≠0 then ([],uC0 uAN t) else (uBI t,0)
theorem uDJ (t : T) (ht : t.size≤900000) : Ctr sys 21 [xm t] [] (xse (ftE t)) none []:=by
 refine uAv Tryz.func21 rfl rfl rfl rfl rfl rfl ?_;refine uAe (uAb ?_);refine uAu rfl (uAT rfl rfl rfl rfl) ?_;refine uAa rfl rfl rfl (uAd rfl gU) ?_;refine uAa rfl rfl rfl (uAd rfl gU) ?_;refine uAf ?_;refine uAe ?_;refine uAe (uAb ?_);refine uAa rfl rfl rfl (uAs rfl gU rfl rfl rfl rfl rfl) ?_;refine uAw rfl rfl rfl rfl rfl rfl gU gU (uDv _ (by omega)) rfl ?_;refine uAa rfl rfl rfl (uAd rfl gU) ?_;refine uAf ?_;refine uAn (s:=⟨[(1,_,_),(4,_,_)],[(.l 1,_)],[],[]⟩) (uAj (⟨sx rfl,sx rfl,trivial⟩) (⟨sx rfl,trivial⟩) trivial) ?_;refine uAe (uAb ?_);refine uAa rfl rfl rfl (uAc rfl gU) ?_;refine uAa rfl rfl rfl (uAk rfl rfl gU gU rfl) ?_;refine uAf ?_;refine uAl rfl (fun hc=>?_) (fun hc=>?_)
 ·try simp only [nn,uAh,T.rows_len,Fs.rows_len,Sp.rows_len,Gl.rows_len] at hc
  refine uAe (uAb ?_);refine uAa rfl rfl rfl (uAc rfl gU) ?_;refine uAa rfl rfl rfl (uAd rfl gU) ?_;refine uAa rfl rfl rfl (uAd rfl gU) ?_;refine uAf ?_;refine uAo ?_
  repeat (first | refine tR ?_ | refine bR ?_)
  refine uAq rfl ?_ trivial
  (rw [ftE,if_pos hc]; rfl)
 ·try simp only [nn,uAh,T.rows_len,Fs.rows_len,Sp.rows_len,Gl.rows_len] at hc
  have ho:=(uJA hc).1
  refine uAp ?_;refine uAe (uAb ?_);refine uAa rfl rfl rfl (uAs rfl gU rfl rfl rfl rfl rfl) ?_;refine uAw rfl rfl rfl rfl rfl rfl gU gU (uDz t ht ho) rfl ?_;refine uAa rfl rfl rfl (uAd rfl gU) ?_;refine uAa rfl rfl rfl (uAd rfl gU) ?_;refine uAf ?_;refine uAo ?_
  repeat (first | refine tR ?_ | refine bR ?_)
  refine uAq rfl ?_ trivial
  (rw [ftE,if_neg (by simpa using hc)]; rfl)
end Go.Proofs.YtnjjdbapadkomaaGreatDoor
namespace Go.Proofs.YtnjjdbapadkomaaGreatDoor
open Go Go.Abs
def pbx (l : List Tk) (p : PS) : List C:=[.sl 5 (Tk.rows l), .i .i64 (p.at' : Int), .b p.bad]
abbrev xpp : X:=.v (.ptr (.o 0) 0)
def symP (l : List Tk) (p : PS) (c : List UInt8) : PS:=if symQ l p c=true then p.go else p
theorem uMb {l : List Tk} {a : Int} {b : Bool} {p : PS} (h1 : a=p.at') (h2 : b=p.bad) : ([.sl 5 (Tk.rows l), .i .i64 a, .b b] : List C)=pbx l p:=by rw [h1,h2]; rfl
theorem uEy (l : List (List UInt8)) (s : List UInt8) : Ctr sys 132 [xss l,xs s] [] (xi (idxF (fun x=>decide (s=x)) l)) none []:=by
 have hrl:=uAh l
 refine uAv Tryz.func132 rfl rfl rfl rfl rfl rfl ?_;refine uAe (uAb ?_);refine uAa rfl rfl rfl (uAd rfl gU) ?_;refine uAf ?_;refine uAe ?_;refine uAe (uAb ?_);refine uAa rfl rfl rfl (uAc rfl gU) ?_;refine uAQ rfl rfl rfl rfl rfl gU rfl rfl ?_ (fun hh=>by simp at hh); intro hlen;refine uAa rfl rfl rfl (uAc rfl gU) ?_;refine uAf ?_;refine uAt ?_;refine uAW (ι:=Nat) { t:=[(0,_,_),(1,_,_),(7,_,_)],bx:=[],ow:=[] } (fun k=>[(8,true,xi (k : Int))]) (fun k=>[]) (fun k=>k≤l.length∧(if idxF (fun x=>decide (s=x)) (l.drop k) < 0 then -1 else idxF (fun x=>decide (s=x)) (l.drop k) + k)=idxF (fun x=>decide (s=x)) l) (fun k=>l.length - k) (0) (⟨by simp,(uGD _ _).trans (uHB _ _)⟩) (uAj (⟨sx rfl,sx rfl,sx rfl,sx rfl,trivial⟩) trivial trivial) ?_
 intro k hok
 dsimp only [List.cons_append,List.nil_append]
 obtain ⟨hk,hi⟩:=hok
 refine uAe (uAb ?_);refine uAa rfl rfl rfl (uAk rfl rfl gU gU rfl) ?_;refine uAf ?_;refine uAe ?_;refine uAl rfl (fun hc=>?_) (fun hc=>?_)
 ·try simp only [nn,uAh,T.rows_len,Tk.rows_len] at hc
  have hd:=uHS (k:=k) (l:=l) (by omega) hi
  refine uAp ?_;refine uAe ?_;refine uAt ?_;refine uAe (uAb ?_);refine uAa rfl rfl rfl (uAc rfl gU) ?_;refine uAa rfl rfl rfl (uAd rfl gU) ?_;refine uAf ?_;refine uAe (uAb ?_);refine uAa rfl rfl rfl (uAc rfl gU) ?_;refine uAa rfl rfl rfl (uAc rfl gU) ?_;refine uAa rfl rfl rfl (uAc rfl gU) ?_;refine uAa rfl rfl rfl (uAy rfl rfl gU gU rfl rfl rfl (fun hh=>uCK (by first | omega | (simp at hh ⊢; omega)))) ?_;refine uAa rfl rfl rfl (uAX rfl gU rfl rfl rfl) ?_;refine uAa rfl rfl rfl (uAY rfl rfl gU gU rfl) ?_;refine uAf ?_;refine uAn (s:=⟨[(0,_,_),(1,_,_),(5,_,_),(7,_,_),(8,_,_),(16,_,_)],[],[],[]⟩) (uAj (⟨sx rfl,sx rfl,sx rfl,sx rfl,sx rfl,sx rfl,trivial⟩) trivial trivial) ?_;refine uAl rfl (fun hc2=>?_) (fun hc2=>?_)
  ·try simp only [nn,uAh,T.rows_len,Tk.rows_len] at hc2
   refine uAe (uAb ?_);refine uAa rfl rfl rfl (uAc rfl gU) ?_;refine uAa rfl rfl rfl (uAd rfl gU) ?_;refine uAf ?_;refine uAo ?_
   repeat (first | refine tR ?_ | refine bR ?_)
   refine uAq rfl ?_ trivial;exact uA9 (hd.1 (by simpa using hc2)).symm
  ·try simp only [nn,uAh,T.rows_len,Tk.rows_len] at hc2
   refine uAp ?_;refine uAb ?_;refine uAa rfl rfl rfl (uAr rfl rfl gU gU rfl (IntWalk.i64_in _ (by omega))) ?_;refine uAa rfl rfl rfl (uAc rfl gU) ?_;refine uAf ?_;refine ⟨k + 1,?_,?_,uAj (⟨⟨_,rfl,?_⟩,⟨sx rfl,sx rfl,sx rfl,trivial⟩⟩) trivial trivial⟩
   all_goals (first | rfl | omega | exact ⟨by omega,hd.2 (by simpa using hc2)⟩)
 ·try simp only [nn,uAh,T.rows_len,Tk.rows_len] at hc
  refine uAL ?_
  repeat (first | refine uAF ?_ | refine uAE ?_ | refine uAB rfl ?_)
  refine uAe (uAb ?_);refine uAa rfl rfl rfl (uAd rfl gU) ?_;refine uAf ?_;refine uAo ?_
  repeat (first | refine tR ?_ | refine bR ?_)
  refine uAq rfl ?_ trivial;exact uA9 (uJe (by omega) hi).symm
theorem uEZ (s : List UInt8) : ∀ l : List (List UInt8),(l.any fun x=>decide (s=x))=l.contains s
 | []=>rfl
 | x :: l=>by
  rw [List.any_cons,List.contains_cons,uEZ s l]
  congr 1
  rw [Bool.eq_iff_iff]; simp
theorem uEl (l : List (List UInt8)) (s : List UInt8) : Ctr sys 85 [xss l,xs s] [] (xb (l.contains s)) none []:=by
 refine uAv Tryz.func85 rfl rfl rfl rfl rfl rfl ?_;refine uAe (uAb ?_);refine uAa rfl rfl rfl (uAd rfl gU) ?_;refine uAf ?_;refine uAe (uAb ?_);refine uAa rfl rfl rfl (uAc rfl gU) ?_;refine uAa rfl rfl rfl (uAc rfl gU) ?_;refine uAw rfl rfl rfl rfl rfl rfl gU gU (uEy _ _) rfl ?_;refine uAa rfl rfl rfl (uAk rfl rfl gU gU rfl) ?_;refine uAa rfl rfl rfl (uAd rfl gU) ?_;refine uAf ?_;refine uAo ?_
 repeat (first | refine tR ?_ | refine bR ?_)
 refine uAq rfl ?_ trivial;exact uCu ((uGS _ l).trans (uEZ s l))
theorem uBO (l : List Tk) (p : PS) (c : List UInt8) (hl : l.length≤2000000) (hp : p.at'≤3000000) : Ctr sys 61 [xpp,xs c] [pbx l p] (xb (symQ l p c)) none [pbx l (symP l p c)]:=by
 have hrl:=Tk.rows_len l
 refine uAv Tryz.func61 rfl rfl rfl rfl rfl rfl ?_;refine uAe (uAb ?_);refine uAa rfl rfl rfl (uAd rfl gU) ?_;refine uAf ?_;refine uAe ?_;refine uAe ?_;refine awp_drawn' (by kernel_rfl) ?_;refine uAi rfl rfl rfl rfl (uAc rfl gU) ?_;refine uAi rfl rfl rfl rfl (uAx rfl gU) ?_;refine uAi rfl rfl rfl rfl (uAg rfl gU rfl rfl) ?_;refine uAV rfl rfl rfl rfl rfl rfl rfl gU rfl rfl rfl rfl ?_;refine uAi rfl rfl rfl rfl (uAc rfl gU) ?_;refine uAi rfl rfl rfl rfl (uAc rfl gU) ?_;refine uAi rfl rfl rfl rfl (uAx rfl (fun hh=>hh)) ?_;refine uAi rfl rfl rfl rfl (uAg rfl (fun hh=>hh) rfl rfl) ?_;refine uAV rfl rfl rfl rfl rfl rfl rfl (fun hh=>hh) rfl rfl rfl rfl ?_;refine uAi rfl rfl rfl rfl (uAc rfl gU) ?_;refine uAi rfl rfl rfl rfl (uAx rfl (fun hh=>hh)) ?_;refine uAi rfl rfl rfl rfl (uAg rfl (fun hh=>hh) rfl rfl) ?_;refine uAV rfl rfl rfl rfl rfl rfl rfl (fun hh=>hh) rfl rfl rfl rfl ?_;refine uAi rfl rfl rfl rfl (uBb rfl (fun hh=>hh) rfl rfl) ?_;refine uAi rfl rfl rfl rfl (uAk rfl rfl (fun hh=>hh) (fun hh=>hh) rfl) ?_;refine uAi rfl rfl rfl rfl (uAM rfl rfl gU (fun _ hi=>gP rfl hi)) ?_;refine uAi rfl rfl rfl rfl (uAc rfl gU) ?_;refine uAi rfl rfl rfl rfl (uAc rfl gU) ?_;refine uAi rfl rfl rfl rfl (uAx rfl (fun hh=>hh)) ?_;refine uAi rfl rfl rfl rfl (uAg rfl (fun hh=>hh) rfl rfl) ?_
 refine uAV rfl rfl rfl rfl rfl rfl rfl (fun hh=>hh) rfl rfl rfl rfl ?_;refine uAi rfl rfl rfl rfl (uAc rfl gU) ?_;refine uAi rfl rfl rfl rfl (uAx rfl (fun hh=>hh)) ?_;refine uAi rfl rfl rfl rfl (uAg rfl (fun hh=>hh) rfl rfl) ?_;refine uAV rfl rfl rfl rfl rfl rfl rfl (fun hh=>hh) rfl rfl rfl rfl ?_;refine uAi rfl rfl rfl rfl (uAy (j:=p.at') rfl rfl (fun hh=>hh) (fun hh=>hh) rfl rfl (by first | omega | (simp at hh ⊢; omega)) (fun hh=>Tk.rows_at (by first | omega | (simp at hh ⊢; omega)))) ?_;refine uAi rfl rfl rfl rfl (uA8 rfl (fun hh=>hh) rfl rfl) ?_;refine uAi rfl rfl rfl rfl (uAX rfl (fun hh=>hh) rfl rfl rfl) ?_;refine uAi rfl rfl rfl rfl (uAk rfl rfl (fun hh=>hh) gU rfl) ?_;refine uAi rfl rfl rfl rfl (uAM rfl rfl gU (fun _ hi=>gP rfl hi)) ?_;refine uAi rfl rfl rfl rfl (uAc rfl gU) ?_;refine uAi rfl rfl rfl rfl (uAc rfl gU) ?_;refine uAi rfl rfl rfl rfl (uAx rfl (fun hh=>hh)) ?_;refine uAi rfl rfl rfl rfl (uAg rfl (fun hh=>hh) rfl rfl) ?_;refine uAV rfl rfl rfl rfl rfl rfl rfl (fun hh=>hh) rfl rfl rfl rfl ?_;refine uAi rfl rfl rfl rfl (uAc rfl gU) ?_;refine uAi rfl rfl rfl rfl (uAx rfl (fun hh=>hh)) ?_;refine uAi rfl rfl rfl rfl (uAg rfl (fun hh=>hh) rfl rfl) ?_;refine uAV rfl rfl rfl rfl rfl rfl rfl (fun hh=>hh) rfl rfl rfl rfl ?_;refine uAi rfl rfl rfl rfl (uAy (j:=p.at') rfl rfl (fun hh=>hh) (fun hh=>hh) rfl rfl (by first | omega | (simp at hh ⊢; omega)) (fun hh=>Tk.rows_at (by first | omega | (simp at hh ⊢; omega)))) ?_
 refine uAi rfl rfl rfl rfl (uA8 rfl (fun hh=>hh) rfl rfl) ?_;refine uAi rfl rfl rfl rfl (uAX rfl (fun hh=>hh) rfl rfl rfl) ?_;refine uAi rfl rfl rfl rfl (uAc rfl gU) ?_;refine uAi rfl rfl rfl rfl (uAY rfl rfl (fun hh=>hh) (fun hh=>hh) rfl) ?_;refine uAi rfl rfl rfl rfl (uAM rfl rfl gU (fun _ hi=>gP rfl hi)) ?_;refine uBg (by kernel_rfl) ?_;refine uAn (s:=⟨[(0,_,_),(49,_,_)],[(.o 0,_)],[],[]⟩) (uAj (⟨sx rfl,sx rfl,trivial⟩) (⟨sx rfl,trivial⟩) trivial) ?_;refine uAl rfl (fun hc=>?_) (fun hc=>?_)
 ·try simp only [nn,uAh,T.rows_len,Tk.rows_len] at hc
  have h : symQ l p c=false:=by simp only [symQ]; grind
  have h2 : symP l p c=p:=by rw [symP,h]; rfl
  rw [h,h2]
  refine uAe (uAb ?_);refine uAa rfl rfl rfl (uAd rfl gU) ?_;refine uAf ?_;refine uAo ?_
  repeat (first | refine tR ?_ | refine bR ?_)
  refine uAq rfl ?_ (⟨⟨_,rfl,?_⟩,trivial⟩)
  (all_goals rfl)
 ·try simp only [nn,uAh,T.rows_len,Tk.rows_len] at hc
  have h : symQ l p c=true:=by simp only [symQ]; grind
  have h2 : symP l p c=p.go:=by rw [symP,if_pos h]
  rw [h,h2]
  refine uAp ?_;refine uAe (uAb ?_);refine uAa rfl rfl rfl (uAc rfl gU) ?_;refine uAa rfl rfl rfl (uAx rfl gU) ?_;refine uAa rfl rfl rfl (uAg rfl gU rfl rfl) ?_;refine uAa rfl rfl rfl (uAm rfl gU rfl rfl rfl rfl) ?_;refine uAa rfl rfl rfl (uAr rfl rfl gU gU rfl (IntWalk.i64_in _ (by omega))) ?_;refine uAa rfl rfl rfl (uAx rfl gU) ?_;refine uAa rfl rfl rfl (uAg rfl gU rfl rfl) ?_;refine uAu rfl (uAz rfl rfl rfl rfl rfl rfl rfl) ?_;refine uAf ?_;refine uAn (s:=⟨[],[(.o 0,_)],[],[]⟩) (uAj trivial (⟨sx rfl,trivial⟩) trivial) ?_;refine uAe (uAb ?_);refine uAa rfl rfl rfl (uAd rfl gU) ?_;refine uAf ?_;refine uAo ?_
  repeat (first | refine tR ?_ | refine bR ?_)
  refine uAq rfl ?_ (⟨⟨_,rfl,?_⟩,trivial⟩)
  (all_goals first | rfl | exact uMb (by simp [PS.go]) rfl)
theorem uBc (l : List Tk) (p : PS) (c : List UInt8) (hl : l.length≤2000000) (hp : p.at'≤3000000) : Ctr sys 60 [xpp,xs c] [pbx l p] (.tup []) none [pbx l (uA7 l c p)]:=by
 refine uAv Tryz.func60 rfl rfl rfl rfl rfl rfl ?_;refine uAe (uAb ?_);refine uAa rfl rfl rfl (uAc rfl gU) ?_;refine uAa rfl rfl rfl (uAc rfl gU) ?_;refine uAI (.o 0) rfl rfl rfl rfl rfl rfl (uBO _ _ _ (by omega) (by omega)) rfl (by rfl) (by rfl) rfl rfl rfl ?_;refine uAa rfl rfl rfl (uA1 rfl gU) ?_;refine uAf ?_;refine uAl rfl (fun hc=>?_) (fun hc=>?_)
 ·try simp only [nn,uAh,T.rows_len,Tk.rows_len] at hc
  have h2 : symP l p c=p:=by rw [symP,hc]; rfl
  have h3 : uA7 l c p=p.off:=by rw [uA7,hc]; rfl
  rw [h2,h3]
  refine uAb ?_;refine uAa rfl rfl rfl (uAc rfl gU) ?_;refine uAa rfl rfl rfl (uAx rfl gU) ?_;refine uAa rfl rfl rfl (uAg rfl gU rfl rfl) ?_;refine uAu rfl (uAz rfl rfl rfl rfl rfl rfl rfl) ?_;refine uAf ?_;refine uKa rfl ?_ (⟨⟨_,rfl,?_⟩,trivial⟩)
  (all_goals rfl)
 ·try simp only [nn,uAh,T.rows_len,Tk.rows_len] at hc
  have h2 : symP l p c=p.go:=by rw [symP,if_pos hc]
  have h3 : uA7 l c p=p.go:=by rw [uA7,if_pos hc]
  rw [h2,h3]
  refine uAp ?_;refine uKa rfl ?_ (⟨⟨_,rfl,?_⟩,trivial⟩)
  (all_goals rfl)
theorem uBy (l : List Tk) (p : PS) (ws : List (List UInt8)) (hl : l.length≤2000000) (hp : p.at'≤3000000) : Ctr sys 59 [xpp,xss ws] [pbx l p] (xs (uAA l ws p).1) none [pbx l (uAA l ws p).2]:=by
 have hrl:=Tk.rows_len l
 have hws:=uAh ws
 refine uAv Tryz.func59 rfl rfl rfl rfl rfl rfl ?_;refine uAe (uAb ?_);refine uAa rfl rfl rfl (uAd rfl gU) ?_;refine uAf ?_;refine uAe ?_;refine uAe ?_;refine awp_drawn' (by kernel_rfl) ?_;refine uAi rfl rfl rfl rfl (uAc rfl gU) ?_;refine uAi rfl rfl rfl rfl (uAx rfl gU) ?_;refine uAi rfl rfl rfl rfl (uAg rfl gU rfl rfl) ?_;refine uAV rfl rfl rfl rfl rfl rfl rfl gU rfl rfl rfl rfl ?_;refine uAi rfl rfl rfl rfl (uAc rfl gU) ?_;refine uAi rfl rfl rfl rfl (uAc rfl gU) ?_;refine uAi rfl rfl rfl rfl (uAx rfl (fun hh=>hh)) ?_;refine uAi rfl rfl rfl rfl (uAg rfl (fun hh=>hh) rfl rfl) ?_;refine uAV rfl rfl rfl rfl rfl rfl rfl (fun hh=>hh) rfl rfl rfl rfl ?_;refine uAi rfl rfl rfl rfl (uAc rfl gU) ?_;refine uAi rfl rfl rfl rfl (uAx rfl (fun hh=>hh)) ?_;refine uAi rfl rfl rfl rfl (uAg rfl (fun hh=>hh) rfl rfl) ?_;refine uAV rfl rfl rfl rfl rfl rfl rfl (fun hh=>hh) rfl rfl rfl rfl ?_;refine uAi rfl rfl rfl rfl (uBb rfl (fun hh=>hh) rfl rfl) ?_;refine uAi rfl rfl rfl rfl (uAk rfl rfl (fun hh=>hh) (fun hh=>hh) rfl) ?_;refine uAi rfl rfl rfl rfl (uAM rfl rfl gU (fun _ hi=>gP rfl hi)) ?_;refine uAi rfl rfl rfl rfl (uAc rfl gU) ?_;refine uAi rfl rfl rfl rfl (uAc rfl gU) ?_;refine uAi rfl rfl rfl rfl (uAx rfl (fun hh=>hh)) ?_;refine uAi rfl rfl rfl rfl (uAg rfl (fun hh=>hh) rfl rfl) ?_
 refine uAV rfl rfl rfl rfl rfl rfl rfl (fun hh=>hh) rfl rfl rfl rfl ?_;refine uAi rfl rfl rfl rfl (uAc rfl gU) ?_;refine uAi rfl rfl rfl rfl (uAx rfl (fun hh=>hh)) ?_;refine uAi rfl rfl rfl rfl (uAg rfl (fun hh=>hh) rfl rfl) ?_;refine uAV rfl rfl rfl rfl rfl rfl rfl (fun hh=>hh) rfl rfl rfl rfl ?_;refine uAi rfl rfl rfl rfl (uAy (j:=p.at') rfl rfl (fun hh=>hh) (fun hh=>hh) rfl rfl (by first | omega | (simp at hh ⊢; omega)) (fun hh=>Tk.rows_at (by first | omega | (simp at hh ⊢; omega)))) ?_;refine uAi rfl rfl rfl rfl (uA8 rfl (fun hh=>hh) rfl rfl) ?_;refine uAi rfl rfl rfl rfl (uAX rfl (fun hh=>hh) rfl rfl rfl) ?_;refine uAi rfl rfl rfl rfl (uAk rfl rfl (fun hh=>hh) gU rfl) ?_;refine uAi rfl rfl rfl rfl (uAM rfl rfl gU (fun _ hi=>gP rfl hi)) ?_;refine uAi rfl rfl rfl rfl (uAc rfl gU) ?_;refine uAi rfl rfl rfl rfl (uAc rfl gU) ?_;refine uAi rfl rfl rfl rfl (uBb rfl (fun hh=>hh) rfl rfl) ?_;refine uAi rfl rfl rfl rfl (uAk rfl rfl (fun hh=>hh) gU rfl) ?_;refine uAi rfl rfl rfl rfl (uAc rfl (fun hh=>hh)) ?_;refine uAi rfl rfl rfl rfl (uAc rfl gU) ?_;refine uAi rfl rfl rfl rfl (uAc rfl gU) ?_;refine uAi rfl rfl rfl rfl (uAx rfl (fun hh=>hh)) ?_;refine uAi rfl rfl rfl rfl (uAg rfl (fun hh=>hh) rfl rfl) ?_;refine uAV rfl rfl rfl rfl rfl rfl rfl (fun hh=>hh) rfl rfl rfl rfl ?_
 refine uAi rfl rfl rfl rfl (uAc rfl gU) ?_;refine uAi rfl rfl rfl rfl (uAx rfl (fun hh=>hh)) ?_;refine uAi rfl rfl rfl rfl (uAg rfl (fun hh=>hh) rfl rfl) ?_;refine uAV rfl rfl rfl rfl rfl rfl rfl (fun hh=>hh) rfl rfl rfl rfl ?_;refine uAi rfl rfl rfl rfl (uAy (j:=p.at') rfl rfl (fun hh=>hh) (fun hh=>hh) rfl rfl (by first | omega | (simp at hh ⊢; omega)) (fun hh=>Tk.rows_at (by first | omega | (simp at hh ⊢; omega)))) ?_;refine uAi rfl rfl rfl rfl (uA8 rfl (fun hh=>hh) rfl rfl) ?_;refine uAi rfl rfl rfl rfl (uAX rfl (fun hh=>hh) rfl rfl rfl) ?_;refine uBa rfl rfl rfl rfl rfl rfl rfl gU (fun hh=>gA ((fun hh=>hh) hh) (gA ((fun hh=>hh) hh) (rfl))) (uEl _ _) rfl ?_;refine uAi rfl rfl rfl rfl (uA1 rfl (fun hh=>hh)) ?_;refine uAi rfl rfl rfl rfl (uAO rfl rfl (fun hh=>hh) (fun hh hi=>gP hh hi)) ?_;refine uAi rfl rfl rfl rfl (uAM rfl rfl gU (fun _ hi=>gP rfl hi)) ?_;refine uBg (by kernel_rfl) ?_;refine uAn (s:=⟨[(0,_,_),(55,_,_)],[(.o 0,_)],[],[]⟩) (uAj (⟨sx rfl,sx rfl,trivial⟩) (⟨sx rfl,trivial⟩) trivial) ?_;refine uAl rfl (fun hc=>?_) (fun hc=>?_)
 ·try simp only [nn,uAh,T.rows_len,Tk.rows_len] at hc
  have h : namQ l p ws=false:=by
   simp only [namQ]
   by_cases hw : ws=[]
   ·subst hw; simp at hc ⊢; grind
   ·have : 0 < ws.length:=List.length_pos_iff.2 hw
    simp [hw]; grind
  have h2 : uAA l ws p=([],p.off):=by rw [uAA,h]; rfl
  rw [h2]
  refine uAe (uAb ?_);refine uAa rfl rfl rfl (uAc rfl gU) ?_;refine uAa rfl rfl rfl (uAx rfl gU) ?_;refine uAa rfl rfl rfl (uAg rfl gU rfl rfl) ?_;refine uAu rfl (uAz rfl rfl rfl rfl rfl rfl rfl) ?_;refine uAf ?_;refine uAe (uAb ?_);refine uAa rfl rfl rfl (uAd rfl gU) ?_;refine uAf ?_;refine uAo ?_
  repeat (first | refine tR ?_ | refine bR ?_)
  refine uAq rfl ?_ (⟨⟨_,rfl,?_⟩,trivial⟩)
  (all_goals rfl)
 ·try simp only [nn,uAh,T.rows_len,Tk.rows_len] at hc
  have h : namQ l p ws=true:=by
   simp only [namQ]
   by_cases hw : ws=[]
   ·subst hw; simp at hc ⊢; grind
   ·have : 0 < ws.length:=List.length_pos_iff.2 hw
    simp [hw]; grind
  have h2 : uAA l ws p=((l.getD p.at' tk0).text,p.go):=by rw [uAA,if_pos h]
  rw [h2]
  refine uAp ?_;refine uAe (uAb ?_);refine uAa rfl rfl rfl (uAc rfl gU) ?_;refine uAa rfl rfl rfl (uAx rfl gU) ?_;refine uAa rfl rfl rfl (uAg rfl gU rfl rfl) ?_;refine uAa rfl rfl rfl (uAm rfl gU rfl rfl rfl rfl) ?_;refine uAa rfl rfl rfl (uAr rfl rfl gU gU rfl (IntWalk.i64_in _ (by omega))) ?_;refine uAa rfl rfl rfl (uAx rfl gU) ?_;refine uAa rfl rfl rfl (uAg rfl gU rfl rfl) ?_;refine uAu rfl (uAz rfl rfl rfl rfl rfl rfl rfl) ?_;refine uAf ?_;refine uAn (s:=⟨[(0,_,_)],[(.o 0,_)],[],[]⟩) (uAj (⟨sx rfl,trivial⟩) (⟨sx rfl,trivial⟩) trivial) ?_;refine uAe ?_;refine awp_drawn' (by kernel_rfl) ?_;refine uAi rfl rfl rfl rfl (uAc rfl gU) ?_;refine uAi rfl rfl rfl rfl (uAx rfl gU) ?_;refine uAi rfl rfl rfl rfl (uAg rfl gU rfl rfl) ?_;refine uAV rfl rfl rfl rfl rfl rfl rfl gU rfl rfl rfl rfl ?_;refine uAi rfl rfl rfl rfl (uAc rfl gU) ?_;refine uAi rfl rfl rfl rfl (uAx rfl gU) ?_;refine uAi rfl rfl rfl rfl (uAg rfl gU rfl rfl) ?_;refine uAV rfl rfl rfl rfl rfl rfl rfl gU rfl rfl rfl rfl ?_;refine uAi rfl rfl rfl rfl (uAr rfl rfl gU gU rfl (IntWalk.i64_in _ (by omega))) ?_;refine uAi rfl rfl rfl rfl (uAy (j:=p.at') rfl rfl gU gU rfl rfl (by first | omega | (simp at hh ⊢; omega)) (fun hh=>Tk.rows_at (by first | omega | (simp at hh ⊢; omega)))) ?_
  refine uAi rfl rfl rfl rfl (uA8 rfl gU rfl rfl) ?_;refine uAi rfl rfl rfl rfl (uAX rfl gU rfl rfl rfl) ?_;refine uAi rfl rfl rfl rfl (uAd rfl gU) ?_;refine uBg (by kernel_rfl) ?_;refine uAo ?_
  repeat (first | refine tR ?_ | refine bR ?_)
  refine uAq rfl ?_ (⟨⟨_,rfl,?_⟩,trivial⟩)
  (all_goals first | rfl | exact uMb (by simp [PS.go]) rfl)
theorem uJy (l : List Tk) (p : PS) (hl : l.length≤2000000) : Ctr sys 113 [xpp] [pbx l p] (xi (uJm l p)) none [pbx l p]:=by
 have hrl:=Tk.rows_len l
 refine uAv Tryz.func113 rfl rfl rfl rfl rfl rfl ?_;refine uAe (uAb ?_);refine uAa rfl rfl rfl (uAd rfl gU) ?_;refine uAf ?_;refine uAe ?_;refine uAt ?_;refine uAe (uAb ?_);refine uAa rfl rfl rfl (uAc rfl gU) ?_;refine uAa rfl rfl rfl (uAx rfl gU) ?_;refine uAa rfl rfl rfl (uAg rfl gU rfl rfl) ?_;refine uAa rfl rfl rfl (uAm rfl gU rfl rfl rfl rfl) ?_;refine uAQ rfl rfl rfl rfl rfl gU rfl rfl ?_ (fun hh=>by simp at hh); intro hlen;refine uAa rfl rfl rfl (uAk rfl rfl gU gU rfl) ?_;refine uAa rfl rfl rfl (uAd rfl gU) ?_;refine uAf ?_;refine uAn (s:=⟨[(0,_,_),(3,_,_)],[(.o 0,_)],[],[]⟩) (uAj (⟨sx rfl,sx rfl,trivial⟩) (⟨sx rfl,trivial⟩) trivial) ?_;refine uAl rfl (fun hc=>?_) (fun hc=>?_)
 ·try simp only [nn,uAh,T.rows_len,Tk.rows_len] at hc
  refine uAe (uAb ?_);refine uAa rfl rfl rfl (uAd rfl gU) ?_;refine uAf ?_;refine uAo ?_
  repeat (first | refine tR ?_ | refine bR ?_)
  refine uAq rfl ?_ (⟨⟨_,rfl,?_⟩,trivial⟩)
  (all_goals first | rfl | (rw [uJm,if_pos (by omega)]; rfl))
 ·try simp only [nn,uAh,T.rows_len,Tk.rows_len] at hc
  refine uAe ?_;refine awp_drawn' (by kernel_rfl) ?_;refine uAi rfl rfl rfl rfl (uAc rfl gU) ?_;refine uAi rfl rfl rfl rfl (uAx rfl gU) ?_;refine uAi rfl rfl rfl rfl (uAg rfl gU rfl rfl) ?_;refine uAV rfl rfl rfl rfl rfl rfl rfl gU rfl rfl rfl rfl ?_;refine uAi rfl rfl rfl rfl (uAc rfl gU) ?_;refine uAi rfl rfl rfl rfl (uAx rfl gU) ?_;refine uAi rfl rfl rfl rfl (uAg rfl gU rfl rfl) ?_;refine uAV rfl rfl rfl rfl rfl rfl rfl gU rfl rfl rfl rfl ?_;refine uAi rfl rfl rfl rfl (uBb rfl gU rfl rfl) ?_;refine uAi rfl rfl rfl rfl (uAk rfl rfl gU gU rfl) ?_;refine uAi rfl rfl rfl rfl (uAd rfl gU) ?_;refine uBg (by kernel_rfl) ?_;refine uAn (s:=⟨[(0,_,_),(10,_,_)],[(.o 0,_)],[],[]⟩) (uAj (⟨sx rfl,sx rfl,trivial⟩) (⟨sx rfl,trivial⟩) trivial) ?_;refine uAl rfl (fun hc2=>?_) (fun hc2=>?_)
  ·try simp only [nn,uAh,T.rows_len,Tk.rows_len] at hc2
   refine uAe ?_;refine awp_drawn' (by kernel_rfl) ?_;refine uAi rfl rfl rfl rfl (uAc rfl gU) ?_;refine uAi rfl rfl rfl rfl (uAx rfl gU) ?_;refine uAi rfl rfl rfl rfl (uAg rfl gU rfl rfl) ?_;refine uAV rfl rfl rfl rfl rfl rfl rfl gU rfl rfl rfl rfl ?_;refine uAi rfl rfl rfl rfl (uAc rfl gU) ?_;refine uAi rfl rfl rfl rfl (uAx rfl gU) ?_;refine uAi rfl rfl rfl rfl (uAg rfl gU rfl rfl) ?_;refine uAV rfl rfl rfl rfl rfl rfl rfl gU rfl rfl rfl rfl ?_;refine uAi rfl rfl rfl rfl (uBb rfl gU rfl rfl) ?_;refine uAi rfl rfl rfl rfl (uAr rfl rfl gU gU rfl (IntWalk.i64_in _ (by omega))) ?_;refine uAi rfl rfl rfl rfl (uAy (j:=(l.length - 1)) rfl rfl gU gU rfl rfl (by first | omega | (simp at hh ⊢; omega)) (fun hh=>Tk.rows_at (by first | omega | (simp at hh ⊢; omega)))) ?_;refine uAi rfl rfl rfl rfl (uA8 rfl gU rfl rfl) ?_;refine uAi rfl rfl rfl rfl (uAX rfl gU rfl rfl rfl) ?_;refine uAi rfl rfl rfl rfl (uAd rfl gU) ?_;refine uBg (by kernel_rfl) ?_;refine uAo ?_
   repeat (first | refine tR ?_ | refine bR ?_)
   refine uAq rfl ?_ (⟨⟨_,rfl,?_⟩,trivial⟩)
   (all_goals first | rfl | (rw [uJm,if_neg (by omega),if_pos (by omega)]; rfl))
  ·try simp only [nn,uAh,T.rows_len,Tk.rows_len] at hc2
   refine uAp ?_;refine uAe ?_;refine awp_drawn' (by kernel_rfl) ?_;refine uAi rfl rfl rfl rfl (uAc rfl gU) ?_;refine uAi rfl rfl rfl rfl (uAx rfl gU) ?_;refine uAi rfl rfl rfl rfl (uAg rfl gU rfl rfl) ?_;refine uAV rfl rfl rfl rfl rfl rfl rfl gU rfl rfl rfl rfl ?_;refine uAi rfl rfl rfl rfl (uAc rfl gU) ?_;refine uAi rfl rfl rfl rfl (uAx rfl gU) ?_;refine uAi rfl rfl rfl rfl (uAg rfl gU rfl rfl) ?_;refine uAV rfl rfl rfl rfl rfl rfl rfl gU rfl rfl rfl rfl ?_;refine uAi rfl rfl rfl rfl (uAy (j:=p.at') rfl rfl gU gU rfl rfl (by first | omega | (simp at hh ⊢; omega)) (fun hh=>Tk.rows_at (by first | omega | (simp at hh ⊢; omega)))) ?_;refine uAi rfl rfl rfl rfl (uA8 rfl gU rfl rfl) ?_;refine uAi rfl rfl rfl rfl (uAX rfl gU rfl rfl rfl) ?_;refine uAi rfl rfl rfl rfl (uAd rfl gU) ?_;refine uBg (by kernel_rfl) ?_;refine uAo ?_
   repeat (first | refine tR ?_ | refine bR ?_)
   refine uAq rfl ?_ (⟨⟨_,rfl,?_⟩,trivial⟩)
   (all_goals first | rfl | (rw [uJm,if_neg (by omega),if_neg (by omega)]; rfl))
theorem uE2 (l : List Tk) (p : PS) (hl : l.length≤2000000) : Ctr sys 63 [xpp] [pbx l p] (.tup [.c (.i .i64 (endE l p).1), .c (.i .i64 (endE l p).2)]) none [pbx l p]:=by
 have hrl:=Tk.rows_len l
 refine uAv Tryz.func63 rfl rfl rfl rfl rfl rfl ?_;refine uAe (uAb ?_);refine uAa rfl rfl rfl (uAd rfl gU) ?_;refine uAa rfl rfl rfl (uAd rfl gU) ?_;refine uAf ?_;refine uAe ?_;refine uAe ?_;refine awp_drawn' (by kernel_rfl) ?_;refine uAi rfl rfl rfl rfl (uAc rfl gU) ?_;refine uAi rfl rfl rfl rfl (uAx rfl gU) ?_;refine uAi rfl rfl rfl rfl (uAg rfl gU rfl rfl) ?_;refine uAV rfl rfl rfl rfl rfl rfl rfl gU rfl rfl rfl rfl ?_;refine uAi rfl rfl rfl rfl (uAc rfl gU) ?_;refine uAi rfl rfl rfl rfl (uAc rfl gU) ?_;refine uAi rfl rfl rfl rfl (uAx rfl (fun hh=>hh)) ?_;refine uAi rfl rfl rfl rfl (uAg rfl (fun hh=>hh) rfl rfl) ?_;refine uAV rfl rfl rfl rfl rfl rfl rfl (fun hh=>hh) rfl rfl rfl rfl ?_;refine uAi rfl rfl rfl rfl (uAc rfl gU) ?_;refine uAi rfl rfl rfl rfl (uAx rfl (fun hh=>hh)) ?_;refine uAi rfl rfl rfl rfl (uAg rfl (fun hh=>hh) rfl rfl) ?_;refine uAV rfl rfl rfl rfl rfl rfl rfl (fun hh=>hh) rfl rfl rfl rfl ?_;refine uAi rfl rfl rfl rfl (uBb rfl (fun hh=>hh) rfl rfl) ?_;refine uAi rfl rfl rfl rfl (uAk rfl rfl (fun hh=>hh) (fun hh=>hh) rfl) ?_;refine uAi rfl rfl rfl rfl (uAM rfl rfl gU (fun _ hi=>gP rfl hi)) ?_;refine uBg (by kernel_rfl) ?_;refine uAn (s:=⟨[(0,_,_),(19,_,_)],[(.o 0,_)],[],[]⟩) (uAj (⟨sx rfl,sx rfl,trivial⟩) (⟨sx rfl,trivial⟩) trivial) ?_
 refine uAl rfl (fun hc=>?_) (fun hc=>?_)
 ·try simp only [nn,uAh,T.rows_len,Tk.rows_len] at hc
  refine uAe (uAb ?_);refine uAa rfl rfl rfl (uAc rfl gU) ?_;refine uAI (.o 0) rfl rfl rfl rfl rfl rfl (uJy _ _ (by omega)) rfl (by rfl) (by rfl) rfl rfl rfl ?_;refine uAa rfl rfl rfl (uAd rfl gU) ?_;refine uAa rfl rfl rfl (uAd rfl gU) ?_;refine uAf ?_;refine uAo ?_
  repeat (first | refine tR ?_ | refine bR ?_)
  refine uAq rfl ?_ (⟨⟨_,rfl,?_⟩,trivial⟩)
  (all_goals first | rfl | (rw [endE,if_pos (by grind)]; rfl))
 ·try simp only [nn,uAh,T.rows_len,Tk.rows_len] at hc
  refine uAp ?_;refine uAe (uAb ?_);refine uAa rfl rfl rfl (uAd rfl gU) ?_;refine uAa rfl rfl rfl (uAd rfl gU) ?_;refine uAf ?_;refine uAo ?_
  repeat (first | refine tR ?_ | refine bR ?_)
  refine uAq rfl ?_ (⟨⟨_,rfl,?_⟩,trivial⟩)
  (all_goals first | rfl | (rw [endE,if_neg (by grind)]; rfl))
end Go.Proofs.YtnjjdbapadkomaaGreatDoor
namespace Go.Proofs.YtnjjdbapadkomaaGreatDoor
open Go Go.Abs
theorem uCj {l : List Tk} {p : PS} {c : List UInt8} (h : symQ l p c=true) : p.at' < l.length∧p.bad=false:=by
 simp only [symQ,Bool.and_eq_true,decide_eq_true_eq,Bool.not_eq_true'] at h
 exact ⟨h.1.1.2,h.1.1.1⟩
theorem uBp (l : List Tk) (c : List UInt8) (p : PS) : p.at'≤(uA7 l c p).at'∧(p.at'≤l.length→(uA7 l c p).at'≤l.length):=by
 unfold uA7
 split
 ·rename_i h; have := (uCj h).1; simp only [PS.go]; omega
 ·simp [PS.off]
theorem uA4 (l : List Tk) (ws : List (List UInt8)) (p : PS) : p.at'≤(uAA l ws p).2.at'∧(p.at'≤l.length→(uAA l ws p).2.at'≤l.length):=by
 unfold uAA
 split
 ·rename_i h
  simp only [namQ,Bool.and_eq_true,decide_eq_true_eq] at h
  have := h.1.1.2
  simp only [PS.go]; omega
 ·simp [PS.off]
theorem uC2 {α : Type} {l : List Tk} {f : PS→α × PS} {p : PS} {out : List α} (h : symQ l p [44]=false) : ∀ n,uB0 l f n p out=(out,p)
 | 0=>rfl
 | n + 1=>by rw [uB0,h]; rfl
theorem uGN {α : Type} {l : List Tk} {f : PS→α × PS} {p : PS} {out : List α} {n : Nat} (h : symQ l p [44]=true) : uB0 l f (n + 1) p out=uB0 l f n (f p.go).2 (out++[(f p.go).1]):=by rw [uB0,if_pos h]
theorem uDF (l : List Tk) (p : PS) (hl : l.length≤2000000) (hp : p.at'≤l.length) : Ctr sys 109 [xpp] [pbx l p] (xss (uBJ l p).1) none [pbx l (uBJ l p).2]:=by
 have hrl:=Tk.rows_len l
 have h0:=uA4 l [] p
 refine uAv Tryz.func109 rfl rfl rfl rfl rfl rfl ?_;refine uAe (uAb ?_);refine uAu rfl (uBn (.inr rfl) rfl rfl) ?_;refine uAf ?_;refine uAe (uAb ?_);refine uAa rfl rfl rfl (uAc rfl gU) ?_;refine uAI (.o 0) rfl rfl rfl rfl rfl rfl (uBy l _ [] (by omega) (by first | omega | (simp only [PS.go]; omega))) rfl (by rfl) (by rfl) rfl rfl rfl ?_;refine uAK (xs:=[_]) rfl rfl rfl rfl rfl rfl rfl rfl rfl gU rfl ?_;refine uAu rfl (uAH (.inr rfl) rfl rfl rfl) ?_;refine uAf ?_;refine uAn (s:=⟨[(0,_,_),(3,_,_)],[(.o 0,_)],[(.t 3,_)],[]⟩) (uAj (⟨sx rfl,sx rfl,trivial⟩) (⟨sx rfl,trivial⟩) (⟨rfl,trivial⟩)) ?_;refine uAe ?_;refine uAt ?_;refine uAW (ι:=PS × List (List UInt8)) { t:=[(0,_,_)],bx:=[],ow:=[(.t 3,_)] } (fun q=>[(3,true,xss q.2)]) (fun q=>[((.o 0),pbx l q.1)]) (fun q=>q.1.at'≤l.length∧q.2.length≤q.1.at' + 1 ∧ ∃ n,l.length + 1≤n + q.1.at'∧uB0 l (uAA l []) n q.1 q.2=uBJ l p) (fun q=>l.length - q.1.at') (((uAA l [] p).2,[(uAA l [] p).1])) (⟨h0.2 hp,by simp,_,by dsimp only; omega,rfl⟩) (uAj (⟨sx rfl,sx rfl,trivial⟩) (⟨sx rfl,trivial⟩) (⟨rfl,trivial⟩)) ?_
 intro q hok
 dsimp only [List.cons_append,List.nil_append] at *
 obtain ⟨q,out⟩:=q
 dsimp only at hok ⊢
 obtain ⟨hq,ho,n,hn,hi⟩:=hok
 have hro:=uAh out
 refine uAe ?_;refine uAe (uAb ?_);refine uAa rfl rfl rfl (uAc rfl gU) ?_;refine uAI (.o 0) rfl rfl rfl rfl rfl rfl (uBO _ _ _ (by omega) (by omega)) rfl (by rfl) (by rfl) rfl rfl rfl ?_;refine uAf ?_;refine uAl rfl (fun hc=>?_) (fun hc=>?_)
 ·try simp only [nn,uAh,T.rows_len,Tk.rows_len] at hc
  have hlt:=(uCj hc).1
  have hs : symP l q [44]=q.go:=by rw [symP,if_pos hc]
  have h1:=uA4 l [] q.go
  have hg : q.go.at'=q.at' + 1:=rfl
  obtain ⟨n,rfl⟩ : ∃ k,n=k + 1:=⟨n - 1,by omega⟩
  rw [uGN hc] at hi
  rw [hs]
  refine uAp ?_;refine uAt ?_;refine uAb ?_;refine uAu rfl (uAH (.inl rfl) rfl rfl rfl) ?_;refine uAa rfl rfl rfl (uAc rfl gU) ?_;refine uAI (.o 0) rfl rfl rfl rfl rfl rfl (uBy l _ [] (by omega) (by first | omega | (simp only [PS.go]; omega))) rfl (by rfl) (by rfl) rfl rfl rfl ?_;refine uAK (xs:=[_]) rfl rfl rfl rfl rfl rfl rfl rfl rfl gU rfl ?_;refine uAu rfl (uAZ rfl rfl rfl rfl rfl rfl rfl (by first | omega | (simp only [List.length_append,List.length_singleton,uAh]; omega)) (by first | omega | (simp only [List.length_append,List.length_singleton,uAh]; omega))) ?_;refine uAu rfl (uAH (.inr rfl) rfl rfl rfl) ?_;refine uAf ?_;refine ⟨((uAA l [] q.go).2,out++[(uAA l [] q.go).1]),?_,?_,uAj (⟨⟨_,rfl,?_⟩,⟨sx rfl,trivial⟩⟩) (⟨⟨_,rfl,?_⟩,trivial⟩) (⟨rfl,trivial⟩)⟩
  ·exact ⟨h1.2 (by omega),by simp only [List.length_append,List.length_singleton]; omega,n,by dsimp only; omega,hi⟩
  ·dsimp only; omega
  ·exact tx (uB8 _ _)
  ·rfl
 ·try simp only [nn,uAh,T.rows_len,Tk.rows_len] at hc
  have hs : symP l q [44]=q:=by rw [symP,hc]; rfl
  rw [uC2 hc] at hi
  rw [hs]
  refine uAL ?_
  repeat (first | refine uAF ?_ | refine uAE ?_ | refine uAB rfl ?_)
  refine uAe (uAb ?_);refine uAu rfl (uAH (.inl rfl) rfl rfl rfl) ?_;refine uAu rfl (uAH (.inr rfl) rfl rfl rfl) ?_;refine uAf ?_;refine uAo ?_
  repeat (first | refine tR ?_ | refine bR ?_)
  refine uAq rfl ?_ (⟨⟨_,rfl,?_⟩,trivial⟩)
  (all_goals first | (rw [← hi]; done) | (rw [← hi]; rfl))
end Go.Proofs.YtnjjdbapadkomaaGreatDoor
namespace Go.Proofs.YtnjjdbapadkomaaGreatDoor
open Go Go.Abs
theorem uIE {α : Type} {l : List Tk} {f : PS→α × PS} (hf : ∀ p,p.at'≤(f p).2.at'∧(p.at'≤l.length→(f p).2.at'≤l.length)) : ∀ (n : Nat) (p : PS) (out : List α),p.at'≤(uB0 l f n p out).2.at'∧(p.at'≤l.length→(uB0 l f n p out).2.at'≤l.length)
 | 0,p,out=>by simp [uB0]
 | n + 1,p,out=>by
  rw [uB0]
  split
  ·rename_i h
   have h1:=(uCj h).1
   have h2:=hf p.go
   have h3:=uIE hf n (f p.go).2 (out++[(f p.go).1])
   have hg : p.go.at'=p.at' + 1:=rfl
   omega
  ·simp
theorem uCM {α : Type} {l : List Tk} {f : PS→α × PS} (hf : ∀ p,p.at'≤(f p).2.at'∧(p.at'≤l.length→(f p).2.at'≤l.length)) (p : PS) : p.at'≤(uBk l f p).2.at'∧(p.at'≤l.length→(uBk l f p).2.at'≤l.length):=by
 have h1:=hf p
 have h2:=uIE hf (l.length + 1) (f p).2 [(f p).1]
 unfold uBk; omega
theorem uCo (l : List Tk) : ∀ (n : Nat) (p : PS),p.at'≤(uAR l n p).2.at'∧(p.at'≤l.length→(uAR l n p).2.at'≤l.length)
 | 0,p=>by simp [uAR]
 | n + 1,p=>by
  have ih:=uCo l n
  have hg : ∀ q : PS,q.go.at'=q.at' + 1:=fun _=>rfl
  rw [uAR]
  split
  ·rename_i h
   have h1:=(uCj h).1
   have h2:=ih p.go
   have h3:=uBp l [44] (uAR l n p.go).2
   have h4:=uCM ih (uA7 l [44] (uAR l n p.go).2)
   have h5:=uBp l [62] (uBk l (uAR l n) (uA7 l [44] (uAR l n p.go).2)).2
   have := hg p
   dsimp only; omega
  ·have h1:=uA4 l [] p
   split
   ·rename_i h
    have h2:=(uCj h).1
    split
    ·rename_i h3
     have h4:=(uCj h3).1
     have := hg (uAA l [] p).2
     have := hg (uAA l [] p).2.go
     dsimp only; omega
    ·have h3:=uCM ih (uAA l [] p).2.go
     have h4:=uBp l [41] (uBk l (uAR l n) (uAA l [] p).2.go).2
     have := hg (uAA l [] p).2
     dsimp only; omega
   ·exact h1
theorem uIR (l : List Tk) (n : Nat) (hl : l.length≤2000000) (ih : ∀ p : PS,p.at'≤l.length→l.length - p.at' < n→Ctr sys 66 [xpp] [pbx l p] (xm (uAR l n p).1) none [pbx l (uAR l n p).2]) (p : PS) (hp : p.at'≤l.length) (hn : l.length - p.at' < n) :
  Ctr sys 116 [xpp] [pbx l p] (xl (uBk l (uAR l n) p).1) none [pbx l (uBk l (uAR l n) p).2]:=by
 have hrl:=Tk.rows_len l
 have h0:=uCo l n p
 refine uAv Tryz.func116 rfl rfl rfl rfl rfl rfl ?_;refine uAe (uAb ?_);refine uAu rfl (uBn (.inr rfl) rfl rfl) ?_;refine uAf ?_;refine uAe (uAb ?_);refine uAa rfl rfl rfl (uAc rfl gU) ?_;refine uAI (.o 0) rfl rfl rfl rfl rfl rfl (ih _ (by first | omega | (simp only [PS.go]; omega)) (by first | omega | (simp only [PS.go]; omega))) rfl (by rfl) (by rfl) rfl rfl rfl ?_;refine uAK (xs:=[_]) rfl rfl rfl rfl rfl rfl rfl rfl rfl gU rfl ?_;refine uAu rfl (uAH (.inr rfl) rfl rfl rfl) ?_;refine uAf ?_;refine uAn (s:=⟨[(0,_,_),(3,_,_)],[(.o 0,_)],[(.t 3,_)],[]⟩) (uAj (⟨sx rfl,sx rfl,trivial⟩) (⟨sx rfl,trivial⟩) (⟨rfl,trivial⟩)) ?_;refine uAe ?_;refine uAt ?_;refine uAW (ι:=PS × List T) { t:=[(0,_,_)],bx:=[],ow:=[(.t 3,_)] } (fun q=>[(3,true,xl q.2)]) (fun q=>[((.o 0),pbx l q.1)]) (fun q=>p.at'≤q.1.at'∧q.1.at'≤l.length∧q.2.length≤q.1.at' + 1 ∧ ∃ k,l.length + 1≤k + q.1.at'∧uB0 l (uAR l n) k q.1 q.2=uBk l (uAR l n) p) (fun q=>l.length - q.1.at') (((uAR l n p).2,[(uAR l n p).1])) (⟨h0.1,h0.2 hp,by simp,_,by dsimp only; omega,rfl⟩) (uAj (⟨⟨_,rfl,by simp [T.rows_eq]⟩,⟨sx rfl,trivial⟩⟩) (⟨sx rfl,trivial⟩) (⟨rfl,trivial⟩)) ?_
 intro q hok
 dsimp only [List.cons_append,List.nil_append] at *
 obtain ⟨q,out⟩:=q
 dsimp only at hok ⊢
 obtain ⟨hq0,hq,ho,k,hk,hi⟩:=hok
 have hro:=T.rows_len out
 refine uAe ?_;refine uAe (uAb ?_);refine uAa rfl rfl rfl (uAc rfl gU) ?_;refine uAI (.o 0) rfl rfl rfl rfl rfl rfl (uBO _ _ _ (by omega) (by omega)) rfl (by rfl) (by rfl) rfl rfl rfl ?_;refine uAf ?_;refine uAl rfl (fun hc=>?_) (fun hc=>?_)
 ·try simp only [nn,uAh,T.rows_len,Tk.rows_len] at hc
  have hlt:=(uCj hc).1
  have hs : symP l q [44]=q.go:=by rw [symP,if_pos hc]
  have h1:=uCo l n q.go
  have hg : q.go.at'=q.at' + 1:=rfl
  obtain ⟨k,rfl⟩ : ∃ j,k=j + 1:=⟨k - 1,by omega⟩
  rw [uGN hc] at hi
  rw [hs]
  refine uAp ?_;refine uAt ?_;refine uAb ?_;refine uAu rfl (uAH (.inl rfl) rfl rfl rfl) ?_;refine uAa rfl rfl rfl (uAc rfl gU) ?_;refine uAI (.o 0) rfl rfl rfl rfl rfl rfl (ih _ (by first | omega | (simp only [PS.go]; omega)) (by first | omega | (simp only [PS.go]; omega))) rfl (by rfl) (by rfl) rfl rfl rfl ?_;refine uAK (xs:=[_]) rfl rfl rfl rfl rfl rfl rfl rfl rfl gU rfl ?_;refine uAu rfl (uAZ rfl rfl rfl rfl rfl rfl rfl (by first | omega | (simp only [List.length_append,List.length_singleton,T.rows_len]; omega)) (by first | omega | (simp only [List.length_append,List.length_singleton,T.rows_len]; omega))) ?_;refine uAu rfl (uAH (.inr rfl) rfl rfl rfl) ?_;refine uAf ?_;refine ⟨((uAR l n q.go).2,out++[(uAR l n q.go).1]),?_,?_,uAj (⟨⟨_,rfl,?_⟩,⟨sx rfl,trivial⟩⟩) (⟨⟨_,rfl,?_⟩,trivial⟩) (⟨rfl,trivial⟩)⟩
  ·exact ⟨by dsimp only; omega,h1.2 (by omega),by simp only [List.length_append,List.length_singleton]; omega,k,by dsimp only; omega,hi⟩
  ·dsimp only; omega
  ·exact tx (uF3 _ _)
  ·rfl
 ·try simp only [nn,uAh,T.rows_len,Tk.rows_len] at hc
  have hs : symP l q [44]=q:=by rw [symP,hc]; rfl
  rw [uC2 hc] at hi
  rw [hs]
  refine uAL ?_
  repeat (first | refine uAF ?_ | refine uAE ?_ | refine uAB rfl ?_)
  refine uAe (uAb ?_);refine uAu rfl (uAH (.inl rfl) rfl rfl rfl) ?_;refine uAu rfl (uAH (.inr rfl) rfl rfl rfl) ?_;refine uAf ?_;refine uAo ?_
  repeat (first | refine tR ?_ | refine bR ?_)
  refine uAq rfl ?_ (⟨⟨_,rfl,?_⟩,trivial⟩)
  (all_goals first | (rw [← hi]; done) | (rw [← hi]; rfl))
end Go.Proofs.YtnjjdbapadkomaaGreatDoor
namespace Go.Proofs.YtnjjdbapadkomaaGreatDoor
open Go Go.Abs
def Keeps {α : Type} (f : PS→α × PS) : Prop:=∀ p : PS,p.bad=true→(f p).2=p
theorem uKw {p : PS} (h : p.bad=true) : p.off=p:=by cases p; simp [PS.off] at h ⊢; exact h
theorem uEd {l : List Tk} {p : PS} {c : List UInt8} (h : p.bad=true) : symQ l p c=false:=by simp [symQ,h]
theorem uKQ {l : List Tk} {p : PS} {ws : List (List UInt8)} (h : p.bad=true) : namQ l p ws=false:=by simp [namQ,h]
theorem uCi (l : List Tk) (c : List UInt8) {p : PS} (h : p.bad=true) : uA7 l c p=p:=by rw [uA7,uEd h]; exact uKw h
theorem uBX (l : List Tk) (ws : List (List UInt8)) : Keeps (uAA l ws):=fun p h=>by rw [uAA,uKQ h]; exact uKw h
theorem uK6 {α : Type} {l : List Tk} {f : PS→α × PS} {p : PS} {out : List α} (n : Nat) (h : p.bad=true) : uB0 l f n p out=(out,p):=uC2 (uEd h) n
theorem uD0 {α : Type} {l : List Tk} {f : PS→α × PS} (hf : Keeps f) : Keeps (uBk l f):=fun p h=>by
 unfold uBk; rw [hf p h,uK6 _ h]
theorem uDX (l : List Tk) (n : Nat) : Keeps (uAR l n):=fun p h=>by
 cases n with
 | zero=>rfl
 | succ n=>rw [uAR,if_neg (by rw [uEd h]; simp),uBX l [] p h,if_neg (by rw [uEd h]; simp)]
theorem Keeps.good {α : Type} {f : PS→α × PS} (hf : Keeps f) {p : PS} (h : (f p).2.bad=false) : p.bad=false:=by
 cases hb : p.bad with
 | false=>rfl
 | true=>rw [hf p hb,hb] at h; exact h
theorem uJP {l : List Tk} {c : List UInt8} {p : PS} (h : (uA7 l c p).bad=false) : p.bad=false:=by
 cases hb : p.bad with
 | false=>rfl
 | true=>rw [uCi l c hb,hb] at h; exact h
theorem uKY {l : List Tk} {ws : List (List UInt8)} {p : PS} (h : (uAA l ws p).2.bad=false) : namQ l p ws=true:=by
 cases hq : namQ l p ws with
 | true=>rfl
 | false=>rw [uAA,hq] at h; simp [PS.off] at h
theorem uJ4 {l : List Tk} {role : List UInt8} {p : PS} {out : List Fs} (h : p.bad=true) : ∀ n,uCa l role n p out=(out,p)
 | 0=>rfl
 | n + 1=>by rw [uCa,if_pos h]
theorem uH0 (l : List Tk) (out : List Fs) : Keeps (fun p=>uB3 l p out):=fun p h=>by
 show (uCa _ _ _ _ _).2=p
 rw [uBX l [] p h,uCi l [58] h,uJ4 h]
theorem uIQ (l : List Tk) (line : Int) : Keeps (uCL l line):=fun p h=>by
 show (uAR _ _ _).2=p
 rw [uBX l [] p h,uCi l _ h,uCi l _ h,uBX l [] p h,uCi l _ h,uDX l _ p h]
theorem uIy (l : List Tk) (line : Int) : Keeps (uCr l line):=fun p h=>by
 show (uBk _ _ _).2=p
 rw [uBX l kindW p h,uBX l [] p h]
 split
 ·rw [uBX l [] p h,uCi l _ h,uD0 (uDX l _) p h]
 ·rw [uCi l _ h,uD0 (uDX l _) p h]
theorem uEM (l : List Tk) : Keeps (uBJ l):=uD0 (uBX l [])
theorem uJq (l : List Tk) (n : Nar) (line : Int) (w : List UInt8) : Keeps (uBY l n line w):=fun p h=>by
 unfold uBY
 repeat' split
 ·exact uEM l p h
 ·exact uH0 l n.fresh p h
 ·exact uEM l p h
 ·exact uIQ l line p h
 ·exact uIy l line p h
 ·rfl
theorem uHq (l : List Tk) (role : List UInt8) : ∀ (n : Nat) (p : PS) (out : List Fs),p.at'≤(uCa l role n p out).2.at'∧(p.at'≤l.length→(uCa l role n p out).2.at'≤l.length)
 | 0,p,out=>by simp [uCa]
 | n + 1,p,out=>by
  have h1:=uA4 l [] p
  have h2:=uA4 l sortW (uAA l [] p).2
  rw [uCa]
  split
  ·simp
  split
  ·rename_i hq
   have h3:=(uCj hq).1
   have hg : (uAA l sortW (uAA l [] p).2).2.go.at'=(uAA l sortW (uAA l [] p).2).2.at' + 1:=rfl
   have h4:=uHq l role n (uAA l sortW (uAA l [] p).2).2.go (out++[⟨role,(uAA l [] p).1,2 + uBA sortW (uAA l sortW (uAA l [] p).2).1⟩])
   omega
  ·dsimp only; omega
def Fwd {α : Type} (l : List Tk) (f : PS→α × PS) : Prop:=∀ p : PS,p.at'≤(f p).2.at'∧(p.at'≤l.length→(f p).2.at'≤l.length)
theorem uHM (l : List Tk) (out : List Fs) : Fwd l (fun p=>uB3 l p out):=fun p=>by
 have h1:=uA4 l [] p
 have h2:=uBp l [58] (uAA l [] p).2
 have h3:=uHq l (uAA l [] p).1 (l.length + 1) (uA7 l [58] (uAA l [] p).2) out
 show p.at'≤(uCa _ _ _ _ _).2.at'∧(_→(uCa _ _ _ _ _).2.at'≤_)
 omega
theorem uF4 (l : List Tk) (line : Int) : Fwd l (uCL l line):=fun p=>by
 have h1:=uA4 l [] p
 have h2:=uBp l [45] (uAA l [] p).2
 have h3:=uBp l [62] (uA7 l [45] (uAA l [] p).2)
 have h4:=uA4 l [] (uA7 l [62] (uA7 l [45] (uAA l [] p).2))
 have h5:=uBp l [58] (uAA l [] (uA7 l [62] (uA7 l [45] (uAA l [] p).2))).2
 have h6:=uCo l (l.length + 1) (uA7 l [58] (uAA l [] (uA7 l [62] (uA7 l [45] (uAA l [] p).2))).2)
 show p.at'≤(uAR _ _ _).2.at'∧(_→(uAR _ _ _).2.at'≤_)
 omega
theorem uG2 (l : List Tk) (line : Int) : Fwd l (uCr l line):=fun p=>by
 have h1:=uA4 l kindW p
 have h2:=uA4 l [] (uAA l kindW p).2
 have h3 : (uAA l [] (uAA l kindW p).2).2.at'≤(if uBC (1 + uBA kindW (uAA l kindW p).1)=true then uAA l [] (uAA l [] (uAA l kindW p).2).2 else ([],(uAA l [] (uAA l kindW p).2).2)).2.at'∧((uAA l [] (uAA l kindW p).2).2.at'≤l.length→(if uBC (1 + uBA kindW (uAA l kindW p).1)=true then uAA l [] (uAA l [] (uAA l kindW p).2).2 else ([],(uAA l [] (uAA l kindW p).2).2)).2.at'≤l.length):=by
  split
  ·exact uA4 l [] _
  ·simp
 have h4:=uBp l [58] (if uBC (1 + uBA kindW (uAA l kindW p).1)=true then uAA l [] (uAA l [] (uAA l kindW p).2).2 else ([],(uAA l [] (uAA l kindW p).2).2)).2
 have h5:=uCM (uCo l (l.length + 1)) (uA7 l [58] (if uBC (1 + uBA kindW (uAA l kindW p).1)=true then uAA l [] (uAA l [] (uAA l kindW p).2).2 else ([],(uAA l [] (uAA l kindW p).2).2)).2)
 show p.at'≤(uBk _ _ _).2.at'∧(_→(uBk _ _ _).2.at'≤_)
 omega
theorem uGJ (l : List Tk) (n : Nar) (line : Int) (w : List UInt8) : Fwd l (uBY l n line w):=fun p=>by
 unfold uBY
 repeat' split
 ·exact uCM (uA4 l []) p
 ·exact uHM l n.fresh p
 ·exact uCM (uA4 l []) p
 ·exact uF4 l line p
 ·exact uG2 l line p
 ·exact ⟨Nat.le_refl _,fun h=>h⟩
theorem uLU (l : List Tk) (n : Nar) (p : PS) (hp : p.at'≤l.length) : (uCl l n p).2.at'≤l.length∧((uCl l n p).2.bad=false→p.at' < (uCl l n p).2.at'):=by
 have h1:=uA4 l uB6 p
 have h2:=uGJ l n (uCH l p) (uAA l uB6 p).1 (uAA l uB6 p).2
 have h3:=uBp l [59] (uBY l n (uCH l p) (uAA l uB6 p).1 (uAA l uB6 p).2).2
 have e : (uCl l n p).2=uA7 l [59] (uBY l n (uCH l p) (uAA l uB6 p).1 (uAA l uB6 p).2).2:=rfl
 rw [e]
 refine ⟨by omega,fun hb=>?_⟩
 have hq:=uKY ((uJq l n _ _).good (uJP hb))
 have : (uAA l uB6 p).2.at'=p.at' + 1:=by rw [uAA,if_pos hq]; rfl
 omega
end Go.Proofs.YtnjjdbapadkomaaGreatDoor
namespace Go.Proofs.YtnjjdbapadkomaaGreatDoor
open Go Go.Abs
structure GoodTk (N : Nat) (t : Tk) : Prop where
 form : (t.kind=1∧t.int=0∧t.str=[]∧uBd ((t.text.getD 0 0).toNat : Int)=true∧nlE t.text=t.text.length∧t.text≠[]∧t.text.length≤24) ∨
  (t.kind=2∧t.text=[]∧t.str=[]∧0≤t.int∧t.int≤9223372036854775807)∨(t.kind=3∧t.text=[]∧t.int=0) ∨
  (t.kind=4∧t.int=0∧t.str=[] ∧ ∃ c,t.text=[c]∧symB c=true)
 s : t.str.length≤N
theorem uNw {c : UInt8} (h : symB c=true) : uBd (c.toNat : Int)≠true∧uBt (c.toNat : Int)≠true∧c.toNat≠34∧c.toNat≠35∧c.toNat≠10∧uCe c=false:=by
 have hm : c ∈ syms:=by simpa [symB] using h
 simp only [syms,List.mem_cons,List.not_mem_nil,or_false] at hm
 rcases hm with rfl | rfl | rfl | rfl | rfl | rfl | rfl | rfl | rfl | rfl | rfl | rfl | rfl | rfl | rfl | rfl | rfl | rfl <;> decide
theorem GoodTk.onl {N : Nat} {t : Tk} (h : GoodTk N t) (k : Int) : GoodTk N (t.onl k):=⟨h.form,h.s⟩
theorem GoodTk.mono {N M : Nat} {t : Tk} (h : GoodTk N t) (hm : N≤M) : GoodTk M t:=⟨h.form,Nat.le_trans h.s hm⟩
theorem lineP_len' : ∀ (n : Nat) (l : List UInt8) (k : Int) (out : List Tk),(uBi n l k out).1.length≤out.length + l.length
 | 0,l,k,out=>by simp [uBi]
 | n + 1,l,k,out=>by
  have h1:=uFe l
  rw [uBi]
  split
  ·simp
  ·rename_i hq
   have hne : 0 < (uBl l).length:=List.length_pos_iff.2 fun h=>hq (.inl h)
   split
   ·simp
   ·rename_i he
    have h2:=uEI hne
    have h3:=h2.2 (Decidable.not_not.1 he)
    have ih:=lineP_len' n ((uBl l).drop (uBz (uBl l)).2.1) k (out++[(uBz (uBl l)).1.onl k])
    simp only [List.length_drop,List.length_append,List.length_singleton] at ih
    omega
def sumL (L : List (List UInt8)) : Nat:=(L.map List.length).sum
theorem uKe : ∀ (s : List UInt8),sumL (spl s)≤s.length
 | []=>by simp [sumL,spl]
 | b :: l=>by
  have ih:=uKe l
  rw [spl]
  split
  ·simp only [sumL,List.map_cons,List.sum_cons,List.length_nil,List.length_cons] at ih ⊢; omega
  ·split
   ·simp [sumL]
   ·rename_i h; rw [h] at ih
    simp only [sumL,List.map_cons,List.sum_cons,List.length_cons] at ih ⊢; omega
def Apart (r : List UInt8) : Prop:=r=[]∨uCe (r.getD 0 0)=true
end Go.Proofs.YtnjjdbapadkomaaGreatDoor
namespace Go.Proofs.YtnjjdbapadkomaaGreatDoor
open Go Go.Abs
def TT (s : List UInt8) (k : Nat) (out : List Tk) : List Tk × Nat × Int:=uCv (spl s) k out
theorem uGv {l : List UInt8} (h : ∀ b ∈ l,b.toNat≠10) {n m : Nat} (k : Int) (out : List Tk) (hn : l.length < n) (hm : l.length < m) : uBi n l k out=uBi m l k out:=by
 rw [← uCX l.length l (Nat.le_refl _) h n ((uA5 l).length + 1) k out hn (by omega),← uCX l.length l (Nat.le_refl _) h m ((uA5 l).length + 1) k out hm (by omega)]
theorem uGZ {b : UInt8} {l x : List UInt8} {r : List (List UInt8)} (hb : b.toNat≠10) (h : spl l=x :: r) : spl (b :: l)=(b :: x) :: r:=by
 rw [spl,if_neg hb,h]
theorem uLF {b : UInt8} {l : List UInt8} (hb : b.toNat=10) : spl (b :: l)=[] :: spl l:=by rw [spl,if_pos hb]
theorem uKm : ∀ (w : List UInt8) {l x : List UInt8} {r : List (List UInt8)},(∀ b ∈ w,b.toNat≠10)→spl l=x :: r→spl (w++l)=(w++x) :: r
 | [],_,_,_,_,h=>h
 | b :: w,l,x,r,hw,h=>uGZ (hw b (by simp)) (uKm w (fun c hc=>hw c (by simp [hc])) h)
theorem uEU (s : List UInt8) : ∃ x r,spl s=x :: r:=by
 cases h : spl s with
 | nil=>exact absurd h (uGI s)
 | cons x r=>exact ⟨x,r,rfl⟩
theorem uJZ {n : Nat} {l l' : List UInt8} {k : Int} {out : List Tk} (h : uBl l=uBl l') : uBi (n + 1) l k out=uBi (n + 1) l' k out:=by simp only [uBi,h]
theorem uGu {l l' : List UInt8} {L : List (List UInt8)} {k : Nat} {out out' : List Tk} (h : uBi (l.length + 1) l (k : Int) out=uBi (l'.length + 1) l' (k : Int) out') : uCv (l :: L) k out=uCv (l' :: L) k out':=by
 rw [uCv,uCv,h]
theorem uLM {w : UInt8} (hw : w.toNat=32∨w.toNat=9∨w.toNat=13) (r : List UInt8) (k : Nat) (out : List Tk) : TT (w :: r) k out=TT r k out:=by
 obtain ⟨x,xs',h⟩:=uEU r
 have hin : wsp.contains w=true:=by
  rcases hw with q | q | q
  ·rw [show w=32 from UInt8.toNat_inj.1 q]; rfl
  ·rw [show w=9 from UInt8.toNat_inj.1 q]; rfl
  ·rw [show w=13 from UInt8.toNat_inj.1 q]; rfl
 have ht : uBl (w :: x)=uBl x:=by unfold uBl; rw [List.dropWhile_cons,if_pos hin]
 have hno : ∀ b ∈ x,b.toNat≠10:=uE1 r x (by rw [h]; simp)
 unfold TT
 rw [uGZ (by omega) h,h]
 refine uGu ?_
 rw [← uGv hno (n:=x.length + 1 + 1) (m:=x.length + 1) _ _ (by omega) (by omega)]
 exact uJZ ht
theorem uNE {b : UInt8} (hb : b.toNat=10) (r : List UInt8) (k : Nat) (out : List Tk) : TT (b :: r) k out=TT r (k + 1) out:=by
 unfold TT
 rw [uLF hb,uCv,uHQ,if_neg (by simp)]
theorem uFB : ∀ (L : List (List UInt8)) (k : Nat) (out : List Tk),(uCv L k out).1.length≤out.length + sumL L
 | [],k,out=>by simp [uCv]
 | l :: L,k,out=>by
  rw [uCv]
  split
  ·simp
  ·have h1:=lineP_len' (l.length + 1) l (k : Nat) out
   have ih:=uFB L (k + 1) (uBi (l.length + 1) l (k : Nat) out).1
   simp only [sumL,List.map_cons,List.sum_cons] at ih ⊢
   omega
theorem uGa (s : List UInt8) : (tokP s).1.length≤s.length:=by
 unfold tokP
 split
 ·simp
 ·have h1:=uFB (spl s) 1 []
  have h2:=uKe s
  simp only [List.length_nil] at h1
  omega
end Go.Proofs.YtnjjdbapadkomaaGreatDoor
namespace Go.Proofs.YtnjjdbapadkomaaGreatDoor
open Go Go.Abs
def nmT (w : List UInt8) : Tk:=⟨1,w,0,[],0⟩
def syT (c : UInt8) : Tk:=⟨4,[c],0,[],0⟩
def uNc : List (List Tk)→List Tk
 | []=>[]
 | x :: r=>x++(r.map fun y=>syT 44 :: y).flatten
def Apt (r : List UInt8) : Prop:=r=[]∨uBN ((r.getD 0 0).toNat : Int)≠true
theorem uKx : ∀ (l r : List UInt8),nmP l=l.length→Apt r→nmP (l++r)=l.length
 | [],r,_,hr=>by
  rcases hr with h | h
  ·subst h; rfl
  ·cases r with
   | nil=>rfl
   | cons c r =>
    rw [List.getD_cons_zero] at h
    show nmP (c :: r)=0
    rw [nmP,if_neg (fun q=>h q.1)]
 | b :: l,r,h,hr=>by
  rw [nmP] at h
  split at h
  ·rename_i hq
   have ih:=uKx l r (by simpa using h) hr
   show nmP (b :: (l++r))=_
   rw [nmP,if_pos,ih]; rfl
   refine ⟨hq.1,fun q=>?_⟩
   cases l with
   | cons d l=>exact hq.2 q
   | nil =>
    obtain ⟨q1,q2⟩:=q
    rcases hr with z | z
    ·subst z; simp at q2
    ·rw [List.nil_append] at q2
     rw [q2] at z
     exact z (by decide)
  ·simp at h
theorem uMC {l r : List UInt8} (h : nlE l=l.length) (hl : l≠[]) (hr : Apt r) : nlE (l++r)=l.length:=by
 cases l with
 | nil=>exact absurd rfl hl
 | cons c l =>
  have h1 : nmP l=l.length:=by simp [nlE] at h; omega
  have h2:=uKx l r h1 hr
  simp [nlE,h2]; omega
theorem uMS {r x : List UInt8} {xs' : List (List UInt8)} (hr : Apt r) (h : spl r=x :: xs') : Apt x:=by
 rcases hr with q | q
 ·subst q
  simp only [spl,List.cons.injEq] at h
  exact .inl h.1.symm
 ·cases r with
  | nil=>simp only [spl,List.cons.injEq] at h; exact .inl h.1.symm
  | cons c r =>
   rw [List.getD_cons_zero] at q
   by_cases hc : c.toNat=10
   ·rw [uLF hc] at h
    simp only [List.cons.injEq] at h
    exact .inl h.1.symm
   ·obtain ⟨y,ys,hy⟩:=uEU r
    rw [uGZ hc hy] at h
    simp only [List.cons.injEq] at h
    rw [← h.1]
    exact .inr q
theorem uKh {w r x : List UInt8} {xs' : List (List UInt8)} {t : Tk} {c : UInt8} {l : List UInt8} (h : spl r=x :: xs') (e1 : uBz (w++x)=(t.onl 0,w.length,0)) (e2 : w=c :: l) (e3 : uCe c=false) (e4 : c.toNat≠35)
  (hw : ∀ b ∈ w,b.toNat≠10) (k : Nat) (out : List Tk) : TT (w++r) k out=TT r k (out++[t.onl k]):=by
 have hno:=uE1 r x (by rw [h]; simp)
 have hin : ¬wsp.contains c=true:=by
  intro q
  have : c=32∨c=9∨c=13:=by simpa [wsp] using q
  rcases this with rfl | rfl | rfl <;> simp [uCe] at e3
 have ht2 : uBl (w++x)=w++x:=by
  rw [e2]
  unfold uBl
  show List.dropWhile _ (c :: (l++x))=_
  rw [List.dropWhile_cons,if_neg hin]; rfl
 have hcut : ¬(w++x=[]∨[35,35].isPrefixOf (w++x)=true):=by
  rw [e2]
  rintro (q | q)
  ·cases q
  ·have q : ([35,35] : List UInt8).isPrefixOf (c :: (l++x))=true:=q
   rw [uKu] at q
   simp only [Bool.and_eq_true,decide_eq_true_eq] at q
   exact e4 q.1
 unfold TT
 rw [uKm w hw h,h]
 refine uGu ?_
 rw [uBi,ht2,if_neg hcut,e1,if_neg (by simp)]
 dsimp only
 rw [List.drop_left' rfl]
 refine uGv hno _ _ ?_ (by omega)
 rw [List.length_append,e2]; simp only [List.length_cons]; omega
theorem uG1 {w : List UInt8} (h : uAN w=true) : w≠[]∧uBd ((w.getD 0 0).toNat : Int)=true∧nlE w=w.length∧w.length≤24:=by
 simp only [uAN,Bool.and_eq_true,decide_eq_true_eq] at h
 exact ⟨h.1.1.1,h.1.1.2,h.1.2,h.2⟩
theorem uMB {w : List UInt8} (h : uAN w=true) : ∀ b ∈ w,b.toNat≠10:=by
 obtain ⟨h1,h2,h3,_⟩:=uG1 h
 cases w with
 | nil=>exact absurd rfl h1
 | cons c r =>
  rw [List.getD_cons_zero] at h2
  intro b hb
  rcases List.mem_cons.1 hb with q | q
  ·subst q; intro z; rw [z] at h2; revert h2; decide
  ·have := uH8 r (by unfold nlE at h3; simp at h3; omega)
   exact uFh (by have := List.all_eq_true.1 this b q; exact this)
theorem uML {w : List UInt8} (hn : uAN w=true) {r : List UInt8} (hr : Apt r) (k : Nat) (out : List Tk) : TT (w++r) k out=TT r k (out++[(nmT w).onl k]):=by
 obtain ⟨x,xs',h⟩:=uEU r
 obtain ⟨h1,h2,h3,h4⟩:=uG1 hn
 obtain ⟨c,l,rfl⟩ : ∃ c l,w=c :: l:=by
  cases w with
  | nil=>exact absurd rfl h1
  | cons c l=>exact ⟨c,l,rfl⟩
 rw [List.getD_cons_zero] at h2
 refine uKh h ?_ rfl ?_ ?_ (uMB hn) k out
 ·have e1:=uMC h3 h1 (uMS hr h)
  unfold uBz
  have e2 : ((c :: l)++x).getD 0 0=c:=rfl
  rw [e2,if_pos h2,e1,if_neg (by omega),List.take_left' rfl]; rfl
 ·rw [Bool.eq_false_iff]; intro q
  have : c.toNat=32∨c.toNat=9∨c.toNat=10∨c.toNat=13:=by simp [uCe] at q; omega
  rcases this with q | q | q | q <;> rw [q] at h2 <;> revert h2 <;> decide
 ·intro q; rw [q] at h2; revert h2; decide
theorem uNo {c : UInt8} (hc : symB c=true) (r : List UInt8) (k : Nat) (out : List Tk) : TT (c :: r) k out=TT r k (out++[(syT c).onl k]):=by
 obtain ⟨x,xs',h⟩:=uEU r
 obtain ⟨s1,s2,s3,s4,s5,s6⟩:=uNw hc
 refine uKh (w:=[c]) h ?_ rfl s6 s4 (by simpa using s5) k out
 unfold uBz
 have e2 : ([c]++x).getD 0 0=c:=rfl
 rw [e2,if_neg s1,if_neg s2,if_neg s3,if_pos hc]; rfl
def Toks (b : Bool) (s : List UInt8) (ts : List Tk) : Prop:=∀ (r : List UInt8) (k : Nat) (out : List Tk),b=true∨Apt r → ∃ d l',l'.map (·.nl false)=ts∧TT (s++r) k out=TT r (k + d) (out++l')
def Fr (s : List UInt8) : Prop:=s≠[]∧uBN ((s.getD 0 0).toNat : Int)≠true
theorem Fr.apt {s : List UInt8} (h : Fr s) (r : List UInt8) : Apt (s++r):=by
 cases s with
 | nil=>exact absurd rfl h.1
 | cons c s=>exact .inr h.2
theorem Toks.nil : Toks true [] []:=fun r k out _=>⟨0,[],rfl,by simp⟩
theorem Toks.weak {b : Bool} {s : List UInt8} {ts : List Tk} (h : Toks true s ts) : Toks b s ts:=fun r k out _=>h r k out (.inl rfl)
theorem Toks.app {b b' : Bool} {s s' : List UInt8} {ts ts' : List Tk} (h : Toks b s ts) (h' : Toks b' s' ts') (hb : b=true∨Fr s') : Toks b' (s++s') (ts++ts'):=fun r k out hr=>by
 obtain ⟨d,l1,e1,e2⟩:=h (s'++r) k out (hb.elim .inl fun q=>.inr (q.apt r))
 obtain ⟨d',l2,e3,e4⟩:=h' r (k + d) (out++l1) hr
 exact ⟨d + d',l1++l2,by rw [List.map_append,e1,e3],by rw [List.append_assoc,e2,e4,List.append_assoc,Nat.add_assoc]⟩
theorem Toks.name {w : List UInt8} (h : uAN w=true) : Toks false w [nmT w]:=fun r k out hr=>⟨0,[(nmT w).onl k],rfl,uML h (hr.resolve_left (by simp)) k out⟩
theorem Toks.sym {c : UInt8} (h : symB c=true) : Toks true [c] [syT c]:=fun r k out _=>⟨0,[(syT c).onl k],rfl,uNo h r k out⟩
theorem Toks.sp : Toks true [32] []:=fun r k out _=>⟨0,[],rfl,by rw [List.append_nil]; exact uLM (.inl rfl) r k out⟩
theorem Toks.nl : Toks true [10] []:=fun r k out _=>⟨1,[],rfl,by rw [List.append_nil]; exact uNE rfl r k out⟩
theorem Toks.join {α : Type} {f : α→List UInt8} {g : α→List Tk} : ∀ {l : List α},(∀ x ∈ l,Toks false (f x) (g x))→Toks false (Lib.join (l.map f) [44,32]) (uNc (l.map g))
 | [],_=>Toks.nil.weak
 | x :: l,h=>by
  have tail : ∀ {l : List α},(∀ x ∈ l,Toks false (f x) (g x))→Toks false (Lib.joinTail [44,32] (l.map f)) ((l.map g).map fun y=>syT 44 :: y).flatten∧(l=[]∨Fr (Lib.joinTail [44,32] (l.map f))):=by
   intro l
   induction l with
   | nil=>exact fun _=>⟨Toks.nil.weak, .inl rfl⟩
   | cons y l ih =>
    intro h
    have e : Lib.joinTail [44,32] ((y :: l).map f)=([44]++[32])++(f y++Lib.joinTail [44,32] (l.map f)):=by simp [Lib.joinTail]
    have e2 : (((y :: l).map g).map fun y=>syT 44 :: y).flatten=([syT 44]++[])++(g y++((l.map g).map fun y=>syT 44 :: y).flatten):=by simp
    obtain ⟨i1,i2⟩:=ih fun z hz=>h z (by simp [hz])
    rw [e,e2]
    refine ⟨((Toks.sym (by decide)).app Toks.sp (.inl rfl)).app ?_ (.inl rfl), .inr ⟨by simp,by simp; decide⟩⟩
    rcases i2 with q | q
    ·subst q
     simp only [List.map_nil,List.flatten_nil,List.append_nil,Lib.joinTail,List.flatMap_nil]
     exact h y (by simp)
    ·exact (h y (by simp)).app i1 (.inr q)
  rw [List.map_cons,List.map_cons,Lib.join_cons]
  obtain ⟨i1,i2⟩:=tail (l:=l) fun z hz=>h z (by simp [hz])
  show Toks false _ (g x++_)
  rcases i2 with q | q
  ·subst q
   simp only [List.map_nil,List.flatten_nil,List.append_nil,Lib.joinTail,List.flatMap_nil]
   exact h x (by simp)
  ·exact (h x (by simp)).app i1 (.inr q)
mutual
def gdB : T→Bool
 | .mk k n s ks=>decide (s=0) && uAN n && ((decide (k=2) && ks.isEmpty) || decide (k=3)) && gdBs ks
def gdBs : List T→Bool
 | []=>true
 | t :: ts=>gdB t && gdBs ts
end
end Go.Proofs.YtnjjdbapadkomaaGreatDoor
namespace Go.Proofs.YtnjjdbapadkomaaGreatDoor
open Go Go.Abs
def At (l : List Tk) (p : PS) (ts : List Tk) : Prop:=p.bad=false∧p.at'≤l.length∧l.drop p.at'=ts
theorem At.cons {l : List Tk} {p : PS} {t : Tk} {ts : List Tk} (h : At l p (t :: ts)) : p.at' < l.length∧l.getD p.at' tk0=t∧At l p.go ts:=by
 obtain ⟨h1,h2,h3⟩:=h
 have hlt : p.at' < l.length:=by
  rcases Nat.lt_or_ge p.at' l.length with q | q
  ·exact q
  ·rw [List.drop_of_length_le q] at h3; cases h3
 rw [uI8 (d:=tk0) hlt] at h3
 simp only [List.cons.injEq] at h3
 exact ⟨hlt,h3.1,h1,hlt,h3.2⟩
theorem At.len {l : List Tk} {p : PS} {ts : List Tk} (h : At l p ts) : ts.length + p.at'=l.length:=by
 obtain ⟨h1,h2,h3⟩:=h
 rw [← h3,List.length_drop]; omega
theorem At.good {l : List Tk} {p : PS} {ts : List Tk} (h : At l p ts) : p.bad=false:=h.1
def Pln (ts : List Tk) : Prop:=∀ t ∈ ts,t.int=0∧t.str=[]∧t.line=0
theorem Pln.nil : Pln []:=by intro t h; simp at h
theorem Pln.app {a b : List Tk} (h : Pln a) (h' : Pln b) : Pln (a++b):=fun t ht=>(List.mem_append.1 ht).elim (h t) (h' t)
theorem Pln.nm (w : List UInt8) : Pln [nmT w]:=by intro t h; simp at h; subst h; exact ⟨rfl,rfl,rfl⟩
theorem Pln.cons {t : Tk} {ts : List Tk} (h : Pln [t]) (h' : Pln ts) : Pln (t :: ts):=h.app (a:=[t]) h'
theorem Pln.right {a b : List Tk} (h : Pln (a++b)) : Pln b:=fun t ht=>h t (by simp [ht])
theorem Pln.tail {a : Tk} {b : List Tk} (h : Pln (a :: b)) : Pln b:=fun t ht=>h t (by simp [ht])
end Go.Proofs.YtnjjdbapadkomaaGreatDoor
namespace Go.Proofs.YtnjjdbapadkomaaGreatDoor
open Go Go.Abs
def Sp.el (s : Sp) : Sp:={ s with line:=0 }
def Gl.el (g : Gl) : Gl:={ g with line:=0 }
def Nar.el (n : Nar) : Nar:={ n with steps:=n.steps.map Sp.el,goals:=n.goals.map Gl.el }
inductive Itm where
 | roles (l : List (List UInt8))
 | fresh (role : List UInt8) (l : List (List UInt8 × Int))
 | tags (l : List (List UInt8))
 | step (s : Sp)
 | goal (g : Gl)
def uHD (k : Int) : List UInt8:=sortW.getD (k - 2).toNat []
def uGE (k : Int) : List UInt8:=kindW.getD (k - 1).toNat []
def fsW (f : List UInt8 × Int) : List UInt8:=f.1++([32]++uHD f.2)
def Itm.text : Itm→List UInt8
 | .roles l=>hRole++(Lib.join l [44,32]++[59])
 | .fresh r l=>hFresh++(r++([58,32]++(Lib.join (l.map fsW) [44,32]++[59])))
 | .tags l=>hTag++(Lib.join l [44,32]++[59])
 | .step s=>hMsg++(s.frm++(arrow++(s.dst++([58,32]++(uBI s.msg++[59])))))
 | .goal g=>hGoal++(uGE g.kind++([32]++(g.role++((if uBC g.kind=true then [32]++g.wth else [])++([58,32]++(uB4 g.data++[59]))))))
def Itm.ok : Itm→Prop
 | .roles l=>l≠[] ∧ ∀ w ∈ l,uAN w=true
 | .fresh r l=>uAN r=true∧l≠[] ∧ ∀ f ∈ l,uAN f.1=true∧2≤f.2∧f.2≤4
 | .tags l=>l≠[] ∧ ∀ w ∈ l,uAN w=true
 | .step s=>uAN s.frm=true∧uAN s.dst=true∧gdB s.msg=true
 | .goal g=>1≤g.kind∧g.kind≤5∧uAN g.role=true∧(uBC g.kind=true→uAN g.wth=true)∧(uBC g.kind=false→g.wth=[])∧g.data≠[] ∧ ∀ t ∈ g.data,gdB t=true
end Go.Proofs.YtnjjdbapadkomaaGreatDoor
namespace Go.Proofs.YtnjjdbapadkomaaGreatDoor
open Go Go.Abs
def Itm.more (f : List UInt8 × Int) : Itm→Itm
 | .fresh r l=>.fresh r (l++[f])
 | i=>i
def glue (f : List UInt8 × Int) : List Itm→List Itm
 | []=>[]
 | [i]=>[i.more f]
 | i :: j :: r=>i :: glue f (j :: r)
theorem uE8 (f : List UInt8 × Int) (r : List UInt8) (l : List (List UInt8 × Int)) : ∀ I : List Itm,glue f (I++[.fresh r l])=I++[.fresh r (l++[f])]
 | []=>rfl
 | [i]=>rfl
 | i :: j :: I=>by
  have ih:=uE8 f r l (j :: I)
  rw [List.cons_append,List.cons_append] at ih
  rw [List.cons_append,List.cons_append,glue,ih]
  rfl
def uD2 (fs : List Fs) (k : Nat) : Prop:=0 < k∧(fs.getD (k - 1) default).role=(fs.getD k default).role
instance (fs : List Fs) (k : Nat) : Decidable (uD2 fs k):=by unfold uD2; infer_instance
def Fs.pr (f : Fs) : List UInt8 × Int:=(f.name,f.sort)
def frI (fs : List Fs) : Nat→List Itm
 | 0=>[]
 | k + 1=>if uD2 fs k then glue (fs.getD k default).pr (frI fs k) else frI fs k++[.fresh (fs.getD k default).role [(fs.getD k default).pr]]
theorem uIG (fs : List Fs) : ∀ k,0 < k → ∃ I l,l≠[]∧frI fs k=I++[.fresh (fs.getD (k - 1) default).role l]
 | 0,h=>by omega
 | k + 1,_=>by
  rw [frI,Nat.add_sub_cancel]
  split
  ·rename_i hs
   obtain ⟨I,l,h1,h2⟩:=uIG fs k hs.1
   rw [h2,uE8,hs.2]
   exact ⟨I,_,by simp,rfl⟩
  ·exact ⟨_,_,by simp,rfl⟩
theorem uGc {fs : List Fs} {k : Nat} (hs : uD2 fs k) : ∃ I l,l≠[]∧frI fs k=I++[.fresh (fs.getD k default).role l]∧frI fs (k + 1)=I++[.fresh (fs.getD k default).role (l++[(fs.getD k default).pr])]:=by
 obtain ⟨I,l,h1,h2⟩:=uIG fs k hs.1
 rw [hs.2] at h2
 exact ⟨I,l,h1,h2,by rw [frI,if_pos hs,h2,uE8]⟩
theorem uH6 {fs : List Fs} {k : Nat} (hs : ¬uD2 fs k) : frI fs (k + 1)=frI fs k++[.fresh (fs.getD k default).role [(fs.getD k default).pr]]:=by rw [frI,if_neg hs]
theorem uEV (fs : List Fs) : ∀ k,(frI fs k).length≤k
 | 0=>by simp [frI]
 | k + 1=>by
  have ih:=uEV fs k
  by_cases hs : uD2 fs k
  ·obtain ⟨I,l,_,h2,h3⟩:=uGc hs
   rw [h2] at ih
   rw [h3]
   simp only [List.length_append,List.length_singleton] at ih ⊢; omega
  ·rw [uH6 hs]
   simp only [List.length_append,List.length_singleton]; omega
theorem uHn (sep x : List UInt8) : ∀ l : List (List UInt8),l≠[]→Lib.join (l++[x]) sep=Lib.join l sep++(sep++x)
 | [],h=>absurd rfl h
 | y :: l,_=>by
  rw [List.cons_append,Lib.join_cons,Lib.join_cons]
  have : ∀ l : List (List UInt8),Lib.joinTail sep (l++[x])=Lib.joinTail sep l++(sep++x):=by
   intro l
   simp [Lib.joinTail]
  rw [this,List.append_assoc]
theorem uGi (sep x : List UInt8) : Lib.join [x] sep=x:=by rw [Lib.join_cons]; simp [Lib.joinTail]
theorem uKM {r : List UInt8} {l : List (List UInt8 × Int)} (f : List UInt8 × Int) (h : l≠[]) : (Itm.fresh r (l++[f])).text=(Itm.fresh r l).text.dropLast++([44,32]++(fsW f++[59])):=by
 have e : (Itm.fresh r l).text=(hFresh++(r++([58,32]++Lib.join (l.map fsW) [44,32])))++[59]:=by simp [Itm.text]
 rw [e,List.dropLast_concat]
 simp only [Itm.text,List.map_append,List.map_cons,List.map_nil]
 rw [uHn _ _ _ (by simpa using h)]
 simp
theorem uKI (r : List UInt8) (l : List (List UInt8 × Int)) : ∃ s,(Itm.fresh r l).text=s++[59]:=⟨hFresh++(r++([58,32]++Lib.join (l.map fsW) [44,32])),by simp [Itm.text]⟩
def Nar.itms (n : Nar) : List Itm:=[.roles n.roles]++(frI n.fresh n.fresh.length++((if n.tags=[] then [] else [.tags n.tags])++(n.steps.map .step++n.goals.map .goal)))
def uGs (n : Nar) : List UInt8:=hProt++(n.name++[32,123])
def Nar.lines (n : Nar) : List (List UInt8):=[uGs n]++(n.itms.map Itm.text++[[125]])
def nl (L : List (List UInt8)) : List UInt8:=(L.map fun s=>s++[10]).flatten
theorem uNj (a b : List (List UInt8)) : nl (a++b)=nl a++nl b:=by simp [nl]
theorem uKo : ∀ L : List (List UInt8),L≠[]→Lib.join L [10]++[10]=nl L
 | [],h=>absurd rfl h
 | [x],_=>by rw [uGi]; simp [nl]
 | x :: y :: L,_=>by
  have ih:=uKo (y :: L) (by simp)
  have e : Lib.join (x :: y :: L) [10]=x++([10]++Lib.join (y :: L) [10]):=by
   rw [Lib.join_cons,Lib.join_cons]; simp [Lib.joinTail]
  have e2 : nl (x :: y :: L)=x++([10]++nl (y :: L)):=by simp [nl]
  rw [e,e2,← ih]; simp
def Nar.text (n : Nar) : List UInt8:=Lib.join n.lines [10]++[10]
theorem Nar.text_eq (n : Nar) : n.text=nl n.lines:=uKo _ (by simp [Nar.lines])
structure MsgOk (t : T) : Prop where
 raw : uC0 uAN t=0
 size : t.size≤40
structure GlOk (g : Gl) : Prop where
 k1 : 1≤g.kind
 k2 : g.kind≤5
 role : uAN g.role=true
 w1 : uBC g.kind=true→uAN g.wth=true
 w0 : uBC g.kind=false→g.wth=[]
 d1 : 1≤g.data.length
 d2 : g.data.length≤4
 data : ∀ t ∈ g.data,MsgOk t
structure NarOk (n : Nar) : Prop where
 name : uAN n.name=true
 r1 : 2≤n.roles.length
 r2 : n.roles.length≤4
 roles : ∀ w ∈ n.roles,uAN w=true
 f2 : n.fresh.length≤12
 fresh : ∀ f ∈ n.fresh,uAN f.role=true∧uAN f.name=true∧2≤f.sort∧f.sort≤4
 t2 : n.tags.length≤8
 tags : ∀ w ∈ n.tags,uAN w=true
 s1 : 1≤n.steps.length
 s2 : n.steps.length≤8
 steps : ∀ s ∈ n.steps,uAN s.frm=true∧uAN s.dst=true∧MsgOk s.msg
 g2 : n.goals.length≤8
 goals : ∀ g ∈ n.goals,GlOk g
theorem uL4 {t : T} (h : msgE uAN t=0) : MsgOk t:=by
 unfold msgE at h
 split at h
 ·rename_i hz; exact absurd h hz
 ·rename_i hz
  split at h
  ·simp at h
  ·exact ⟨Decidable.not_not.1 hz,by omega⟩
theorem uMK {g : Gl} (h : uDe uAN g=0) : GlOk g:=by
 unfold uDe at h
 split at h
 ·simp at h
 rename_i h1
 split at h
 ·simp at h
 rename_i h2
 split at h
 ·simp at h
 rename_i h3
 split at h
 ·simp at h
 rename_i h4
 have h5:=errs_zero.1 h
 refine ⟨by omega,by omega,?_,fun ha=>?_,fun ha=>?_,?_,?_,fun t ht=>uL4 (h5 t ht)⟩
 ·cases hz : uAN g.role with
  | true=>rfl
  | false=>exact absurd (.inl hz) h2
 ·cases hz : uAN g.wth with
  | true=>rfl
  | false=>exact absurd (.inr ⟨ha,hz⟩) h2
 ·exact Decidable.byContradiction fun q=>h3 ⟨ha,q⟩
 ·cases ha : uBC g.kind with
  | true=>exact Decidable.byContradiction fun q=>h4 (.inl ⟨ha,by omega⟩)
  | false=>exact Decidable.byContradiction fun q=>h4 (.inr ⟨ha,by omega⟩)
 ·cases ha : uBC g.kind with
  | true=>exact Decidable.byContradiction fun q=>h4 (.inl ⟨ha,by omega⟩)
  | false=>exact Decidable.byContradiction fun q=>h4 (.inr ⟨ha,by omega⟩)
theorem uNv {n : Nar} (h : cntE n=0) : 2≤n.roles.length∧n.roles.length≤4∧n.fresh.length≤12∧n.tags.length≤8∧1≤n.steps.length∧n.steps.length≤8∧n.goals.length≤8:=by
 unfold cntE at h
 repeat' split at h
 all_goals first
  | (simp at h; done)
  | omega
theorem uNr {n : Nar} (h : narE uAN n=0) : NarOk n:=by
 unfold narE at h
 split at h
 ·rename_i hz; exact absurd h hz
 rename_i h1
 split at h
 ·rename_i hz; exact absurd h hz
 rename_i h2
 have h1:=Decidable.not_not.1 h1
 have h2:=errs_zero.1 (Decidable.not_not.1 h2)
 have h3:=errs_zero.1 h
 unfold uGU at h1
 split at h1
 ·simp at h1
 rename_i a1
 split at h1
 ·rename_i hz; exact absurd h1 hz
 rename_i a2
 split at h1
 ·simp at h1
 rename_i a3
 split at h1
 ·rename_i hz; exact absurd h1 hz
 rename_i a4
 split at h1
 ·simp at h1
 rename_i a5
 obtain ⟨c1,c2,c3,c4,c5,c6,c7⟩:=uNv (Decidable.not_not.1 a2)
 have a4:=errs_zero.1 (Decidable.not_not.1 a4)
 refine ⟨by simpa using a1,c1,c2,fun w hw=>List.all_eq_true.1 (by simpa using a3) w hw,c3,fun f hf=>?_,c4,fun w hw=>List.all_eq_true.1 (by simpa using a5) w hw,c5,c6,fun s hs=>?_,c7,fun g hg=>uMK (h3 g hg)⟩
 ·have := a4 f hf
  unfold frE at this
  split at this
  ·simp at this
  rename_i q
  split at this
  ·simp at this
  ·refine ⟨?_,?_,by omega,by omega⟩
   ·cases hz : uAN f.role with
    | true=>rfl
    | false=>exact absurd (.inl hz) q
   ·cases hz : uAN f.name with
    | true=>rfl
    | false=>exact absurd (.inr hz) q
 ·have := h2 s hs
  unfold spE at this
  split at this
  ·simp at this
  rename_i q
  refine ⟨?_,?_,uL4 this⟩
  ·cases hz : uAN s.frm with
   | true=>rfl
   | false=>exact absurd (.inl hz) q
  ·cases hz : uAN s.dst with
   | true=>rfl
   | false=>exact absurd (.inr hz) q
theorem uCn {w : List UInt8} (h : uAN w=true) : w.length≤24:=(uG1 h).2.2.2
theorem MsgOk.ok {t : T} (h : MsgOk t) : okB t=true:=(uJA h.raw).1
theorem MsgOk.len {t : T} (h : MsgOk t) : (uBI t).length≤1120 := by have := uES h.ok; have := h.size; omega
theorem uIU : ∀ {l : List T} {M : Nat},(∀ t ∈ l,t.size≤M)→T.sizes l≤M * l.length
 | [],M,_=>by simp [T.sizes]
 | t :: l,M,h=>by
  have h1:=h t (by simp)
  have h2:=uIU (M:=M) fun x hx=>h x (List.mem_cons_of_mem t hx)
  rw [T.sizes,List.length_cons,Nat.mul_succ]; omega
theorem GlOk.sizes {g : Gl} (h : GlOk g) : T.sizes g.data≤160:=by
 have := uIU (M := 40) fun t ht=>(h.data t ht).size
 have := h.d2; omega
theorem GlOk.oks {g : Gl} (h : GlOk g) : ∀ t ∈ g.data,okB t=true:=fun t ht=>(h.data t ht).ok
theorem GlOk.len {g : Gl} (h : GlOk g) : (uB4 g.data).length≤4480 := by have := uGx h.oks; have := h.sizes; omega
theorem GlOk.wth {g : Gl} (h : GlOk g) : g.wth.length≤24:=by
 cases ha : uBC g.kind with
 | true=>exact uCn (h.w1 ha)
 | false=>rw [h.w0 ha]; simp
theorem uIi (fs : List Fs) : ∀ k,k≤fs.length → ∀ i ∈ frI fs k,∃ r l,i = .fresh r l∧l≠[]∧l.length≤k ∧ ∀ p ∈ l,∃ f ∈ fs,p=f.pr∧f.role=r
 | 0,_,i,h=>by simp [frI] at h
 | k + 1,hk,i,h=>by
  have ih:=uIi fs k (by omega)
  have hm : fs.getD k default ∈ fs:=by
   rw [List.getD_eq_getElem?_getD,List.getElem?_eq_getElem (by omega)]; exact List.getElem_mem _
  by_cases hs : uD2 fs k
  ·obtain ⟨I,l,_,h2,h3⟩:=uGc hs
   rw [h3] at h
   rw [h2] at ih
   rcases List.mem_append.1 h with q | q
   ·obtain ⟨r,l',e1,e2,e3,e4⟩:=ih i (by simp [q])
    exact ⟨r,l',e1,e2,by omega,e4⟩
   ·obtain ⟨r,l',e1,e2,e3,e4⟩:=ih _ (List.mem_append.2 (.inr (List.mem_singleton.2 rfl)))
    simp only [Itm.fresh.injEq] at e1
    obtain ⟨rfl,rfl⟩:=e1
    refine ⟨_,_,List.mem_singleton.1 q,by simp,by simp only [List.length_append,List.length_singleton]; omega,fun p hp=>?_⟩
    rcases List.mem_append.1 hp with z | z
    ·exact e4 p z
    ·exact ⟨_,hm,List.mem_singleton.1 z,rfl⟩
  ·rw [uH6 hs] at h
   rcases List.mem_append.1 h with q | q
   ·obtain ⟨r,l',e1,e2,e3,e4⟩:=ih i q
    exact ⟨r,l',e1,e2,by omega,e4⟩
   ·refine ⟨_,_,List.mem_singleton.1 q,by simp,by simp,fun p hp=>⟨_,hm,List.mem_singleton.1 hp,rfl⟩⟩
def FsOk (fs : List Fs) : Prop:=∀ f ∈ fs,uAN f.role=true∧uAN f.name=true∧2≤f.sort∧f.sort≤4
theorem uNg {fs : List Fs} (h : FsOk fs) {k : Nat} (hk : k≤fs.length) : ∀ i ∈ frI fs k,i.ok:=by
 intro i hi
 obtain ⟨r,l,rfl,h2,h3,h4⟩:=uIi fs k hk i hi
 refine ⟨?_,h2,fun p hp=>?_⟩
 ·obtain ⟨p,q,rfl⟩ : ∃ p q,l=p :: q:=by
   cases l with
   | nil=>exact absurd rfl h2
   | cons p q=>exact ⟨p,q,rfl⟩
  obtain ⟨f,hf,_,e⟩:=h4 p (by simp)
  rw [← e]; exact (h f hf).1
 ·obtain ⟨f,hf,e,_⟩:=h4 p hp
  subst e
  exact ⟨(h f hf).2.1,(h f hf).2.2.1,(h f hf).2.2.2⟩
theorem uLN {L : List (List UInt8)} {M : Nat} (h : ∀ x ∈ L,x.length≤M) : uDT L≤(M + 2) * L.length:=by
 induction L with
 | nil=>simp [uDT]
 | cons x L ih =>
  have h1:=h x (by simp)
  have h2:=ih fun y hy=>h y (by simp [hy])
  simp only [uDT,List.map_cons,List.sum_cons,List.length_cons,Nat.mul_succ] at h2 ⊢
  omega
theorem uKf {L : List (List UInt8)} {M : Nat} (h : ∀ x ∈ L,x.length≤M) : (Lib.join L [44,32]).length≤(M + 2) * L.length:=Nat.le_trans (uEi L).1 (uLN h)
theorem uLs (k : Int) : (uHD k).length≤5:=by
 unfold uHD
 have : ∀ j : Nat,(sortW.getD j []).length≤5:=by
  intro j
  match j with
  | 0=>decide
  | 1=>decide
  | 2=>decide
  | j + 3=>simp [sortW,List.getD_eq_getElem?_getD]
 exact this _
theorem uIZ {fs : List Fs} (h : FsOk fs) {k : Nat} (hk : k≤fs.length) (h12 : fs.length≤12) : ∀ i ∈ frI fs k,i.text.length≤500:=by
 intro i hi
 have ho:=uNg h hk i hi
 obtain ⟨r,l,rfl,h2,h3,h4⟩:=uIi fs k hk i hi
 obtain ⟨o1,o2,o3⟩:=ho
 have h5:=uCn o1
 have h6 : (Lib.join (l.map fsW) [44,32]).length≤(30 + 2) * l.length:=by
  have := uKf (L := l.map fsW) (M := 30) fun x hx=>by
   obtain ⟨p,hp,rfl⟩:=List.mem_map.1 hx
   have := uCn (o3 p hp).1
   have := uLs p.2
   simp only [fsW,List.length_append,List.length_cons,List.length_nil]; omega
  rwa [List.length_map] at this
 have : hFresh.length=8:=rfl
 simp only [Itm.text,List.length_append,List.length_cons,List.length_nil]
 omega
theorem uDp {l : List (List UInt8)} (h : ∀ w ∈ l,uAN w=true) : (Lib.join l [44,32]).length≤26 * l.length:=uKf fun x hx=>uCn (h x hx)
theorem uK4 {s : Sp} (h1 : uAN s.frm=true) (h2 : uAN s.dst=true) (h3 : MsgOk s.msg) : (Itm.step s).text.length≤1300:=by
 have a:=uCn h1
 have b:=uCn h2
 have c:=h3.len
 have : hMsg.length=10:=rfl
 have : arrow.length=4:=rfl
 simp only [Itm.text,List.length_append,List.length_cons,List.length_nil]; omega
theorem uKE (k : Int) : (uGE k).length≤7:=by
 unfold uGE
 have : ∀ j : Nat,(kindW.getD j []).length≤7:=by
  intro j
  match j with
  | 0=>decide
  | 1=>decide
  | 2=>decide
  | 3=>decide
  | 4=>decide
  | j + 5=>simp [kindW,List.getD_eq_getElem?_getD]
 exact this _
theorem uGk (g : Gl) : (Itm.goal g).text=hGoal++(uGP g++[59]):=by
 simp only [Itm.text,uGP,uGE]
 split <;> simp
theorem uFa {g : Gl} (h : GlOk g) : (Itm.goal g).text.length≤4600:=by
 have a:=uCn h.role
 have b:=h.wth
 have c:=h.len
 have d:=uKE g.kind
 have : hGoal.length=7:=rfl
 simp only [Itm.text,List.length_append,List.length_cons,List.length_nil]
 split <;> (simp only [List.length_append,List.length_cons,List.length_nil]; omega)
theorem NarOk.itm_len {n : Nar} (h : NarOk n) : n.itms.length≤30:=by
 have := uEV n.fresh n.fresh.length
 have := h.f2
 have := h.s2
 have := h.g2
 unfold Nar.itms
 split <;> (simp only [List.length_append,List.length_map,List.length_singleton,List.length_nil]; omega)
theorem NarOk.lines_len {n : Nar} (h : NarOk n) : n.lines.length≤32:=by
 have := h.itm_len
 simp only [Nar.lines,List.length_append,List.length_map,List.length_singleton]; omega
theorem uNs (L : List (List UInt8)) {M : Nat} (h : ∀ x ∈ L,x.length≤M) : (nl L).length≤(M + 1) * L.length:=by
 induction L with
 | nil=>simp [nl]
 | cons x L ih =>
  have h1:=h x (by simp)
  have h2:=ih fun y hy=>h y (by simp [hy])
  have e : nl (x :: L)=x++([10]++nl L):=by simp [nl]
  rw [e]
  simp only [List.length_append,List.length_cons,List.length_nil,Nat.mul_succ]
  omega
theorem uJC {α : Type} (f : α→List UInt8) (l : List α) {M : Nat} (h : ∀ x ∈ l,(f x).length≤M) : (nl (l.map f)).length≤(M + 1) * l.length:=by
 have := uNs (l.map f) (M := M) fun x hx=>by
  obtain ⟨y,hy,rfl⟩:=List.mem_map.1 hx; exact h y hy
 rwa [List.length_map] at this
theorem NarOk.text_len {n : Nar} (h : NarOk n) : n.text.length≤60000:=by
 rw [n.text_eq]
 have e : n.lines=[uGs n]++([(Itm.roles n.roles).text]++((frI n.fresh n.fresh.length).map Itm.text++((if n.tags=[] then [] else [.tags n.tags]).map Itm.text++(n.steps.map (fun s=>(Itm.step s).text)++(n.goals.map (fun g=>(Itm.goal g).text)++[[125]]))))):=by
  unfold Nar.lines Nar.itms
  simp [List.map_map,Function.comp_def]
 rw [e]
 simp only [uNj,List.length_append]
 have h1 : (nl [uGs n]).length≤60:=by
  have := uCn h.name
  have : hProt.length=9:=rfl
  simp only [nl,uGs,List.map_cons,List.map_nil,List.flatten_cons,List.flatten_nil,List.length_append,List.length_cons,List.length_nil]; omega
 have h2 : (nl [(Itm.roles n.roles).text]).length≤200:=by
  have := uDp h.roles
  have := h.r2
  have : hRole.length=7:=rfl
  simp only [nl,Itm.text,List.map_cons,List.map_nil,List.flatten_cons,List.flatten_nil,List.length_append,List.length_cons,List.length_nil]; omega
 have h3:=uJC Itm.text (frI n.fresh n.fresh.length) (uIZ h.fresh (Nat.le_refl _) h.f2)
 have h3':=uEV n.fresh n.fresh.length
 have h4 : (nl ((if n.tags=[] then [] else [.tags n.tags]).map Itm.text)).length≤300:=by
  split
  ·simp [nl]
  ·have := uDp h.tags
   have := h.t2
   have : hTag.length=6:=rfl
   simp only [nl,Itm.text,List.map_cons,List.map_nil,List.flatten_cons,List.flatten_nil,List.length_append,List.length_cons,List.length_nil]; omega
 have h5:=uJC (fun s=>(Itm.step s).text) n.steps (M:=1300) fun s hs=>by
  obtain ⟨s1,s2,s3⟩:=h.steps s hs
  exact uK4 s1 s2 s3
 have h6:=uJC (fun g=>(Itm.goal g).text) n.goals (M:=4600) fun g hg=>uFa (h.goals g hg)
 have h7 : (nl [[125]]).length=2:=rfl
 have := h.f2
 have := h.s2
 have := h.g2
 omega
end Go.Proofs.YtnjjdbapadkomaaGreatDoor
namespace Go.Proofs.YtnjjdbapadkomaaGreatDoor
open Go Go.Abs
theorem map_none {α β : Type} (f : Itm→List β) (g : α→Itm) (hf : ∀ x,f (g x)=[]) (l : List α) : (l.map g).flatMap f=[]:=by
 rw [List.flatMap_eq_nil_iff]
 intro i hi
 obtain ⟨x,_,rfl⟩:=List.mem_map.1 hi
 exact hf x
end Go.Proofs.YtnjjdbapadkomaaGreatDoor
namespace Go.Proofs.YtnjjdbapadkomaaGreatDoor
open Go Go.Abs
theorem uFE : ∀ (l : List UInt8),Op.bytesLess l l=false
 | []=>rfl
 | x :: xs=>by
  have := uFE xs
  simp [Op.bytesLess,this]
theorem uIN (a : Int) : uBH a a=0:=by simp [uBH]
mutual
theorem T.cmp_self : ∀ a : T,a.cmp a=0
 | .mk k n s ks=>by
  have h0 : T.cmp0 (.mk k n s ks) (.mk k n s ks)=0:=by simp [T.cmp0,uIN,uFE]
  rw [T.cmp,if_neg (by simp [h0])]
  exact T.cmps_self ks
theorem T.cmps_self : ∀ l : List T,T.cmps l l=0
 | []=>rfl
 | x :: xs=>by
  rw [T.cmps,if_neg (by simp [T.cmp_self x])]
  exact T.cmps_self xs
end
theorem uLq (l : List (List UInt8)) (s : List UInt8) : Ctr sys 87 [xss l,xs s] [] (xb (l.contains s)) none []:=by
 have hr:=uAh l
 refine uAv Tryz.func87 rfl rfl rfl rfl rfl rfl ?_;refine uAe (uAb ?_);refine uAa rfl rfl rfl (uAd rfl gU) ?_;refine uAf ?_;refine uAe ?_;refine uAe (uAb ?_);refine uAa rfl rfl rfl (uAd rfl gU) ?_;refine uAf ?_;refine uAt ?_;refine uAW (ι:=Nat) { t:=[(0,_,_),(1,_,_)],bx:=[],ow:=[] } (fun k=>[(5,true,xi (k : Int))]) (fun k=>[]) (fun k=>k≤l.length ∧ ∀ j,j < k→l.getD j []≠s) (fun k=>l.length - k) (0) (by simp) (uAj (⟨sx rfl,sx rfl,sx rfl,trivial⟩) trivial trivial) ?_
 intro k hok
 dsimp only [List.cons_append,List.nil_append]
 obtain ⟨hk,hi⟩:=hok
 refine uAe ?_;refine uAe (uAb ?_);refine uAa rfl rfl rfl (uAc rfl gU) ?_;refine uAa rfl rfl rfl (uAc rfl gU) ?_;refine uAQ rfl rfl rfl rfl rfl gU rfl rfl ?_ (fun hh=>by simp at hh); intro hlen;refine uAa rfl rfl rfl (uAk rfl rfl gU gU rfl) ?_;refine uAf ?_;refine uAl rfl (fun hc=>?_) (fun hc=>?_)
 ·try simp only [nn,uAh,T.rows_len,Gl.rows_len,Fs.rows_len,Sp.rows_len] at hc
  have hlt : k < l.length:=by omega
  refine uAp ?_;refine uAe ?_;refine uAt ?_;refine uAe (uAb ?_);refine uAa rfl rfl rfl (uAc rfl gU) ?_;refine uAa rfl rfl rfl (uAc rfl gU) ?_;refine uAa rfl rfl rfl (uAy rfl rfl gU gU rfl rfl rfl (fun hh=>uCK (by first | omega | (simp at hh ⊢; omega)))) ?_;refine uAa rfl rfl rfl (uAX rfl gU rfl rfl rfl) ?_;refine uAa rfl rfl rfl (uAc rfl gU) ?_;refine uAa rfl rfl rfl (uAY rfl rfl gU gU rfl) ?_;refine uAf ?_;refine uAn (s:=⟨[(0,_,_),(1,_,_),(5,_,_),(17,_,_)],[],[],[]⟩) (uAj (⟨sx rfl,sx rfl,sx rfl,sx rfl,trivial⟩) trivial trivial) ?_;refine uAl rfl (fun hc2=>?_) (fun hc2=>?_)
  ·try simp only [nn,uAh,T.rows_len,Gl.rows_len,Fs.rows_len,Sp.rows_len] at hc2
   have hm : l.contains s=true:=by
    rw [List.contains_iff_mem,← hc2,List.getD_eq_getElem?_getD,List.getElem?_eq_getElem hlt]
    exact List.getElem_mem _
   refine uAe (uAb ?_);refine uAa rfl rfl rfl (uAd rfl gU) ?_;refine uAf ?_;refine uAo ?_
   repeat (first | refine tR ?_ | refine bR ?_)
   refine uAq rfl ?_ trivial;exact uCu (by rw [hm])
  ·try simp only [nn,uAh,T.rows_len,Gl.rows_len,Fs.rows_len,Sp.rows_len] at hc2
   refine uAp ?_;refine uAb ?_;refine uAa rfl rfl rfl (uAc rfl gU) ?_;refine uAa rfl rfl rfl (uAr rfl rfl gU gU rfl (IntWalk.i64_in _ (by omega))) ?_;refine uAa rfl rfl rfl (uAd rfl gU) ?_;refine uAf ?_;refine ⟨k + 1,?_,?_,uAj (⟨⟨_,rfl,?_⟩,⟨sx rfl,sx rfl,trivial⟩⟩) trivial trivial⟩
   all_goals (first | rfl | omega | (refine ⟨by omega,fun j hj=>?_⟩; by_cases q : j=k; { subst q; exact hc2 }; { exact hi j (by omega) }))
 ·try simp only [nn,uAh,T.rows_len,Gl.rows_len,Fs.rows_len,Sp.rows_len] at hc
  have hm : l.contains s=false:=by
   rw [Bool.eq_false_iff]
   intro q
   rw [List.contains_iff_mem] at q
   obtain ⟨j,hj,e⟩:=List.mem_iff_getElem.1 q
   refine hi j (by omega) ?_
   rw [List.getD_eq_getElem?_getD,List.getElem?_eq_getElem hj]
   exact e
  refine uAL ?_
  repeat (first | refine uAF ?_ | refine uAE ?_ | refine uAB rfl ?_)
  refine uAe (uAb ?_);refine uAa rfl rfl rfl (uAd rfl gU) ?_;refine uAf ?_;refine uAo ?_
  repeat (first | refine tR ?_ | refine bR ?_)
  refine uAq rfl ?_ trivial;exact uCu (by rw [hm])
theorem uJc (a b : List (List UInt8)) (h : a=b) : Ctr sys 29 [xss a,xss b] [] (xb true) none []:=by
 have la:=uAh a
 have lb:=uAh b
 have hl : a.length=b.length:=by rw [h]
 refine uAv Tryz.func29 rfl rfl rfl rfl rfl rfl ?_;refine uAe (uAb ?_);refine uAa rfl rfl rfl (uAd rfl gU) ?_;refine uAf ?_;refine uAe ?_;refine uAe (uAb ?_);refine uAa rfl rfl rfl (uAc rfl gU) ?_;refine uAQ rfl rfl rfl rfl rfl gU rfl rfl ?_ (fun hh=>by simp at hh); intro hlen;refine uAa rfl rfl rfl (uAc rfl gU) ?_;refine uAQ rfl rfl rfl rfl rfl gU rfl rfl ?_ (fun hh=>by simp at hh); intro hlen;refine uAa rfl rfl rfl (uAk rfl rfl gU gU rfl) ?_;refine uAf ?_;refine uAn (s:=⟨[(0,_,_),(1,_,_),(10,_,_)],[],[],[]⟩) (uAj (⟨sx rfl,sx rfl,sx rfl,trivial⟩) trivial trivial) ?_;refine uAl rfl (fun hc=>?_) (fun hc=>?_)
 ·try simp only [nn,uAh,T.rows_len,Gl.rows_len,Fs.rows_len,Sp.rows_len] at hc
  exact absurd (by omega) hc
 ·try simp only [nn,uAh,T.rows_len,Gl.rows_len,Fs.rows_len,Sp.rows_len] at hc
  refine uAp ?_;refine uAe ?_;refine uAe (uAb ?_);refine uAa rfl rfl rfl (uAc rfl gU) ?_;refine uAQ rfl rfl rfl rfl rfl gU rfl rfl ?_ (fun hh=>by simp at hh); intro hlen;refine uAa rfl rfl rfl (uAc rfl gU) ?_;refine uAf ?_;refine uAt ?_;refine uAW (ι:=Nat) { t:=[(0,_,_),(1,_,_),(12,_,_)],bx:=[],ow:=[] } (fun k=>[(13,true,xi (k : Int))]) (fun k=>[]) (fun k=>k≤a.length) (fun k=>a.length - k) (0) (by simp) (uAj (⟨sx rfl,sx rfl,sx rfl,sx rfl,trivial⟩) trivial trivial) ?_
  intro k hok
  dsimp only [List.cons_append,List.nil_append]
  refine uAe (uAb ?_);refine uAa rfl rfl rfl (uAk rfl rfl gU gU rfl) ?_;refine uAf ?_;refine uAe ?_;refine uAl rfl (fun hc2=>?_) (fun hc2=>?_)
  ·try simp only [nn,uAh,T.rows_len,Gl.rows_len,Fs.rows_len,Sp.rows_len] at hc2
   refine uAp ?_;refine uAe ?_;refine uAt ?_;refine uAe (uAb ?_);refine uAa rfl rfl rfl (uAc rfl gU) ?_;refine uAa rfl rfl rfl (uAd rfl gU) ?_;refine uAf ?_;refine uAe ?_;refine awp_drawn' (by kernel_rfl) ?_;refine uAi rfl rfl rfl rfl (uAc rfl gU) ?_;refine uAi rfl rfl rfl rfl (uAc rfl gU) ?_;refine uAi rfl rfl rfl rfl (uAy rfl rfl gU gU rfl rfl rfl (fun hh=>uCK (by first | omega | (simp at hh ⊢; omega)))) ?_;refine uAi rfl rfl rfl rfl (uAX rfl gU rfl rfl rfl) ?_;refine uAi rfl rfl rfl rfl (uAc rfl gU) ?_;refine uAi rfl rfl rfl rfl (uAc rfl gU) ?_;refine uAi rfl rfl rfl rfl (uAy rfl rfl gU gU rfl rfl rfl (fun hh=>uCK (by first | omega | (simp at hh ⊢; omega)))) ?_;refine uAi rfl rfl rfl rfl (uAX rfl gU rfl rfl rfl) ?_;refine uAi rfl rfl rfl rfl (uAY rfl rfl gU gU rfl) ?_;refine uBg (by kernel_rfl) ?_;refine uAn (s:=⟨[(0,_,_),(1,_,_),(12,_,_),(13,_,_),(24,_,_)],[],[],[]⟩) (uAj (⟨sx rfl,sx rfl,sx rfl,sx rfl,sx rfl,trivial⟩) trivial trivial) ?_;refine uAl rfl (fun hc3=>?_) (fun hc3=>?_)
   ·try simp only [nn,uAh,T.rows_len,Gl.rows_len,Fs.rows_len,Sp.rows_len] at hc3
    exact absurd (by rw [h]) hc3
   ·try simp only [nn,uAh,T.rows_len,Gl.rows_len,Fs.rows_len,Sp.rows_len] at hc3
    refine uAp ?_;refine uAb ?_;refine uAa rfl rfl rfl (uAr rfl rfl gU gU rfl (IntWalk.i64_in _ (by omega))) ?_;refine uAa rfl rfl rfl (uAc rfl gU) ?_;refine uAf ?_;refine ⟨k + 1,?_,?_,uAj (⟨⟨_,rfl,?_⟩,⟨sx rfl,sx rfl,sx rfl,trivial⟩⟩) trivial trivial⟩
    all_goals (first | rfl | omega)
  ·try simp only [nn,uAh,T.rows_len,Gl.rows_len,Fs.rows_len,Sp.rows_len] at hc2
   refine uAL ?_
   repeat (first | refine uAF ?_ | refine uAE ?_ | refine uAB rfl ?_)
   refine uAe (uAb ?_);refine uAa rfl rfl rfl (uAd rfl gU) ?_;refine uAf ?_;refine uAo ?_
   repeat (first | refine tR ?_ | refine bR ?_)
   refine uAq rfl ?_ trivial
   rfl
end Go.Proofs.YtnjjdbapadkomaaGreatDoor
namespace Go.Proofs.YtnjjdbapadkomaaGreatDoor
open Go Go.Abs
theorem uHP {α : Type} {l : List Tk} {f : PS→α × PS} (hf : Fwd l f) : ∀ (n : Nat) (p : PS) (out : List α),(uB0 l f n p out).1.length + p.at'≤out.length + (uB0 l f n p out).2.at'
 | 0,p,out=>by simp [uB0]
 | n + 1,p,out=>by
  rw [uB0]
  split
  ·have h1:=(hf p.go).1
   have h2:=uHP hf n (f p.go).2 (out++[(f p.go).1])
   have hg : p.go.at'=p.at' + 1:=rfl
   rw [List.length_append,List.length_singleton] at h2
   omega
  ·simp
theorem uFp {α : Type} {l : List Tk} {f : PS→α × PS} (hf : Fwd l f) (p : PS) : (uBk l f p).1.length + p.at'≤1 + (uBk l f p).2.at':=by
 have h1:=(hf p).1
 have h2:=uHP hf (l.length + 1) (f p).2 [(f p).1]
 unfold uBk
 rw [List.length_singleton] at h2
 omega
theorem uGC (l : List Tk) (role : List UInt8) : ∀ (n : Nat) (p : PS) (out : List Fs),(uCa l role n p out).1.length + p.at'≤out.length + 1 + (uCa l role n p out).2.at'
 | 0,p,out=>by simp [uCa]
 | n + 1,p,out=>by
  have h1:=(uA4 l [] p).1
  have h2:=(uA4 l sortW (uAA l [] p).2).1
  rw [uCa]
  split
  ·dsimp only; omega
  split
  ·have hg : (uAA l sortW (uAA l [] p).2).2.go.at'=(uAA l sortW (uAA l [] p).2).2.at' + 1:=rfl
   have h4:=uGC l role n (uAA l sortW (uAA l [] p).2).2.go (out++[⟨role,(uAA l [] p).1,2 + uBA sortW (uAA l sortW (uAA l [] p).2).1⟩])
   rw [List.length_append,List.length_singleton] at h4
   omega
  ·simp only [List.length_append,List.length_singleton]; omega
theorem uJ5 (l : List Tk) (p : PS) (out : List Fs) : (uB3 l p out).1.length + p.at'≤out.length + 1 + (uB3 l p out).2.at':=by
 have h1:=(uA4 l [] p).1
 have h2:=(uBp l [58] (uAA l [] p).2).1
 have h3:=uGC l (uAA l [] p).1 (l.length + 1) (uA7 l [58] (uAA l [] p).2) out
 unfold uB3
 omega
structure Nar.Le (n : Nar) (k : Nat) : Prop where
 roles : n.roles.length≤k
 fresh : n.fresh.length≤k
 tags : n.tags.length≤k
 steps : n.steps.length≤k
 goals : n.goals.length≤k
theorem Nar.Le.mono {n : Nar} {k j : Nat} (h : n.Le k) (hj : k≤j) : n.Le j:=⟨Nat.le_trans h.roles hj,Nat.le_trans h.fresh hj,Nat.le_trans h.tags hj,Nat.le_trans h.steps hj,Nat.le_trans h.goals hj⟩
theorem uKP {l : List Tk} {ws : List (List UInt8)} {p : PS} (h : (uAA l ws p).1≠[]) : (uAA l ws p).2.at'=p.at' + 1:=by
 cases hq : namQ l p ws with
 | true=>rw [uAA,if_pos hq]; rfl
 | false=>rw [uAA,hq] at h; exact absurd rfl h
theorem uLY {l : List Tk} {n : Nar} {line : Int} {w : List UInt8} {q : PS} {k : Nat} (h : n.Le k) (hk : w≠[]→k + 1≤q.at') (hq : k≤q.at') : (uBY l n line w q).1.Le (uBY l n line w q).2.at':=by
 have hz:=uGJ l n line w q
 unfold uBY at hz ⊢
 split
 ·rename_i hw
  rw [if_pos hw] at hz
  have h1 : (uBJ l q).1.length + q.at'≤1 + (uBJ l q).2.at':=uFp (uA4 l []) q
  have h2:=hk (by rw [hw]; decide)
  have h3:=hz.1
  have := h.mono (j := (uBJ l q).2.at') (by dsimp only at h3; omega)
  have h4:=h.roles
  exact ⟨by dsimp only; rw [List.length_append]; omega,this.fresh,this.tags,this.steps,this.goals⟩
 rename_i hw1
 rw [if_neg hw1] at hz
 split
 ·rename_i hw
  rw [if_pos hw] at hz
  have h1:=uJ5 l q n.fresh
  have h2:=hk (by rw [hw]; decide)
  have h3:=hz.1
  have := h.mono (j := (uB3 l q n.fresh).2.at') (by dsimp only at h3; omega)
  have h4:=h.fresh
  exact ⟨this.roles,by dsimp only; omega,this.tags,this.steps,this.goals⟩
 rename_i hw2
 rw [if_neg hw2] at hz
 split
 ·rename_i hw
  rw [if_pos hw] at hz
  have h1 : (uBJ l q).1.length + q.at'≤1 + (uBJ l q).2.at':=uFp (uA4 l []) q
  have h2:=hk (by rw [hw]; decide)
  have h3:=hz.1
  have := h.mono (j := (uBJ l q).2.at') (by dsimp only at h3; omega)
  have h4:=h.tags
  exact ⟨this.roles,this.fresh,by dsimp only; rw [List.length_append]; omega,this.steps,this.goals⟩
 rename_i hw3
 rw [if_neg hw3] at hz
 split
 ·rename_i hw
  rw [if_pos hw] at hz
  have h2:=hk (by rw [hw]; decide)
  have h3:=hz.1
  have := h.mono (j := (uCL l line q).2.at') (by dsimp only at h3; omega)
  have h4:=h.steps
  exact ⟨this.roles,this.fresh,this.tags,by dsimp only at h3 ⊢; rw [List.length_append,List.length_singleton]; omega,this.goals⟩
 rename_i hw4
 rw [if_neg hw4] at hz
 split
 ·rename_i hw
  rw [if_pos hw] at hz
  have h2:=hk (by rw [hw]; decide)
  have h3:=hz.1
  have := h.mono (j := (uCr l line q).2.at') (by dsimp only at h3; omega)
  have h4:=h.goals
  exact ⟨this.roles,this.fresh,this.tags,this.steps,by dsimp only at h3 ⊢; rw [List.length_append,List.length_singleton]; omega⟩
 exact h.mono hq
theorem uLG {l : List Tk} {n : Nar} {p : PS} (h : n.Le p.at') : (uCl l n p).1.Le (uCl l n p).2.at':=by
 have h1:=(uA4 l uB6 p).1
 have h2:=uLY (l:=l) (line:=uCH l p) (w:=(uAA l uB6 p).1) (q:=(uAA l uB6 p).2) h (fun hw=>by rw [uKP hw]; exact Nat.le_refl _) h1
 exact h2.mono (uBp l [59] _).1
theorem uGn (t : T) : ∀ l : List T,T.sizes (l++[t])=T.sizes l + t.size
 | []=>by simp [T.sizes]
 | x :: l=>by rw [List.cons_append,T.sizes,T.sizes,uGn t l]; omega
theorem uHF : ∀ l : List T,l≠[]→(tupT l).size + 1=T.sizes l + l.length
 | [],h=>absurd rfl h
 | [t],_=>by simp [tupT,T.sizes]
 | t :: u :: l,_=>by
  have ih:=uHF (u :: l) (by simp)
  have e : (uHK t (tupT (u :: l))).size=1 + (t.size + (tupT (u :: l)).size):=by rw [T.size_eq]; show 1 + T.sizes [t,tupT (u :: l)]=_; simp [T.sizes]
  rw [tupT,e,T.sizes,List.length_cons (a:=t)]
  omega
def Szd (f : PS→T × PS) : Prop:=∀ p : PS,(f p).1.size + 2 * p.at'≤2 * (f p).2.at' + 1
theorem uGW {l : List Tk} {f : PS→T × PS} (hs : Szd f) : ∀ (n : Nat) (p : PS) (out : List T),T.sizes (uB0 l f n p out).1 + (uB0 l f n p out).1.length + 2 * p.at'≤T.sizes out + out.length + 2 * (uB0 l f n p out).2.at'
 | 0,p,out=>by simp [uB0]
 | n + 1,p,out=>by
  rw [uB0]
  split
  ·have h1:=hs p.go
   have h2:=uGW (l:=l) hs n (f p.go).2 (out++[(f p.go).1])
   have hg : p.go.at'=p.at' + 1:=rfl
   rw [List.length_append,List.length_singleton,uGn] at h2
   omega
  ·simp
theorem uEE {l : List Tk} {f : PS→T × PS} (hs : Szd f) (p : PS) : T.sizes (uBk l f p).1 + (uBk l f p).1.length + 2 * p.at'≤2 + 2 * (uBk l f p).2.at':=by
 have h1:=hs p
 have h2:=uGW (l:=l) hs (l.length + 1) (f p).2 [(f p).1]
 unfold uBk
 rw [List.length_singleton,T.sizes,T.sizes] at h2
 omega
theorem uKt {α : Type} {l : List Tk} {f : PS→α × PS} : ∀ (n : Nat) (p : PS) (out : List α),out≠[]→(uB0 l f n p out).1≠[]
 | 0,p,out,h=>h
 | n + 1,p,out,h=>by
  rw [uB0]
  split
  ·exact uKt n _ _ (by simp)
  ·exact h
theorem uDA (l : List Tk) : ∀ n : Nat,Szd (uAR l n)
 | 0,p=>by
  have : (default : T).size=1:=by rw [T.size_eq]; rfl
  show (default : T).size + _≤_
  rw [this]; show 1 + 2 * p.at'≤2 * p.at' + 1; omega
 | n + 1,p=>by
  have ih:=uDA l n
  have hf:=uCo l n
  rw [uAR]
  split
  ·have hg : p.go.at'=p.at' + 1:=rfl
   have h1:=ih p.go
   have h2:=(uBp l [44] (uAR l n p.go).2).1
   have h3:=uEE (l:=l) ih (uA7 l [44] (uAR l n p.go).2)
   have h4:=(uBp l [62] (uBk l (uAR l n) (uA7 l [44] (uAR l n p.go).2)).2).1
   have h5:=uHF ((uAR l n p.go).1 :: (uBk l (uAR l n) (uA7 l [44] (uAR l n p.go).2)).1) (by simp)
   rw [T.sizes,List.length_cons] at h5
   dsimp only
   omega
  ·have h1:=(uA4 l [] p).1
   split
   ·have hg : (uAA l [] p).2.go.at'=(uAA l [] p).2.at' + 1:=rfl
    split
    ·have hg2 : (uAA l [] p).2.go.go.at'=(uAA l [] p).2.at' + 2:=rfl
     have : (⟨3,(uAA l [] p).1,0,[]⟩ : T).size=1:=by rw [T.size_eq]; rfl
     dsimp only; omega
    ·have h3:=uEE (l:=l) ih (uAA l [] p).2.go
     have h4:=(uBp l [41] (uBk l (uAR l n) (uAA l [] p).2.go).2).1
     have h5 : (uBk l (uAR l n) (uAA l [] p).2.go).1≠[]:=uKt _ _ _ (by simp)
     have h6:=List.length_pos_iff.2 h5
     have : (⟨3,(uAA l [] p).1,0,(uBk l (uAR l n) (uAA l [] p).2.go).1⟩ : T).size=1 + T.sizes (uBk l (uAR l n) (uAA l [] p).2.go).1:=by rw [T.size_eq]; rfl
     dsimp only; omega
   ·have : (⟨2,(uAA l [] p).1,0,[]⟩ : T).size=1:=by rw [T.size_eq]; rfl
    dsimp only; omega
structure Nar.Sm (n : Nar) (M : Nat) : Prop where
 steps : ∀ s ∈ n.steps,s.msg.size≤M
 goals : ∀ g ∈ n.goals,T.sizes g.data≤M
theorem uJT {l : List Tk} (line : Int) {p : PS} (hp : p.at'≤l.length) : (uCL l line p).1.msg.size≤2 * l.length + 2:=by
 have h:=(uF4 l line p).2 hp
 have := uDA l (l.length + 1) (uA7 l [58] (uAA l [] (uA7 l [62] (uA7 l [45] (uAA l [] p).2))).2)
 have h2 : (uAR l (l.length + 1) (uA7 l [58] (uAA l [] (uA7 l [62] (uA7 l [45] (uAA l [] p).2))).2)).2.at'≤l.length:=h
 show (uAR l (l.length + 1) (uA7 l [58] (uAA l [] (uA7 l [62] (uA7 l [45] (uAA l [] p).2))).2)).1.size≤_
 omega
theorem uJ9 {l : List Tk} (line : Int) {p : PS} (hp : p.at'≤l.length) : T.sizes (uCr l line p).1.data≤2 * l.length + 2:=by
 have h:=(uG2 l line p).2 hp
 have := uEE (l := l) (uDA l (l.length + 1)) (uA7 l [58] (if uBC (1 + uBA kindW (uAA l kindW p).1)=true then uAA l [] (uAA l [] (uAA l kindW p).2).2 else ([],(uAA l [] (uAA l kindW p).2).2)).2)
 have h2 : (uBk l (uAR l (l.length + 1)) (uA7 l [58] (if uBC (1 + uBA kindW (uAA l kindW p).1)=true then uAA l [] (uAA l [] (uAA l kindW p).2).2 else ([],(uAA l [] (uAA l kindW p).2).2)).2)).2.at'≤l.length:=h
 show T.sizes (uBk l (uAR l (l.length + 1)) (uA7 l [58] (if uBC (1 + uBA kindW (uAA l kindW p).1)=true then uAA l [] (uAA l [] (uAA l kindW p).2).2 else ([],(uAA l [] (uAA l kindW p).2).2)).2)).1≤_
 omega
theorem uMs {l : List Tk} {n : Nar} {p : PS} (h : n.Sm (2 * l.length + 2)) (hp : p.at'≤l.length) : (uCl l n p).1.Sm (2 * l.length + 2):=by
 have hq:=(uA4 l uB6 p).2 hp
 show (uBY l n (uCH l p) (uAA l uB6 p).1 (uAA l uB6 p).2).1.Sm _
 unfold uBY
 repeat' split
 ·exact ⟨h.steps,h.goals⟩
 ·exact ⟨h.steps,h.goals⟩
 ·exact ⟨h.steps,h.goals⟩
 ·refine ⟨fun s hs=>?_,h.goals⟩
  rcases List.mem_append.1 hs with q | q
  ·exact h.steps s q
  ·simp at q; subst q; exact uJT _ hq
 ·refine ⟨h.steps,fun g hg=>?_⟩
  rcases List.mem_append.1 hg with q | q
  ·exact h.goals g q
  ·simp at q; subst q; exact uJ9 _ hq
 ·exact h
end Go.Proofs.YtnjjdbapadkomaaGreatDoor
namespace Go.Abs
variable {Z : Pg}
theorem uLA {N : Nat} {ops : Array Oper} {st : St} {o : Oper} {d : Nat} {x : X} (hg : uA3 ops st o=some false) (hd : o.dst=some d) (hN : Nat.ble (d + 1) N=true) : Op1 Z N ops o st (st.put d (false,x)):=by
 intro E G a w hr hE K Q hK
 have hdN : d < E.nt:=by rw [hE.nt]; exact Nat.le_of_ble_eq_true hN
 rw [uBs hr hg,hd]
 rw [hd] at hK
 simp only [Bool.false_eq_true,if_false]
 exact hK G undef w (hr.put hdN (fun hf=>by simp at hf) (fun _=>rfl))
theorem uKk {N : Nat} {ops : Array Oper} {rest : List Oper} {K : St→Prop} {st : St} {o : Oper} {d : Nat} (x : X) (hg : uA3 ops st o=some false) (hd : o.dst=some d) (hN : Nat.ble (d + 1) N=true)
  (h : AL Z N ops rest K (st.put d (false,x))) : AL Z N ops (o :: rest) K st:=uCS (uLA hg hd hN) h
end Go.Abs
namespace Go.Proofs.YtnjjdbapadkomaaGreatDoor
open Go Go.Abs
theorem uMP (l : List Tk) (hl : l.length≤2000000) (htup : ∀ ts : List T,0 < ts.length→ts.length≤3000000→Ctr sys 115 [xl ts] [] (xm (tupT ts)) none []) :
  ∀ (n : Nat) (p : PS),p.at'≤l.length→l.length - p.at' < n→Ctr sys 66 [xpp] [pbx l p] (xm (uAR l n p).1) none [pbx l (uAR l n p).2]:=by
 have htup2 : ∀ (ts : List T) (rs : List (List C)),rs=T.rows ts→0 < ts.length→ts.length≤3000000→Ctr sys 115 [.v (.c (.sl 4 rs))] [] (xm (tupT ts)) none []:=by
  intro ts rs h; subst h; exact htup ts
 intro n
 induction n with
 | zero=>intro p _ h; omega
 | succ n ih =>
  intro p hp hn
  have hrl:=Tk.rows_len l
  have hg : ∀ q : PS,q.go.at'=q.at' + 1:=fun _=>rfl
  refine uAv Tryz.func66 rfl rfl rfl rfl rfl rfl ?_;refine uAe (uAb ?_);refine uAu rfl (uAP rfl rfl rfl) ?_;refine uAf ?_;refine uAe ?_;refine uAe (uAb ?_);refine uAa rfl rfl rfl (uAc rfl gU) ?_;refine uAI (.o 0) rfl rfl rfl rfl rfl rfl (uBO _ _ _ (by omega) (by first | omega | (dsimp only; omega) | (simp only [PS.go]; omega))) rfl (by rfl) (by rfl) rfl rfl rfl ?_;refine uAf ?_;refine uAl rfl (fun hc=>?_) (fun hc=>?_)
  ·try simp only [nn,uAh,T.rows_len,Tk.rows_len] at hc
   have hlt:=(uCj hc).1
   have hs : symP l p [60]=p.go:=by rw [symP,if_pos hc]
   have he : uAR l (n + 1) p=(tupT ((uAR l n p.go).1 :: (uBk l (uAR l n) (uA7 l [44] (uAR l n p.go).2)).1),uA7 l [62] (uBk l (uAR l n) (uA7 l [44] (uAR l n p.go).2)).2):=by rw [uAR,if_pos hc]
   have hgp:=hg p
   have a1:=uCo l n p.go
   have a2:=uBp l [44] (uAR l n p.go).2
   generalize hq1 : (uA7 l [44] (uAR l n p.go).2)=q1 at *
   rw [hs]
   refine uAe (uAb ?_);refine uAa rfl rfl rfl (uAc rfl gU) ?_;refine uAI (.o 0) rfl rfl rfl rfl rfl rfl (ih p.go (by omega) (by omega)) rfl (by rfl) (by rfl) rfl rfl rfl ?_;refine uAK (xs:=[_]) rfl rfl rfl rfl rfl rfl rfl rfl rfl gU rfl ?_;refine uAu rfl (uAH (.inr rfl) rfl rfl rfl) ?_;refine uAf ?_;refine uAn (s:=⟨[(0,_,_),(2,_,_),(3,_,_)],[(.l 2,_),(.o 0,_)],[(.t 3,_)],[]⟩) (uAj (⟨sx rfl,sx rfl,sx rfl,trivial⟩) (⟨sx rfl,sx rfl,trivial⟩) (⟨rfl,trivial⟩)) ?_;refine uAe (uAb ?_);refine uAa rfl rfl rfl (uAc rfl gU) ?_;refine uAI (.o 0) rfl rfl rfl rfl rfl rfl (uBc _ _ _ (by omega) (by first | omega | (dsimp only; omega) | (simp only [PS.go]; omega))) rfl (by rfl) (by rfl) rfl rfl rfl ?_;refine uAf ?_;refine uAe ?_;refine uAt ?_
   rw [hq1]
   refine uAW (ι:=PS × List T) { t:=[(0,_,_),(2,_,_)],bx:=[(.l 2,_)],ow:=[(.t 3,_)] } (fun q=>[(3,true,xl q.2)]) (fun q=>[((.o 0),pbx l q.1)]) (fun q=>q1.at'≤q.1.at'∧q.1.at'≤l.length∧q.2.length≤q.1.at'∧1≤q.2.length ∧ ∃ k,l.length + 1≤k + q.1.at'∧(∃ o2,q.2=(uAR l n p.go).1 :: o2∧uB0 l (uAR l n) k (uAR l n q.1).2 (o2++[(uAR l n q.1).1])=uBk l (uAR l n) q1)) (fun q=>l.length - q.1.at') ((q1,[(uAR l n p.go).1])) (⟨by simp,by dsimp only; omega,by dsimp only [List.length_singleton]; omega,by simp,_,by dsimp only; omega,[],rfl,rfl⟩) (uAj (⟨⟨_,rfl,by simp [T.rows_eq]⟩,⟨sx rfl,sx rfl,trivial⟩⟩) (⟨sx rfl,sx rfl,trivial⟩) (⟨rfl,trivial⟩)) ?_
   intro q hok
   dsimp only [List.cons_append,List.nil_append] at *
   obtain ⟨q,out⟩:=q
   dsimp only at hok ⊢
   obtain ⟨hq0,hq,ho,ho1,k,hk,o2,rfl,hi⟩:=hok
   have hqb : l.length - q.at' < n:=by omega
   have b1:=uCo l n q
   have hih:=ih q hq hqb
   have hro:=T.rows_len ((uAR l n p.go).1 :: o2)
   obtain ⟨r,hr⟩ : ∃ r,uAR l n q=r:=⟨_,rfl⟩
   obtain ⟨t2,at2,bad2⟩:=r
   rw [hr] at hih b1 hi
   dsimp only at hih b1 hi
   have b2:=b1.2 hq
   have hne : o2++[t2]≠[]:=by simp
   cases bad2
   ·refine uAt ?_
    refine uAe (uAb ?_);refine uAu rfl (uAH (.inl rfl) rfl rfl rfl) ?_;refine uAa rfl rfl rfl (uAc rfl gU) ?_;refine uAI (.o 0) rfl rfl rfl rfl rfl rfl (hih) rfl (by rfl) (by rfl) rfl rfl rfl ?_;refine uAK (xs:=[_]) rfl rfl rfl rfl rfl rfl rfl rfl rfl gU rfl ?_;refine uAu rfl (uAZ rfl rfl rfl rfl rfl rfl rfl (by first | omega | (simp only [List.length_append,List.length_singleton,T.rows_len]; omega)) (by first | omega | (simp only [List.length_append,List.length_singleton,T.rows_len]; omega))) ?_;refine uAu rfl (uAH (.inr rfl) rfl rfl rfl) ?_;refine uAf ?_;refine uAn (s:=⟨[(0,_,_),(2,_,_),(3,_,_)],[(.l 2,_),(.o 0,_)],[(.t 3,_)],[]⟩) (uAj (⟨sx rfl,sx rfl,sx rfl,trivial⟩) (⟨sx rfl,sx rfl,trivial⟩) (⟨rfl,trivial⟩)) ?_;refine uAe (uAb ?_);refine uAa rfl rfl rfl (uAc rfl gU) ?_;refine uAa rfl rfl rfl (uAx rfl gU) ?_;refine uAa rfl rfl rfl (uAg rfl gU rfl rfl) ?_;refine uAa rfl rfl rfl (uAm rfl gU rfl rfl rfl rfl) ?_;refine uAa rfl rfl rfl (uAc rfl gU) ?_;refine uAa rfl rfl rfl (uAc rfl gU) ?_;refine uAI (.o 0) rfl rfl rfl rfl rfl rfl (uBO _ _ _ (by omega) (by first | omega | (dsimp only; omega) | (simp only [PS.go]; omega))) rfl (by rfl) (by rfl) rfl rfl rfl ?_;refine uAa rfl rfl rfl (uA1 rfl (fun hh=>hh)) ?_;refine uAa rfl rfl rfl (uAM rfl rfl gU (fun _ hi=>gP rfl hi)) ?_
    refine uAf ?_;refine uAn (s:=⟨[(0,_,_),(2,_,_),(3,_,_),(25,_,_)],[(.l 2,_),(.o 0,_)],[(.t 3,_)],[]⟩) (uAj (⟨sx rfl,sx rfl,sx rfl,sx rfl,trivial⟩) (⟨sx rfl,sx rfl,trivial⟩) (⟨rfl,trivial⟩)) ?_;refine uAl rfl (fun hc2=>?_) (fun hc2=>?_)
    ·try simp only [nn,uAh,T.rows_len,Tk.rows_len] at hc2
     have hz : symQ l ⟨at2,false⟩ [44]=false:=by simpa using hc2
     have hs2 : symP l ⟨at2,false⟩ [44]=⟨at2,false⟩:=by rw [symP,hz]; rfl
     rw [uC2 hz] at hi
     rw [hs2]
     refine uAL ?_
     repeat (first | refine uAF ?_ | refine uAE ?_ | refine uAB rfl ?_)
     refine uAe (uAb ?_);refine uAa rfl rfl rfl (uAc rfl gU) ?_;refine uAI (.o 0) rfl rfl rfl rfl rfl rfl (uBc _ _ _ (by omega) (by first | omega | (dsimp only; omega) | (simp only [PS.go]; omega))) rfl (by rfl) (by rfl) rfl rfl rfl ?_;refine uAf ?_;refine uAe (uAb ?_);refine uAa rfl rfl rfl (uAc rfl gU) ?_;refine uAw rfl rfl rfl rfl rfl rfl gU gU (htup2 ((uAR l n p.go).1 :: (o2++[t2])) _ (by simp [T.rows_eq]) (by simp) (by simp only [List.length_cons,List.length_append,List.length_nil] at ho ⊢; omega)) rfl ?_;refine uAu rfl (uAz rfl rfl rfl rfl rfl rfl rfl) ?_;refine uAf ?_;refine uAo ?_
     repeat (first | refine tR ?_ | refine bR ?_)
     refine uAq rfl ?_ (⟨⟨_,rfl,?_⟩,trivial⟩)
     (all_goals first | (rw [he,← hi]; done) | (rw [he,← hi]; rfl))
    ·try simp only [nn,uAh,T.rows_len,Tk.rows_len] at hc2
     have hz : symQ l ⟨at2,false⟩ [44]=true:=by simpa using hc2
     have hlt2:=(uCj hz).1
     have hs2 : symP l ⟨at2,false⟩ [44]=⟨at2 + 1,false⟩:=by rw [symP,if_pos hz]; rfl
     obtain ⟨k,rfl⟩ : ∃ j,k=j + 1:=⟨k - 1,by dsimp only at hlt2; omega⟩
     rw [uGN hz] at hi
     rw [hs2]
     dsimp only at hlt2
     refine uAp ?_;refine ⟨(⟨at2 + 1,false⟩,(uAR l n p.go).1 :: (o2++[t2])),?_,?_,uAj (⟨⟨_,rfl,?_⟩,⟨sx rfl,sx rfl,trivial⟩⟩) (⟨⟨_,rfl,?_⟩,⟨sx rfl,trivial⟩⟩) (⟨rfl,trivial⟩)⟩
     ·refine ⟨by dsimp only; omega,by dsimp only; omega,?_,by simp,k,by dsimp only; omega,o2++[t2],rfl,hi⟩
      simp only [List.length_cons,List.length_append,List.length_nil] at ho ⊢; omega
     ·dsimp only; omega
     ·exact tx (uF3 _ _)
     ·rfl
   ·skip
    refine uAt ?_;refine uAe (uAb ?_);refine uAu rfl (uAH (.inl rfl) rfl rfl rfl) ?_;refine uAa rfl rfl rfl (uAc rfl gU) ?_;refine uAI (.o 0) rfl rfl rfl rfl rfl rfl (hih) rfl (by rfl) (by rfl) rfl rfl rfl ?_;refine uAK (xs:=[_]) rfl rfl rfl rfl rfl rfl rfl rfl rfl gU rfl ?_;refine uAu rfl (uAZ rfl rfl rfl rfl rfl rfl rfl (by first | omega | (simp only [List.length_append,List.length_singleton,T.rows_len]; omega)) (by first | omega | (simp only [List.length_append,List.length_singleton,T.rows_len]; omega))) ?_;refine uAu rfl (uAH (.inr rfl) rfl rfl rfl) ?_;refine uAf ?_;refine uAn (s:=⟨[(0,_,_),(2,_,_),(3,_,_)],[(.l 2,_),(.o 0,_)],[(.t 3,_)],[]⟩) (uAj (⟨sx rfl,sx rfl,sx rfl,trivial⟩) (⟨sx rfl,sx rfl,trivial⟩) (⟨rfl,trivial⟩)) ?_;refine uAe (uAb ?_);refine uAa rfl rfl rfl (uAc rfl gU) ?_;refine uAa rfl rfl rfl (uAx rfl gU) ?_;refine uAa rfl rfl rfl (uAg rfl gU rfl rfl) ?_;refine uAa rfl rfl rfl (uAm rfl gU rfl rfl rfl rfl) ?_;refine uAa rfl rfl rfl (uAc rfl gU) ?_;refine uAa rfl rfl rfl (uAc rfl gU) ?_;refine uKk (xb false) rfl rfl rfl ?_;refine uAa rfl rfl rfl (uA1 rfl (fun hh=>hh)) ?_;refine uAa rfl rfl rfl (uAM rfl rfl gU (fun _ hi=>gP rfl hi)) ?_;refine uAf ?_;refine uAn (s:=⟨[(0,_,_),(2,_,_),(3,_,_),(25,_,_)],[(.l 2,_),(.o 0,_)],[(.t 3,_)],[]⟩) (uAj (⟨sx rfl,sx rfl,sx rfl,sx rfl,trivial⟩) (⟨sx rfl,sx rfl,trivial⟩) (⟨rfl,trivial⟩)) ?_
    refine uAl rfl (fun hc2=>?_) (fun hc2=>?_)
    ·try simp only [nn,uAh,T.rows_len,Tk.rows_len] at hc2
     have hz : symQ l ⟨at2,true⟩ [44]=false:=rfl
     rw [uC2 hz] at hi
     refine uAL ?_
     repeat (first | refine uAF ?_ | refine uAE ?_ | refine uAB rfl ?_)
     refine uAe (uAb ?_);refine uAa rfl rfl rfl (uAc rfl gU) ?_;refine uAI (.o 0) rfl rfl rfl rfl rfl rfl (uBc _ _ _ (by omega) (by first | omega | (dsimp only; omega) | (simp only [PS.go]; omega))) rfl (by rfl) (by rfl) rfl rfl rfl ?_;refine uAf ?_;refine uAe (uAb ?_);refine uAa rfl rfl rfl (uAc rfl gU) ?_;refine uAw rfl rfl rfl rfl rfl rfl gU gU (htup2 ((uAR l n p.go).1 :: (o2++[t2])) _ (by simp [T.rows_eq]) (by simp) (by simp only [List.length_cons,List.length_append,List.length_nil] at ho ⊢; omega)) rfl ?_;refine uAu rfl (uAz rfl rfl rfl rfl rfl rfl rfl) ?_;refine uAf ?_;refine uAo ?_
     repeat (first | refine tR ?_ | refine bR ?_)
     refine uAq rfl ?_ (⟨⟨_,rfl,?_⟩,trivial⟩)
     (all_goals first | (rw [he,← hi]; done) | (rw [he,← hi]; rfl))
    ·exfalso
     simp at hc2
  ·try simp only [nn,uAh,T.rows_len,Tk.rows_len] at hc
   have hs : symP l p [60]=p:=by rw [symP,hc]; rfl
   have he : uAR l (n + 1) p=if symQ l (uAA l [] p).2 [40]=true then
     (if symQ l (uAA l [] p).2.go [41]=true then (⟨3,(uAA l [] p).1,0,[]⟩,(uAA l [] p).2.go.go)
     else (⟨3,(uAA l [] p).1,0,(uBk l (uAR l n) (uAA l [] p).2.go).1⟩,uA7 l [41] (uBk l (uAR l n) (uAA l [] p).2.go).2))
    else (⟨2,(uAA l [] p).1,0,[]⟩,(uAA l [] p).2):=by rw [uAR,if_neg (by rw [hc]; simp)]
   have b1:=uA4 l [] p
   rw [hs]
   refine uAp ?_;refine uAe (uAb ?_);refine uAa rfl rfl rfl (uAc rfl gU) ?_;refine uAI (.o 0) rfl rfl rfl rfl rfl rfl (uBy l p [] (by omega) (by omega)) rfl (by rfl) (by rfl) rfl rfl rfl ?_;refine uAa rfl rfl rfl (uAU rfl Tryz.underlying39 rfl gU) ?_;refine uAu rfl (uAP rfl rfl rfl) ?_;refine uAu rfl (uAz rfl rfl rfl rfl rfl rfl rfl) ?_;refine uAf ?_;refine uAn (s:=⟨[(0,_,_),(2,_,_),(4,_,_)],[(.l 2,_),(.l 4,_),(.o 0,_)],[],[]⟩) (uAj (⟨sx rfl,sx rfl,sx rfl,trivial⟩) (⟨sx rfl,sx rfl,sx rfl,trivial⟩) trivial) ?_;refine uAe ?_;refine uAe (uAb ?_);refine uAa rfl rfl rfl (uAc rfl gU) ?_;refine uAI (.o 0) rfl rfl rfl rfl rfl rfl (uBO _ _ _ (by omega) (by first | omega | (dsimp only; omega) | (simp only [PS.go]; omega))) rfl (by rfl) (by rfl) rfl rfl rfl ?_;refine uAa rfl rfl rfl (uA1 rfl gU) ?_;refine uAf ?_;refine uAl rfl (fun hc2=>?_) (fun hc2=>?_)
   ·try simp only [nn,uAh,T.rows_len,Tk.rows_len] at hc2
    rw [if_neg (by rw [hc2]; simp)] at he
    have hs2 : symP l (uAA l [] p).2 [40]=(uAA l [] p).2:=by rw [symP,hc2]; rfl
    rw [hs2]
    refine uAe (uAb ?_);refine uAa rfl rfl rfl (uAs rfl gU rfl rfl rfl rfl rfl) ?_;refine uAu rfl (uAz rfl rfl rfl rfl rfl rfl rfl) ?_;refine uAf ?_;refine uAo ?_
    repeat (first | refine tR ?_ | refine bR ?_)
    refine uAq rfl ?_ (⟨⟨_,rfl,?_⟩,trivial⟩)
    (all_goals first | (rw [he]; done) | (rw [he]; rfl))
   ·try simp only [nn,uAh,T.rows_len,Tk.rows_len] at hc2
    rw [if_pos hc2] at he
    have hlt:=(uCj hc2).1
    have hg2:=hg (uAA l [] p).2
    have hs2 : symP l (uAA l [] p).2 [40]=(uAA l [] p).2.go:=by rw [symP,if_pos hc2]
    rw [hs2]
    refine uAp ?_;refine uAe (uAb ?_);refine uAa rfl rfl rfl (uAg rfl gU rfl rfl) ?_;refine uAu rfl (uAz rfl rfl rfl rfl rfl rfl rfl) ?_;refine uAf ?_;refine uAe ?_;refine uAe (uAb ?_);refine uAa rfl rfl rfl (uAc rfl gU) ?_;refine uAI (.o 0) rfl rfl rfl rfl rfl rfl (uBO _ _ _ (by omega) (by first | omega | (dsimp only; omega) | (simp only [PS.go]; omega))) rfl (by rfl) (by rfl) rfl rfl rfl ?_;refine uAa rfl rfl rfl (uA1 rfl gU) ?_;refine uAf ?_;refine uAn (s:=⟨[(0,_,_),(2,_,_),(4,_,_),(40,_,_)],[(.l 2,_),(.l 4,_),(.o 0,_)],[],[]⟩) (uAj (⟨sx rfl,sx rfl,sx rfl,sx rfl,trivial⟩) (⟨sx rfl,sx rfl,sx rfl,trivial⟩) trivial) ?_;refine uAl rfl (fun hc3=>?_) (fun hc3=>?_)
    ·try simp only [nn,uAh,T.rows_len,Tk.rows_len] at hc3
     rw [if_neg (by rw [hc3]; simp)] at he
     have hs3 : symP l (uAA l [] p).2.go [41]=(uAA l [] p).2.go:=by rw [symP,hc3]; rfl
     have a3:=uCM (uCo l n) (uAA l [] p).2.go
     rw [hs3]
     refine uAe (uAb ?_);refine uAa rfl rfl rfl (uAc rfl gU) ?_;refine uAI (.o 0) rfl rfl rfl rfl rfl rfl (uIR l n hl ih (uAA l [] p).2.go (by omega) (by omega)) rfl (by rfl) (by rfl) rfl rfl rfl ?_;refine uAa rfl rfl rfl (uAg rfl gU rfl rfl) ?_;refine uAu rfl (uAz rfl rfl rfl rfl rfl rfl rfl) ?_;refine uAf ?_;refine uAb ?_;refine uAa rfl rfl rfl (uAc rfl gU) ?_;refine uAI (.o 0) rfl rfl rfl rfl rfl rfl (uBc _ _ _ (by omega) (by first | omega | (dsimp only; omega) | (simp only [PS.go]; omega))) rfl (by rfl) (by rfl) rfl rfl rfl ?_;refine uAf ?_;refine uAn (s:=⟨[(2,_,_),(4,_,_)],[(.l 2,_),(.l 4,_),(.o 0,_)],[],[]⟩) (uAj (⟨sx rfl,sx rfl,trivial⟩) (⟨sx rfl,sx rfl,sx rfl,trivial⟩) trivial) ?_;refine uAe (uAb ?_);refine uAa rfl rfl rfl (uAs rfl gU rfl rfl rfl rfl rfl) ?_;refine uAu rfl (uAz rfl rfl rfl rfl rfl rfl rfl) ?_;refine uAf ?_;refine uAo ?_
     repeat (first | refine tR ?_ | refine bR ?_)
     refine uAq rfl ?_ (⟨⟨_,rfl,?_⟩,trivial⟩)
     (all_goals first | (rw [he]; done) | (rw [he]; rfl))
    ·try simp only [nn,uAh,T.rows_len,Tk.rows_len] at hc3
     rw [if_pos hc3] at he
     have hs3 : symP l (uAA l [] p).2.go [41]=(uAA l [] p).2.go.go:=by rw [symP,if_pos hc3]
     rw [hs3]
     refine uAp ?_;refine uAe (uAb ?_);refine uAa rfl rfl rfl (uAs rfl gU rfl rfl rfl rfl rfl) ?_;refine uAu rfl (uAz rfl rfl rfl rfl rfl rfl rfl) ?_;refine uAf ?_;refine uAo ?_
     repeat (first | refine tR ?_ | refine bR ?_)
     refine uAq rfl ?_ (⟨⟨_,rfl,?_⟩,trivial⟩)
     (all_goals first | (rw [he]; done) | (rw [he]; rfl))
end Go.Proofs.YtnjjdbapadkomaaGreatDoor
