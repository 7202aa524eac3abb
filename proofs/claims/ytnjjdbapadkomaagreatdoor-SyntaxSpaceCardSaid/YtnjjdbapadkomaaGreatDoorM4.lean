/- Our abstract program logic and contracts of this seat's functions, part 4: no statement of its own (long names of ours are shortened by a program). -/
import Derived.Test.YtnjjdbapadkomaaGreatDoorM3
import Derived.Lib.Join
set_option linter.unusedVariables false
set_option linter.unusedSimpArgs false
namespace Go.Proofs.YtnjjdbapadkomaaGreatDoor
open Go Go.Abs
abbrev xnum (s : List UInt8) (r : Bool × Nat × Int) : X:=.tup [.c (.s (s.take r.2.1)), .c (.i .i64 r.2.2), .c (.b r.1)]
theorem uH6 (s : List UInt8) (hs : s.length≤2000000) : Ctr sys 125 [xs s] [] (xnum s (numA s 0 0)) none []:=by
 refine uAz Tryz.func125 rfl rfl rfl rfl rfl rfl ?_;refine uAe (uAb ?_);refine uAa rfl rfl rfl (uAd rfl gU) ?_;refine uAa rfl rfl rfl (uAd rfl gU) ?_;refine uAa rfl rfl rfl (uAd rfl gU) ?_;refine uAf ?_;refine uAe (uAb ?_);refine uAa rfl rfl rfl (uAd rfl gU) ?_;refine uAa rfl rfl rfl (uAd rfl gU) ?_;refine uAf ?_;refine uAm (s:=⟨[(0,_,_),(5,_,_),(6,_,_)],[],[],[]⟩) (uAj (⟨sx rfl,sx rfl,sx rfl,trivial⟩) trivial trivial) ?_;refine uAe ?_;refine uAs ?_;refine uAZ (ι:=Nat × Int) { t:=[(0,_,_)],bx:=[],ow:=[] } (fun p=>[(5,true,xi (p.1 : Int)),(6,true,xi p.2)]) (fun p=>[]) (fun p=>p.1≤s.length∧0≤p.2∧p.2≤9223372036854775807∧numA (s.drop p.1) p.1 p.2=numA s 0 0) (fun p=>s.length - p.1) ((0,0)) (⟨by simp,by simp,by simp,rfl⟩) (uAj (⟨sx rfl,sx rfl,sx rfl,trivial⟩) trivial trivial) ?_
 intro p hok
 dsimp only [List.cons_append,List.nil_append] at *
 obtain ⟨k,v⟩:=p
 dsimp only at hok ⊢
 obtain ⟨hk,hv0,hv1,hi⟩:=hok
 refine uAe ?_;refine uAe (uAb ?_);refine uAa rfl rfl rfl (uAc rfl gU) ?_;refine uAa rfl rfl rfl (uAc rfl gU) ?_;refine uBk rfl rfl rfl rfl rfl gU (Tryz.underlying9) ?_ (fun hh=>by simp at hh); intro hlen;refine uAa rfl rfl rfl (uAk rfl rfl gU gU rfl) ?_;refine uAa rfl rfl rfl (uAc rfl gU) ?_;refine uAa rfl rfl rfl (uAc rfl gU) ?_;refine uAa rfl rfl rfl (uAc rfl gU) ?_;refine uAa rfl rfl rfl (uAD (j:=k) rfl rfl (fun hh=>hh) (fun hh=>hh) Tryz.underlying9 (by first | omega | (simp at hh ⊢; omega)) (fun hh=>by first | omega | (simp at hh ⊢; omega))) ?_;refine uAA rfl rfl rfl rfl rfl rfl gU (fun hh=>gA ((fun hh=>hh) hh) (rfl)) (uC8 _ _ rfl) rfl ?_;refine uAa rfl rfl rfl (uAk rfl rfl (fun hh=>hh) gU rfl) ?_;refine uAa rfl rfl rfl (uAX rfl rfl gU (fun _ hi=>gP rfl hi)) ?_;refine uAf ?_;refine uAm (s:=⟨[(0,_,_),(5,_,_),(6,_,_),(18,_,_)],[],[],[]⟩) (uAj (⟨sx rfl,sx rfl,sx rfl,sx rfl,trivial⟩) trivial trivial) ?_;refine uAl rfl (fun hc=>?_) (fun hc=>?_)
 ·try simp only [nn,uAi,Tk.rows_len] at hc
  have hd:=(uDI (s.getD k 0)).2.1.1 hc.2
  have hd2:=uHr hd
  rw [uA6 (by omega),numA,if_pos hd] at hi
  refine uAp ?_;refine uAs ?_;refine uAe (uAb ?_);refine uAa rfl rfl rfl (uAc rfl gU) ?_;refine uAa rfl rfl rfl (uAc rfl gU) ?_;refine uAa rfl rfl rfl (uAD (j:=k) rfl rfl gU gU Tryz.underlying9 (by first | omega | (simp at hh ⊢; omega)) (fun hh=>by first | omega | (simp at hh ⊢; omega))) ?_;refine uAa rfl rfl rfl (uAq rfl rfl gU gU rfl (IntWalk.u8_in _ (by omega))) ?_;refine uAa rfl rfl rfl (uCG rfl gU ⟨_,Tryz.underlying5⟩ (Tryz.underlying2) (IntWalk.i64_in _ (by omega))) ?_;refine uAa rfl rfl rfl (uAd rfl gU) ?_;refine uAf ?_;refine uAm (s:=⟨[(0,_,_),(5,_,_),(6,_,_),(7,_,_)],[],[],[]⟩) (uAj (⟨sx rfl,sx rfl,sx rfl,sx rfl,trivial⟩) trivial trivial) ?_;refine uAe ?_;refine uAe (uAb ?_);refine uAa rfl rfl rfl (uAc rfl gU) ?_;refine uAa rfl rfl rfl (uAc rfl gU) ?_;refine uAa rfl rfl rfl (uAq rfl rfl gU gU rfl (IntWalk.i64_in _ (by omega))) ?_;refine uAa rfl rfl rfl (uDm rfl rfl gU gU (fun hh=>by first | omega | (simp at hh ⊢; omega)) (fun hh=>(congrArg IntKind.i64.wrap (Int.tdiv_eq_ediv_of_nonneg (by first | omega | (simp at hh ⊢; omega)))).trans (IntWalk.i64_in _ (by omega)))) ?_;refine uAa rfl rfl rfl (uAk rfl rfl gU gU rfl) ?_;refine uAf ?_;refine uAm (s:=⟨[(0,_,_),(5,_,_),(6,_,_),(7,_,_),(28,_,_)],[],[],[]⟩) (uAj (⟨sx rfl,sx rfl,sx rfl,sx rfl,sx rfl,trivial⟩) trivial trivial) ?_
  refine uAl rfl (fun hc2=>?_) (fun hc2=>?_)
  ·try simp only [nn,uAi,Tk.rows_len] at hc2
   rw [if_pos (by omega)] at hi
   refine uAe (uAb ?_);refine uAa rfl rfl rfl (uAd rfl gU) ?_;refine uAa rfl rfl rfl (uAd rfl gU) ?_;refine uAa rfl rfl rfl (uAd rfl gU) ?_;refine uAf ?_;refine uAo ?_
   repeat (first | refine tR ?_ | refine bR ?_)
   refine uAr rfl ?_ trivial
   (rw [← hi]; rfl)
  ·try simp only [nn,uAi,Tk.rows_len] at hc2
   rw [if_neg (by omega)] at hi
   refine uAp ?_;refine uAe (uAb ?_);refine uAa rfl rfl rfl (uAc rfl gU) ?_;refine uAa rfl rfl rfl (uAq rfl rfl gU gU rfl (IntWalk.i64_in _ (by omega))) ?_;refine uAa rfl rfl rfl (uAc rfl gU) ?_;refine uAa rfl rfl rfl (uAq rfl rfl gU gU rfl (IntWalk.i64_in _ (by omega))) ?_;refine uAa rfl rfl rfl (uAd rfl gU) ?_;refine uAf ?_;refine uAm (s:=⟨[(0,_,_),(5,_,_),(6,_,_)],[],[],[]⟩) (uAj (⟨sx rfl,sx rfl,sx rfl,trivial⟩) trivial trivial) ?_;refine uAb ?_;refine uAa rfl rfl rfl (uAc rfl gU) ?_;refine uAa rfl rfl rfl (uAq rfl rfl gU gU rfl (IntWalk.i64_in _ (by omega))) ?_;refine uAa rfl rfl rfl (uAd rfl gU) ?_;refine uAf ?_;refine ⟨(k + 1,10 * v + (((s.getD k 0).toNat : Int) - 48)),?_,?_,uAj (⟨⟨_,rfl,?_⟩,⟨⟨_,rfl,?_⟩,⟨sx rfl,trivial⟩⟩⟩) trivial trivial⟩
   all_goals (first | rfl | omega | exact ⟨by omega,by omega,by omega,hi⟩)
 ·try simp only [nn,uAi,Tk.rows_len] at hc
  have hn : numA (s.drop k) k v=(true,k,v):=by
   by_cases hlt : k < s.length
   ·rw [uA6 hlt,numA,if_neg]
    intro q
    have := (uDI (s.getD k 0)).2.1.2 q
    omega
   ·rw [List.drop_of_length_le (by omega)]; rfl
  rw [hn] at hi
  refine uAL ?_
  repeat (first | refine uAF ?_ | refine uAG ?_ | refine uAC rfl ?_)
  refine uAe (uAb ?_);refine uAa rfl rfl rfl (uAc rfl gU) ?_;refine uAa rfl rfl rfl (uAc rfl gU) ?_;refine uAa rfl rfl rfl (uA3 (h':=k) rfl gU Tryz.underlying9 (fun _=>rfl) (fun _=>⟨_,_,_,rfl,gU,by first | omega | (simp at hh ⊢; omega)⟩) (fun hh=>by first | omega | (simp at hh ⊢; omega)) (fun hh=>by first | omega | (simp at hh ⊢; omega))) ?_;refine uAa rfl rfl rfl (uAc rfl gU) ?_;refine uAa rfl rfl rfl (uAd rfl gU) ?_;refine uAa rfl rfl rfl (uAd rfl gU) ?_;refine uAa rfl rfl rfl (uAd rfl gU) ?_;refine uAf ?_;refine uAo ?_
  repeat (first | refine tR ?_ | refine bR ?_)
  refine uAr rfl ?_ trivial
  (rw [← hi]; rfl)
theorem uM4 (c : UInt8) : (uBe (c.toNat : Int)=true→clsE c=2)∧(uBh (c.toNat : Int)=true→clsE c=3)∧(c.toNat=34→clsE c=5)∧(uBe (c.toNat : Int)≠true→uBh (c.toNat : Int)≠true→c.toNat≠34→(symB c=true→clsE c=4∨clsE c=1)∧(symB c≠true→clsE c=0∨clsE c=1)):=by
 refine ⟨(uDI c).1.2,(uDI c).2.1.2,fun h=>?_,fun h1 h2 h3=>⟨fun h4=>?_,fun h4=>?_⟩⟩
 ·unfold clsE
  rw [if_neg (by simp [uBL]; omega),if_neg (by simp [uBe]; omega),if_neg (by simp [uBh]; omega),if_pos h]
 ·unfold clsE
  rw [if_neg h1,if_neg h2,if_neg h3,if_pos h4]
  split <;> simp
 ·unfold clsE
  rw [if_neg h1,if_neg h2,if_neg h3,if_neg h4]
  split <;> simp
theorem uNB {t u : Tk} {a b e : Int} (h : t=u) (h2 : a=b) : X.tup [.agg t.cells, .c (.i .i64 a), .c (.i .i64 e)]=X.tup [.agg u.cells, .c (.i .i64 b), .c (.i .i64 e)]:=by rw [h,h2]
theorem uJ3 (s : List UInt8) (k ki : Int) (h : 0 < s.length) (hs : s.length≤2000000) (hk : ki=k) (hw : clsE (s.getD 0 0)≠1) : Ctr sys 74 [xs s,xi ki] [] (xnx (uBt s k)) none []:=by
 subst hk
 have h1:=uJ5 s
 have h2 : (s.take (wdN s)).length=wdN s:=by rw [List.length_take]; omega
 have h3:=uF0 s h
 have h4:=uEf s 0 0 (by omega)
 have h5 : (s.take (numA s 0 0).2.1).length=(numA s 0 0).2.1:=by rw [List.length_take]; omega
 obtain ⟨c1,c2,c3,c4⟩:=uM4 (s.getD 0 0)
 obtain ⟨d1,d2,-⟩:=uDI (s.getD 0 0)
 refine uAz Tryz.func74 rfl rfl rfl rfl rfl rfl ?_;refine uAe (uAb ?_);refine uAt rfl (uAN rfl rfl rfl) ?_;refine uAa rfl rfl rfl (uAd rfl gU) ?_;refine uAa rfl rfl rfl (uAd rfl gU) ?_;refine uAf ?_;refine uAe ?_;refine uAe (uAb ?_);refine uAa rfl rfl rfl (uAc rfl gU) ?_;refine uAa rfl rfl rfl (uAD (j:=0) rfl rfl gU gU Tryz.underlying9 (by first | omega | (simp at hh ⊢; omega)) (fun hh=>by first | omega | (simp at hh ⊢; omega))) ?_;refine uAA rfl rfl rfl rfl rfl rfl gU gU (uC8 _ _ rfl) rfl ?_;refine uAf ?_;refine uAm (s:=⟨[(0,_,_),(1,_,_),(4,_,_),(15,_,_)],[(.l 4,_)],[],[]⟩) (uAj (⟨sx rfl,sx rfl,sx rfl,sx rfl,trivial⟩) (⟨sx rfl,trivial⟩) trivial) ?_;refine uAs ?_;refine uAe (uAb ?_);refine uAa rfl rfl rfl (uAk rfl rfl gU gU rfl) ?_;refine uAa rfl rfl rfl (uAd rfl gU) ?_;refine uAf ?_;refine uAl rfl (fun hc=>?_) (fun hc=>?_)
 ·try simp only [nn,uAi,Tk.rows_len] at hc
  rw [uBt,if_pos (d1.1 hc)]
  refine uAe (uAb ?_);refine uAa rfl rfl rfl (uAc rfl gU) ?_;refine uAA rfl rfl rfl rfl rfl rfl gU gU (uLU _ (by omega)) rfl ?_;refine uAa rfl rfl rfl (uAd rfl gU) ?_;refine uAf ?_;refine uAm (s:=⟨[(1,_,_),(4,_,_),(7,_,_)],[(.l 4,_)],[],[]⟩) (uAj (⟨sx rfl,sx rfl,sx rfl,trivial⟩) (⟨sx rfl,trivial⟩) trivial) ?_;refine uAe ?_;refine uAe (uAb ?_);refine uAa rfl rfl rfl (uAc rfl gU) ?_;refine uBk rfl rfl rfl rfl rfl gU (Tryz.underlying9) ?_ (fun hh=>by simp at hh); intro hlen;refine uAa rfl rfl rfl (uAk rfl rfl gU gU rfl) ?_;refine uAf ?_;refine uAl rfl (fun hc2=>?_) (fun hc2=>?_)
  ·try simp only [nn,uAi,Tk.rows_len] at hc2
   refine uAe (uAb ?_);refine uAa rfl rfl rfl (uAU rfl Tryz.underlying50 rfl gU) ?_;refine uAt rfl (uAx rfl rfl rfl rfl rfl rfl rfl) ?_;refine uAa rfl rfl rfl (uAd rfl gU) ?_;refine uAa rfl rfl rfl (uAd rfl gU) ?_;refine uAf ?_;refine uAo ?_
   repeat (first | refine tR ?_ | refine bR ?_)
   refine uAr rfl ?_ trivial
   (rw [if_pos (by omega)]; rfl)
  ·try simp only [nn,uAi,Tk.rows_len] at hc2
   refine uAp ?_;refine uAe (uAb ?_);refine uAa rfl rfl rfl (uAc rfl gU) ?_;refine uAa rfl rfl rfl (uAc rfl gU) ?_;refine uAa rfl rfl rfl (uAU rfl Tryz.underlying50 rfl gU) ?_;refine uAa rfl rfl rfl (uAc rfl gU) ?_;refine uBk rfl rfl rfl rfl rfl gU (Tryz.underlying9) ?_ (fun hh=>by simp at hh); intro hlen;refine uAt rfl (uAx rfl rfl rfl rfl rfl rfl rfl) ?_;refine uAa rfl rfl rfl (uAd rfl gU) ?_;refine uAa rfl rfl rfl (uAd rfl gU) ?_;refine uAf ?_;refine uAo ?_
   repeat (first | refine tR ?_ | refine bR ?_)
   refine uAr rfl ?_ trivial
   (rw [if_neg (by omega)]; exact uNB (t:=⟨1,s.take (wdN s),0,[],ki⟩) (u:=⟨1,s.take (wdN s),0,[],ki⟩) rfl (by dsimp only; omega))
 ·try simp only [nn,uAi,Tk.rows_len] at hc
  have e1 : ¬uBe ((s.getD 0 0).toNat : Int)=true:=fun q=>hc (c1 q)
  rw [uBt,if_neg e1]
  refine uAe (uAb ?_);refine uAa rfl rfl rfl (uAk rfl rfl gU gU rfl) ?_;refine uAa rfl rfl rfl (uAd rfl gU) ?_;refine uAf ?_;refine uAl rfl (fun hc2=>?_) (fun hc2=>?_)
  ·try simp only [nn,uAi,Tk.rows_len] at hc2
   rw [if_pos (d2.1 hc2)]
   refine uAe (uAb ?_);refine uAa rfl rfl rfl (uAc rfl gU) ?_;refine uAA rfl rfl rfl rfl rfl rfl gU gU (uH6 _ (by omega)) rfl ?_;refine uAa rfl rfl rfl (uAc rfl gU) ?_;refine uAa rfl rfl rfl (uAE rfl gU rfl) ?_;refine uAa rfl rfl rfl (uAE rfl gU rfl) ?_;refine uAa rfl rfl rfl (uAE rfl gU rfl) ?_;refine uAa rfl rfl rfl (uAd rfl gU) ?_;refine uAa rfl rfl rfl (uAd rfl gU) ?_;refine uBB (s:=⟨[(1,_,_),(4,_,_),(8,_,_),(9,_,_),(36,_,_)],[(.l 4,_)],[],[]⟩) (uAj (⟨sx rfl,sx rfl,sx rfl,sx rfl,sx rfl,trivial⟩) (⟨sx rfl,trivial⟩) trivial) ?_;refine uAa rfl rfl rfl (uAd rfl gU) ?_;refine uAf ?_;refine uAe ?_;refine uAe (uAb ?_);refine uAa rfl rfl rfl (uAc rfl gU) ?_;refine uAa rfl rfl rfl (uA8 rfl gU) ?_;refine uAf ?_;refine uAl rfl (fun hc3=>?_) (fun hc3=>?_)
   ·try simp only [nn,uAi,Tk.rows_len] at hc3
    refine uAe (uAb ?_);refine uAa rfl rfl rfl (uAU rfl Tryz.underlying50 rfl gU) ?_;refine uAt rfl (uAx rfl rfl rfl rfl rfl rfl rfl) ?_;refine uAa rfl rfl rfl (uAd rfl gU) ?_;refine uAa rfl rfl rfl (uAd rfl gU) ?_;refine uAf ?_;refine uAo ?_
    repeat (first | refine tR ?_ | refine bR ?_)
    refine uAr rfl ?_ trivial
    (rw [if_neg (by rw [hc3]; exact Bool.false_ne_true)]; rfl)
   ·try simp only [nn,uAi,Tk.rows_len] at hc3
    refine uAp ?_;refine uAe (uAb ?_);refine uAa rfl rfl rfl (uAc rfl gU) ?_;refine uAa rfl rfl rfl (uAc rfl gU) ?_;refine uAa rfl rfl rfl (uAU rfl Tryz.underlying50 rfl gU) ?_;refine uAa rfl rfl rfl (uAc rfl gU) ?_;refine uBk rfl rfl rfl rfl rfl gU (Tryz.underlying9) ?_ (fun hh=>by simp at hh); intro hlen;refine uAt rfl (uAx rfl rfl rfl rfl rfl rfl rfl) ?_;refine uAa rfl rfl rfl (uAd rfl gU) ?_;refine uAa rfl rfl rfl (uAd rfl gU) ?_;refine uAf ?_;refine uAo ?_
    repeat (first | refine tR ?_ | refine bR ?_)
    refine uAr rfl ?_ trivial
    (rw [if_pos hc3]; exact uNB (t:=⟨2,[],(numA s 0 0).2.2,[],ki⟩) (u:=⟨2,[],(numA s 0 0).2.2,[],ki⟩) rfl (by dsimp only; omega))
  ·try simp only [nn,uAi,Tk.rows_len] at hc2
   have e2 : ¬uBh ((s.getD 0 0).toNat : Int)=true:=fun q=>hc2 (c2 q)
   rw [if_neg e2]
   refine uAe (uAb ?_);refine uAa rfl rfl rfl (uAk rfl rfl gU gU rfl) ?_;refine uAa rfl rfl rfl (uAd rfl gU) ?_;refine uAf ?_;refine uAm (s:=⟨[(0,_,_),(1,_,_),(4,_,_),(15,_,_),(45,_,_)],[(.l 4,_)],[],[]⟩) (uAj (⟨sx rfl,sx rfl,sx rfl,sx rfl,sx rfl,trivial⟩) (⟨sx rfl,trivial⟩) trivial) ?_;refine uAl rfl (fun hc3=>?_) (fun hc3=>?_)
   ·try simp only [nn,uAi,Tk.rows_len] at hc3
    have e3 : (s.getD 0 0).toNat=34:=by
     by_cases q : (s.getD 0 0).toNat=34
     ·exact q
     ·have := c4 e1 e2 q
      by_cases q2 : symB (s.getD 0 0)=true
      ·have := this.1 q2; omega
      ·have := this.2 q2; omega
    rw [if_pos e3]
    refine uAe (uAb ?_);refine uAa rfl rfl rfl (uAc rfl gU) ?_;refine uAA rfl rfl rfl rfl rfl rfl gU gU (uLQ _ (by omega) (by omega)) rfl ?_;refine uAa rfl rfl rfl (uAc rfl gU) ?_;refine uAa rfl rfl rfl (uAE rfl gU rfl) ?_;refine uAa rfl rfl rfl (uAE rfl gU rfl) ?_;refine uAa rfl rfl rfl (uAd rfl gU) ?_;refine uAa rfl rfl rfl (uAd rfl gU) ?_;refine uAf ?_;refine uAm (s:=⟨[(1,_,_),(4,_,_),(11,_,_),(12,_,_)],[(.l 4,_)],[],[]⟩) (uAj (⟨sx rfl,sx rfl,sx rfl,sx rfl,trivial⟩) (⟨sx rfl,trivial⟩) trivial) ?_;refine uAe (uAb ?_);refine uAa rfl rfl rfl (uAc rfl gU) ?_;refine uAa rfl rfl rfl (uAk rfl rfl gU gU rfl) ?_;refine uAf ?_;refine uAl rfl (fun hc4=>?_) (fun hc4=>?_)
    ·try simp only [nn,uAi,Tk.rows_len] at hc4
     refine uAe (uAb ?_);refine uAa rfl rfl rfl (uAc rfl gU) ?_;refine uAa rfl rfl rfl (uAc rfl gU) ?_;refine uAa rfl rfl rfl (uAU rfl Tryz.underlying50 rfl gU) ?_;refine uAa rfl rfl rfl (uAc rfl gU) ?_;refine uAt rfl (uAx rfl rfl rfl rfl rfl rfl rfl) ?_;refine uAa rfl rfl rfl (uAd rfl gU) ?_;refine uAa rfl rfl rfl (uAd rfl gU) ?_;refine uAf ?_;refine uAo ?_
     repeat (first | refine tR ?_ | refine bR ?_)
     refine uAr rfl ?_ trivial
     (rw [if_neg (by omega)]; rfl)
    ·try simp only [nn,uAi,Tk.rows_len] at hc4
     refine uAp ?_;refine uAe (uAb ?_);refine uAa rfl rfl rfl (uAU rfl Tryz.underlying50 rfl gU) ?_;refine uAt rfl (uAx rfl rfl rfl rfl rfl rfl rfl) ?_;refine uAa rfl rfl rfl (uAd rfl gU) ?_;refine uAa rfl rfl rfl (uAd rfl gU) ?_;refine uAf ?_;refine uAo ?_
     repeat (first | refine tR ?_ | refine bR ?_)
     refine uAr rfl ?_ trivial
     (rw [if_pos (by omega)]; rfl)
   ·try simp only [nn,uAi,Tk.rows_len] at hc3
    have e3 : ¬(s.getD 0 0).toNat=34:=fun q=>hc3 (c3 q)
    rw [if_neg e3]
    refine uAe (uAb ?_);refine uAa rfl rfl rfl (uAk rfl rfl gU gU rfl) ?_;refine uAa rfl rfl rfl (uAd rfl gU) ?_;refine uAf ?_;refine uAl rfl (fun hc4=>?_) (fun hc4=>?_)
    ·try simp only [nn,uAi,Tk.rows_len] at hc4
     have e4 : symB (s.getD 0 0)=true:=by
      by_cases q2 : symB (s.getD 0 0)=true
      ·exact q2
      ·have := (c4 e1 e2 e3).2 q2; omega
     refine uAe (uAb ?_);refine uAa rfl rfl rfl (uAc rfl gU) ?_;refine uAa rfl rfl rfl (uA3 (h':=1) rfl gU Tryz.underlying9 (fun _=>rfl) (fun _=>⟨_,_,_,rfl,gU,by first | omega | (simp at hh ⊢; omega)⟩) (fun hh=>by first | omega | (simp at hh ⊢; omega)) (fun hh=>by first | omega | (simp at hh ⊢; omega))) ?_;refine uAa rfl rfl rfl (uAc rfl gU) ?_;refine uAa rfl rfl rfl (uAU rfl Tryz.underlying50 rfl gU) ?_;refine uAt rfl (uAx rfl rfl rfl rfl rfl rfl rfl) ?_;refine uAa rfl rfl rfl (uAd rfl gU) ?_;refine uAa rfl rfl rfl (uAd rfl gU) ?_;refine uAf ?_;refine uAo ?_
     repeat (first | refine tR ?_ | refine bR ?_)
     refine uAr rfl ?_ trivial
     (rw [if_pos e4]; rfl)
    ·try simp only [nn,uAi,Tk.rows_len] at hc4
     have e4 : ¬symB (s.getD 0 0)=true:=by
      intro q2
      have := (c4 e1 e2 e3).1 q2
      omega
     refine uAp ?_;refine uAe (uAb ?_);refine uAa rfl rfl rfl (uAU rfl Tryz.underlying50 rfl gU) ?_;refine uAt rfl (uAx rfl rfl rfl rfl rfl rfl rfl) ?_;refine uAa rfl rfl rfl (uAd rfl gU) ?_;refine uAa rfl rfl rfl (uAd rfl gU) ?_;refine uAf ?_;refine uAo ?_
     repeat (first | refine tR ?_ | refine bR ?_)
     refine uAr rfl ?_ trivial
     (rw [if_neg e4]; rfl)
theorem uJR (s : List UInt8) (hs : s.length≤2000000) : Ctr sys 24 [xs s] [] (xss (lnsR s)) none []:=by
 refine uAz Tryz.func24 rfl rfl rfl rfl rfl rfl ?_;refine uAe (uAb ?_);refine uAt rfl (uBz (.inr rfl) rfl rfl) ?_;refine uAf ?_;refine uAe (uAb ?_);refine uAt rfl (uBz (.inr rfl) rfl rfl) ?_;refine uAf ?_;refine uAe (uAb ?_);refine uAa rfl rfl rfl (uAd rfl gU) ?_;refine uAf ?_;refine uAe ?_;refine uAe (uAb ?_);refine uAa rfl rfl rfl (uAd rfl gU) ?_;refine uAf ?_;refine uAs ?_;refine uAZ (ι:=Nat × List UInt8 × List (List UInt8)) { t:=[(0,_,_)],bx:=[],ow:=[(.t 3,_)] } (fun p=>[(5,true,xi (p.1 : Int)),(4,true,xs p.2.1),(3,true,xss p.2.2)]) (fun p=>[]) (fun p=>p.1≤s.length∧p.2.1.length≤p.1∧p.2.2.length≤p.1∧lnsA (s.drop p.1) p.2.1 p.2.2=lnsR s) (fun p=>s.length - p.1) ((0,[],[])) (⟨by simp,by simp,by simp,rfl⟩) (uAj (⟨sx rfl,sx rfl,sx rfl,sx rfl,trivial⟩) trivial (⟨rfl,trivial⟩)) ?_
 intro p hok
 dsimp only [List.cons_append,List.nil_append] at *
 obtain ⟨k,line,out⟩:=p
 dsimp only at hok ⊢
 obtain ⟨hk,hl,ho,hi⟩:=hok
 refine uAe ?_;refine uAe (uAb ?_);refine uAa rfl rfl rfl (uAc rfl gU) ?_;refine uAa rfl rfl rfl (uAc rfl gU) ?_;refine uBk rfl rfl rfl rfl rfl gU (Tryz.underlying9) ?_ (fun hh=>by simp at hh); intro hlen;refine uAa rfl rfl rfl (uAk rfl rfl gU gU rfl) ?_;refine uAf ?_;refine uAl rfl (fun hc=>?_) (fun hc=>?_)
 ·try simp only [nn,uAi,Tk.rows_len] at hc
  rw [uA6 (by omega),lnsA] at hi
  refine uAp ?_;refine uAe ?_;refine uAs ?_;refine uAe ?_;refine uAe (uAb ?_);refine uAa rfl rfl rfl (uAc rfl gU) ?_;refine uAa rfl rfl rfl (uAc rfl gU) ?_;refine uAa rfl rfl rfl (uAD (j:=k) rfl rfl gU gU Tryz.underlying9 (by first | omega | (simp at hh ⊢; omega)) (fun hh=>by first | omega | (simp at hh ⊢; omega))) ?_;refine uAa rfl rfl rfl (uAk rfl rfl gU gU rfl) ?_;refine uAf ?_;refine uAm (s:=⟨[(0,_,_),(3,_,_),(4,_,_),(5,_,_),(15,_,_)],[],[(.t 3,_)],[]⟩) (uAj (⟨sx rfl,sx rfl,sx rfl,sx rfl,sx rfl,trivial⟩) trivial (⟨rfl,trivial⟩)) ?_;refine uAl rfl (fun hc2=>?_) (fun hc2=>?_)
  ·try simp only [nn,uAi,Tk.rows_len] at hc2
   rw [if_pos (by omega)] at hi
   refine uAe (uAb ?_);refine uAt rfl (uAI (.inl rfl) rfl rfl rfl) ?_;refine uAa rfl rfl rfl (uAc rfl gU) ?_;refine uAM (xs:=[_]) rfl rfl rfl rfl rfl rfl rfl rfl rfl gU rfl ?_;refine uAt rfl (uA2 rfl rfl rfl rfl rfl rfl rfl (by first | omega | (simp only [List.length_append,List.length_singleton,Tk.rows_len,uAi]; omega)) (by first | omega | (simp only [List.length_append,List.length_singleton,Tk.rows_len,uAi]; omega))) ?_;refine uAt rfl (uAI (.inr rfl) rfl rfl rfl) ?_;refine uAf ?_;refine uAm (s:=⟨[(0,_,_),(3,_,_),(5,_,_)],[],[(.t 3,_)],[]⟩) (uAj (⟨sx rfl,sx rfl,sx rfl,trivial⟩) trivial (⟨rfl,trivial⟩)) ?_;refine uAe (uAb ?_);refine uAa rfl rfl rfl (uAd rfl gU) ?_;refine uAf ?_;refine uAL ?_
   repeat (first | refine uAF ?_ | refine uAG ?_ | refine uAC rfl ?_)
   refine uAb ?_;refine uAa rfl rfl rfl (uAc rfl gU) ?_;refine uAa rfl rfl rfl (uAq rfl rfl gU gU rfl (IntWalk.i64_in _ (by omega))) ?_;refine uAa rfl rfl rfl (uAd rfl gU) ?_;refine uAf ?_;refine ⟨(k + 1,[],out++[line]),?_,?_,uAj (⟨⟨_,rfl,?_⟩,⟨⟨_,rfl,?_⟩,⟨⟨_,rfl,?_⟩,⟨sx rfl,trivial⟩⟩⟩⟩) trivial (⟨rfl,trivial⟩)⟩
   all_goals (first | rfl | omega | exact tx (uCe out line) | (refine ⟨?_,?_,?_,hi⟩ <;> (simp <;> omega)))
  ·try simp only [nn,uAi,Tk.rows_len] at hc2
   rw [if_neg (by omega)] at hi
   have e1 : (s.take (k + 1)).drop k=[s.getD k 0]:=by
    rw [uA6 (by simp; omega),List.drop_of_length_le (by simp; omega),uEg _ _ (by omega)]
   refine uAp ?_;refine uAb ?_;refine uAa rfl rfl rfl (uAc rfl gU) ?_;refine uAa rfl rfl rfl (uAc rfl gU) ?_;refine uAa rfl rfl rfl (uAc rfl gU) ?_;refine uAa rfl rfl rfl (uAc rfl gU) ?_;refine uAa rfl rfl rfl (uAq rfl rfl gU gU rfl (IntWalk.i64_in _ (by omega))) ?_;refine uAa rfl rfl rfl (uA3 (l:=k) (h':=(k + 1)) rfl gU Tryz.underlying9 (fun _=>⟨_,_,_,rfl,gU,by first | omega | (simp at hh ⊢; omega)⟩) (fun _=>⟨_,_,_,rfl,gU,by first | omega | (simp at hh ⊢; omega)⟩) (fun hh=>by first | omega | (simp at hh ⊢; omega)) (fun hh=>by first | omega | (simp at hh ⊢; omega))) ?_;refine uAa rfl rfl rfl (uAB rfl rfl gU gU (by first | omega | (simp only [List.length_append,List.length_drop,List.length_take]; omega))) ?_;refine uAa rfl rfl rfl (uAd rfl gU) ?_;refine uAf ?_;refine uAm (s:=⟨[(0,_,_),(3,_,_),(4,_,_),(5,_,_)],[],[(.t 3,_)],[]⟩) (uAj (⟨sx rfl,sx rfl,sx rfl,sx rfl,trivial⟩) trivial (⟨rfl,trivial⟩)) ?_;refine uAb ?_;refine uAa rfl rfl rfl (uAc rfl gU) ?_;refine uAa rfl rfl rfl (uAq rfl rfl gU gU rfl (IntWalk.i64_in _ (by omega))) ?_;refine uAa rfl rfl rfl (uAd rfl gU) ?_;refine uAf ?_;refine ⟨(k + 1,line++[s.getD k 0],out),?_,?_,uAj (⟨⟨_,rfl,?_⟩,⟨⟨_,rfl,?_⟩,⟨⟨_,rfl,?_⟩,⟨sx rfl,trivial⟩⟩⟩⟩) trivial (⟨rfl,trivial⟩)⟩
   all_goals (first | rfl | omega | exact tx (congrArg xs (by rw [e1])) | (refine ⟨?_,?_,?_,hi⟩ <;> (simp <;> omega)))
 ·try simp only [nn,uAi,Tk.rows_len] at hc
  rw [List.drop_of_length_le (by omega),lnsA] at hi
  refine uAL ?_
  repeat (first | refine uAF ?_ | refine uAG ?_ | refine uAC rfl ?_)
  refine uAe ?_;refine uAe (uAb ?_);refine uAa rfl rfl rfl (uAc rfl gU) ?_;refine uAa rfl rfl rfl (uAW rfl rfl gU gU rfl) ?_;refine uAf ?_;refine uAm (s:=⟨[(3,_,_),(4,_,_),(28,_,_)],[],[(.t 3,_)],[]⟩) (uAj (⟨sx rfl,sx rfl,sx rfl,trivial⟩) trivial (⟨rfl,trivial⟩)) ?_;refine uAl rfl (fun hc2=>?_) (fun hc2=>?_)
  ·try simp only [nn,uAi,Tk.rows_len] at hc2
   rw [if_neg hc2] at hi
   refine uAb ?_;refine uAt rfl (uAI (.inl rfl) rfl rfl rfl) ?_;refine uAa rfl rfl rfl (uAc rfl gU) ?_;refine uAM (xs:=[_]) rfl rfl rfl rfl rfl rfl rfl rfl rfl gU rfl ?_;refine uAt rfl (uA2 rfl rfl rfl rfl rfl rfl rfl (by first | omega | (simp only [List.length_append,List.length_singleton,Tk.rows_len,uAi]; omega)) (by first | omega | (simp only [List.length_append,List.length_singleton,Tk.rows_len,uAi]; omega))) ?_;refine uAt rfl (uAI (.inr rfl) rfl rfl rfl) ?_;refine uAf ?_;refine uAm (s:=⟨[(3,_,_)],[],[(.t 3,_)],[]⟩) (uAj (⟨sx rfl,trivial⟩) trivial (⟨rfl,trivial⟩)) ?_;refine uAe (uAb ?_);refine uAt rfl (uAI (.inl rfl) rfl rfl rfl) ?_;refine uAt rfl (uAI (.inr rfl) rfl rfl rfl) ?_;refine uAf ?_;refine uAo ?_
   repeat (first | refine tR ?_ | refine bR ?_)
   refine uAr rfl ?_ trivial
   (rw [← hi]; exact uCe out line)
  ·try simp only [nn,uAi,Tk.rows_len] at hc2
   rw [if_pos hc2] at hi
   refine uAp ?_;refine uAe (uAb ?_);refine uAt rfl (uAI (.inl rfl) rfl rfl rfl) ?_;refine uAt rfl (uAI (.inr rfl) rfl rfl rfl) ?_;refine uAf ?_;refine uAo ?_
   repeat (first | refine tR ?_ | refine bR ?_)
   refine uAr rfl ?_ trivial
   (rw [← hi]; rfl)
theorem uLf (s : List UInt8) : (uA5 s).length≤s.length:=by unfold uA5; rw [List.length_take]; omega
theorem uIg (s : List UInt8) (hs : s.length≤9223372036854775807) : Ctr sys 22 [xs s] [] (uMp (tokR s)) none []:=by
 have hsl:=uMI s
 refine uAz Tryz.func22 rfl rfl rfl rfl rfl rfl ?_;refine uAe (uAb ?_);refine uAt rfl (uBz (.inr rfl) rfl rfl) ?_;refine uAa rfl rfl rfl (uAd rfl gU) ?_;refine uAa rfl rfl rfl (uAd rfl gU) ?_;refine uAf ?_;refine uAe ?_;refine uAe (uAb ?_);refine uAa rfl rfl rfl (uAc rfl gU) ?_;refine uBk rfl rfl rfl rfl rfl gU (Tryz.underlying9) ?_ (fun hh=>by simp at hh); intro hlen;refine uAa rfl rfl rfl (uAk rfl rfl gU gU rfl) ?_;refine uAf ?_;refine uAm (s:=⟨[(0,_,_),(14,_,_)],[],[],[]⟩) (uAj (⟨sx rfl,sx rfl,trivial⟩) trivial trivial) ?_;refine uAl rfl (fun hc=>?_) (fun hc=>?_)
 ·try simp only [nn,uAi,Tk.rows_len] at hc
  refine uAe (uAb ?_);refine uAt rfl (uBz (.inr rfl) rfl rfl) ?_;refine uAa rfl rfl rfl (uAd rfl gU) ?_;refine uAa rfl rfl rfl (uAd rfl gU) ?_;refine uAf ?_;refine uAo ?_
  repeat (first | refine tR ?_ | refine bR ?_)
  refine uAr rfl ?_ trivial
  (rw [tokR,if_pos (by omega)]; rfl)
 ·try simp only [nn,uAi,Tk.rows_len] at hc
  rw [tokR,if_neg (by omega)]
  refine uAp ?_;refine uAe (uAb ?_);refine uAt rfl (uBz (.inr rfl) rfl rfl) ?_;refine uAf ?_;refine uAe (uAb ?_);refine uAa rfl rfl rfl (uAc rfl gU) ?_;refine uAA rfl rfl rfl rfl rfl rfl gU gU (uJR _ (by omega)) rfl ?_;refine uAa rfl rfl rfl (uAd rfl gU) ?_;refine uAf ?_;refine uAe ?_;refine uAe (uAb ?_);refine uAa rfl rfl rfl (uAd rfl gU) ?_;refine uAf ?_;refine uAm (s:=⟨[(5,_,_),(6,_,_),(7,_,_)],[],[(.t 5,_)],[]⟩) (uAj (⟨sx rfl,sx rfl,sx rfl,trivial⟩) trivial (⟨rfl,trivial⟩)) ?_;refine uAs ?_;refine uAZ (ι:=Nat × List Tk) { t:=[(6,_,_)],bx:=[],ow:=[(.t 5,_)] } (fun p=>[(7,true,xi (p.1 : Int)),(5,true,xts p.2)]) (fun p=>[]) (fun p=>p.1≤(lnsR s).length∧p.2.length≤70000 * p.1∧uE7 ((lnsR s).drop p.1) (p.1 + 1) p.2=uE7 (lnsR s) 1 []) (fun p=>(lnsR s).length - p.1) ((0,[])) (⟨by simp,by simp,rfl⟩) (uAj (⟨sx rfl,sx rfl,sx rfl,trivial⟩) trivial (⟨rfl,trivial⟩)) ?_
  intro p hok
  dsimp only [List.cons_append,List.nil_append] at *
  obtain ⟨k,out⟩:=p
  dsimp only at hok ⊢
  obtain ⟨hk,ho,hi⟩:=hok
  have hL:=uMc s k
  have hB:=uLf ((lnsR s).getD k [])
  refine uAe ?_;refine uAe (uAb ?_);refine uAa rfl rfl rfl (uAc rfl gU) ?_;refine uAa rfl rfl rfl (uAc rfl gU) ?_;refine uAR rfl rfl rfl rfl rfl gU rfl rfl ?_ (fun hh=>by simp at hh); intro hlen;refine uAa rfl rfl rfl (uAk rfl rfl gU gU rfl) ?_;refine uAf ?_;refine uAl rfl (fun hc2=>?_) (fun hc2=>?_)
  ·try simp only [nn,uAi,Tk.rows_len] at hc2
   rw [uJQ (d:=[]) (by omega),uE7] at hi
   refine uAp ?_;refine uAe ?_;refine uAs ?_;refine uAe (uAb ?_);refine uAa rfl rfl rfl (uAc rfl gU) ?_;refine uAa rfl rfl rfl (uAc rfl gU) ?_;refine uAa rfl rfl rfl (uAu rfl rfl gU gU rfl rfl rfl (fun hh=>uCK (by first | omega | (simp at hh ⊢; omega)))) ?_;refine uAa rfl rfl rfl (uAP rfl gU rfl rfl rfl) ?_;refine uAA rfl rfl rfl rfl rfl rfl gU gU (uLR _ (by omega)) rfl ?_;refine uAa rfl rfl rfl (uAd rfl gU) ?_;refine uAf ?_;refine uAm (s:=⟨[(5,_,_),(6,_,_),(7,_,_),(8,_,_)],[],[(.t 5,_)],[]⟩) (uAj (⟨sx rfl,sx rfl,sx rfl,sx rfl,trivial⟩) trivial (⟨rfl,trivial⟩)) ?_;refine uAs ?_;refine uAZ (ι:=List UInt8 × List Tk) { t:=[(6,_,_),(7,_,_)],bx:=[],ow:=[(.t 5,_)] } (fun q=>[(8,true,xs q.1),(5,true,xts q.2)]) (fun q=>[]) (fun q=>q.1.length≤(uA5 ((lnsR s).getD k [])).length∧q.2.length + q.1.length≤out.length + (uA5 ((lnsR s).getD k [])).length ∧ ∃ n,q.1.length < n∧uCA n q.1 ((k + 1 : Nat) : Int) q.2=uCA ((uA5 ((lnsR s).getD k [])).length + 1) (uA5 ((lnsR s).getD k [])) ((k + 1 : Nat) : Int) out) (fun q=>q.1.length) ((uA5 ((lnsR s).getD k []),out)) (⟨by simp,by simp,_,by dsimp only; omega,rfl⟩) (uAj (⟨sx rfl,sx rfl,sx rfl,sx rfl,trivial⟩) trivial (⟨rfl,trivial⟩)) ?_
   intro q hokq
   dsimp only [List.cons_append,List.nil_append] at *
   obtain ⟨l,o2⟩:=q
   dsimp only at hokq ⊢
   obtain ⟨hl,ho2,n,hn,hi2⟩:=hokq
   obtain ⟨n,rfl⟩ : ∃ m,n=m + 1:=⟨n - 1,by omega⟩
   refine uAe ?_;refine uAe (uAb ?_);refine uAa rfl rfl rfl (uAc rfl gU) ?_;refine uBk rfl rfl rfl rfl rfl gU (Tryz.underlying9) ?_ (fun hh=>by simp at hh); intro hlen;refine uAa rfl rfl rfl (uAk rfl rfl gU gU rfl) ?_;refine uAf ?_;refine uAl rfl (fun hc3=>?_) (fun hc3=>?_)
   ·try simp only [nn,uAi,Tk.rows_len] at hc3
    have hne : 0 < l.length:=by omega
    have hcons : l=l.getD 0 0 :: l.drop 1 := by have := uA6 hne; rwa [List.drop_zero] at this
    have hx : uCA (n + 1) l ((k + 1 : Nat) : Int) o2=if uBL (l.getD 0 0)=true then uCA n (l.drop 1) ((k + 1 : Nat) : Int) o2 else if (uBt l ((k + 1 : Nat) : Int)).2.2≠0 then ([],(uBt l ((k + 1 : Nat) : Int)).2.2)
      else uCA n (l.drop (uBt l ((k + 1 : Nat) : Int)).2.1) ((k + 1 : Nat) : Int) (o2++[(uBt l ((k + 1 : Nat) : Int)).1]):=by
     generalize hg : l.getD 0 0=c at hcons ⊢
     generalize hg2 : l.drop 1=r at hcons ⊢
     subst hcons
     rw [uCA]
    rw [hx] at hi2
    refine uAp ?_;refine uAs ?_;refine uAe ?_;refine uAe (uAb ?_);refine uAa rfl rfl rfl (uAc rfl gU) ?_;refine uAa rfl rfl rfl (uAD (j:=0) rfl rfl gU gU Tryz.underlying9 (by first | omega | (simp at hh ⊢; omega)) (fun hh=>by first | omega | (simp at hh ⊢; omega))) ?_;refine uAA rfl rfl rfl rfl rfl rfl gU gU (uC8 _ _ rfl) rfl ?_;refine uAa rfl rfl rfl (uAk rfl rfl gU gU rfl) ?_;refine uAf ?_;refine uAm (s:=⟨[(5,_,_),(6,_,_),(7,_,_),(8,_,_),(34,_,_)],[],[(.t 5,_)],[]⟩) (uAj (⟨sx rfl,sx rfl,sx rfl,sx rfl,sx rfl,trivial⟩) trivial (⟨rfl,trivial⟩)) ?_;refine uAl rfl (fun hc4=>?_) (fun hc4=>?_)
    ·try simp only [nn,uAi,Tk.rows_len] at hc4
     rw [if_pos ((uDI _).2.2.1 hc4)] at hi2
     refine uAe (uAb ?_);refine uAa rfl rfl rfl (uAc rfl gU) ?_;refine uAa rfl rfl rfl (uA3 (l:=1) rfl gU Tryz.underlying9 (fun _=>⟨_,_,_,rfl,gU,by first | omega | (simp at hh ⊢; omega)⟩) (fun _=>rfl) (fun hh=>by first | omega | (simp at hh ⊢; omega)) (fun hh=>by first | omega | (simp at hh ⊢; omega))) ?_;refine uAa rfl rfl rfl (uAd rfl gU) ?_;refine uAf ?_;refine uAL ?_
     repeat (first | refine uAF ?_ | refine uAG ?_ | refine uAC rfl ?_)
     refine ⟨(l.drop 1,o2),?_,?_,uAj (⟨⟨_,rfl,?_⟩,⟨⟨_,rfl,?_⟩,⟨sx rfl,sx rfl,trivial⟩⟩⟩) trivial (⟨rfl,trivial⟩)⟩
     all_goals first | rfl | exact tx (congrArg xs (by rw [List.take_length])) | (simp only [List.take_length,List.length_drop]; omega) | (refine ⟨?_,?_,n,?_,hi2⟩ <;> (simp only [List.length_drop]; omega))
    ·try simp only [nn,uAi,Tk.rows_len] at hc4
     rw [if_neg (fun q=>hc4 ((uDI _).2.2.2 q))] at hi2
     have hfl:=uLw (s:=l) (k:=((k + 1 : Nat) : Int)) hne
     refine uAp ?_;refine uAe (uAb ?_);refine uAa rfl rfl rfl (uAc rfl gU) ?_;refine uAa rfl rfl rfl (uAc rfl gU) ?_;refine uAa rfl rfl rfl (uAq rfl rfl gU gU rfl (IntWalk.i64_in _ (by omega))) ?_;refine uAA rfl rfl rfl rfl rfl rfl gU gU (uJ3 _ ((k + 1 : Nat) : Int) _ hne (by omega) (by omega) hc4) rfl ?_;refine uAa rfl rfl rfl (uAc rfl gU) ?_;refine uAa rfl rfl rfl (uAE rfl gU rfl) ?_;refine uAa rfl rfl rfl (uAE rfl gU rfl) ?_;refine uAa rfl rfl rfl (uAE rfl gU rfl) ?_;refine uAt rfl (uAN rfl rfl rfl) ?_;refine uAt rfl (uAx rfl rfl rfl rfl rfl rfl rfl) ?_;refine uAa rfl rfl rfl (uAd rfl gU) ?_;refine uAa rfl rfl rfl (uAd rfl gU) ?_;refine uAf ?_;refine uAm (s:=⟨[(5,_,_),(6,_,_),(7,_,_),(8,_,_),(9,_,_),(10,_,_),(11,_,_)],[(.l 9,_)],[(.t 5,_)],[]⟩) (uAj (⟨sx rfl,sx rfl,sx rfl,sx rfl,sx rfl,sx rfl,sx rfl,trivial⟩) (⟨sx rfl,trivial⟩) (⟨rfl,trivial⟩)) ?_;refine uAe ?_;refine uAe (uAb ?_);refine uAa rfl rfl rfl (uAc rfl gU) ?_;refine uAa rfl rfl rfl (uAk rfl rfl gU gU rfl) ?_;refine uAf ?_;refine uAl rfl (fun hc5=>?_) (fun hc5=>?_)
     ·try simp only [nn,uAi,Tk.rows_len] at hc5
      rw [if_pos hc5] at hi2
      rw [← hi2,if_pos hc5] at hi
      refine uAe (uAb ?_);refine uAa rfl rfl rfl (uAc rfl gU) ?_;refine uAa rfl rfl rfl (uAq rfl rfl gU gU rfl (IntWalk.i64_in _ (by omega))) ?_;refine uAa rfl rfl rfl (uAc rfl gU) ?_;refine uAt rfl (uBz (.inr rfl) rfl rfl) ?_;refine uAa rfl rfl rfl (uAd rfl gU) ?_;refine uAa rfl rfl rfl (uAd rfl gU) ?_;refine uAf ?_;refine uAo ?_
      repeat (first | refine tR ?_ | refine bR ?_)
      refine uAr rfl ?_ trivial
      (rw [← hi]; rfl)
     ·try simp only [nn,uAi,Tk.rows_len] at hc5
      have h4:=hfl.2 hc5
      rw [if_neg (fun q=>q hc5)] at hi2
      refine uAp ?_;refine uAe (uAb ?_);refine uAt rfl (uAI (.inl rfl) rfl rfl rfl) ?_;refine uAa rfl rfl rfl (uAy rfl gU rfl rfl rfl rfl rfl) ?_;refine uAM (xs:=[_]) rfl rfl rfl rfl rfl rfl rfl rfl rfl gU rfl ?_;refine uAt rfl (uA2 rfl rfl rfl rfl rfl rfl rfl (by first | omega | (simp only [List.length_append,List.length_singleton,Tk.rows_len,uAi]; omega)) (by first | omega | (simp only [List.length_append,List.length_singleton,Tk.rows_len,uAi]; omega))) ?_;refine uAt rfl (uAI (.inr rfl) rfl rfl rfl) ?_;refine uAf ?_;refine uAm (s:=⟨[(5,_,_),(6,_,_),(7,_,_),(8,_,_),(10,_,_)],[],[(.t 5,_)],[]⟩) (uAj (⟨sx rfl,sx rfl,sx rfl,sx rfl,sx rfl,trivial⟩) trivial (⟨rfl,trivial⟩)) ?_;refine uAb ?_;refine uAa rfl rfl rfl (uAc rfl gU) ?_;refine uAa rfl rfl rfl (uAc rfl gU) ?_;refine uAa rfl rfl rfl (uA3 (l:=(uBt l ((k + 1 : Nat) : Int)).2.1) rfl gU Tryz.underlying9 (fun _=>⟨_,_,_,rfl,gU,by first | omega | (simp at hh ⊢; omega)⟩) (fun _=>rfl) (fun hh=>by first | omega | (simp at hh ⊢; omega)) (fun hh=>by first | omega | (simp at hh ⊢; omega))) ?_;refine uAa rfl rfl rfl (uAd rfl gU) ?_;refine uAf ?_;refine ⟨(l.drop (uBt l ((k + 1 : Nat) : Int)).2.1,o2++[(uBt l ((k + 1 : Nat) : Int)).1]),?_,?_,uAj (⟨⟨_,rfl,?_⟩,⟨⟨_,rfl,?_⟩,⟨sx rfl,sx rfl,trivial⟩⟩⟩) trivial (⟨rfl,trivial⟩)⟩
      all_goals first | rfl | exact tx (uIW o2 (uBt l ((k + 1 : Nat) : Int)).1) | exact tx (congrArg xs (by rw [List.take_length])) | (simp only [List.take_length,List.length_drop,List.length_append,List.length_singleton]; omega) | (refine ⟨?_,?_,n,?_,hi2⟩ <;> (simp only [List.length_drop,List.length_append,List.length_singleton]; omega))
   ·try simp only [nn,uAi,Tk.rows_len] at hc3
    have hnil : l=[]:=List.eq_nil_of_length_eq_zero (by omega)
    subst hnil
    rw [uCA] at hi2
    rw [← hi2] at hi
    refine uAL ?_
    repeat (first | refine uAF ?_ | refine uAG ?_ | refine uAC rfl ?_)
    refine uAb ?_;refine uAa rfl rfl rfl (uAc rfl gU) ?_;refine uAa rfl rfl rfl (uAq rfl rfl gU gU rfl (IntWalk.i64_in _ (by omega))) ?_;refine uAa rfl rfl rfl (uAd rfl gU) ?_;refine uAf ?_;refine ⟨(k + 1,o2),?_,?_,uAj (⟨⟨_,rfl,?_⟩,⟨⟨_,rfl,?_⟩,⟨sx rfl,trivial⟩⟩⟩) trivial (⟨rfl,trivial⟩)⟩
    all_goals first | rfl | omega | (refine ⟨by dsimp only; omega,by dsimp only; omega,?_⟩; exact hi)
  ·try simp only [nn,uAi,Tk.rows_len] at hc2
   rw [List.drop_of_length_le (by omega),uE7] at hi
   refine uAL ?_
   repeat (first | refine uAF ?_ | refine uAG ?_ | refine uAC rfl ?_)
   refine uAe (uAb ?_);refine uAt rfl (uAI (.inl rfl) rfl rfl rfl) ?_;refine uAt rfl (uAI (.inr rfl) rfl rfl rfl) ?_;refine uAa rfl rfl rfl (uAd rfl gU) ?_;refine uAa rfl rfl rfl (uAd rfl gU) ?_;refine uAf ?_;refine uAo ?_
   repeat (first | refine tR ?_ | refine bR ?_)
   refine uAr rfl ?_ trivial
   (rw [← hi]; rfl)
end Go.Proofs.YtnjjdbapadkomaaGreatDoor
namespace Go.Proofs.YtnjjdbapadkomaaGreatDoor
open Go Go.Abs
theorem uFb (s : List UInt8) (hs : s.length≤9223372036854775807) : Ctr sys 103 [xs s] [] (xb (uAO s)) none []:=by
 refine uAz Tryz.func103 rfl rfl rfl rfl rfl rfl ?_;refine uAe (uAb ?_);refine uAa rfl rfl rfl (uAd rfl gU) ?_;refine uAf ?_;refine uAe (uAb ?_);refine uAa rfl rfl rfl (uAc rfl gU) ?_;refine uAa rfl rfl rfl (uAW rfl rfl gU gU rfl) ?_;refine uAa rfl rfl rfl (uAc rfl gU) ?_;refine uAa rfl rfl rfl (uAc rfl gU) ?_;refine uAa rfl rfl rfl (uAD (j:=0) rfl rfl (fun hh=>hh) gU Tryz.underlying9 (by first | omega | (simp at hh ⊢; exact List.length_pos_iff.2 hh) | (simp at hh ⊢; omega)) (fun hh=>by first | omega | (simp at hh ⊢; exact List.length_pos_iff.2 hh) | (simp at hh ⊢; omega))) ?_;refine uAA rfl rfl rfl rfl rfl rfl gU (fun hh=>gA ((fun hh=>hh) hh) (rfl)) (uDs _) rfl ?_;refine uAa rfl rfl rfl (uAX rfl rfl gU (fun _ hi=>gP rfl hi)) ?_;refine uAa rfl rfl rfl (uAc rfl gU) ?_;refine uAa rfl rfl rfl (uAc rfl gU) ?_;refine uAA rfl rfl rfl rfl rfl rfl gU (fun hh=>gA ((fun hh=>hh) hh) (rfl)) (uDM _ (by omega)) rfl ?_;refine uAa rfl rfl rfl (uAc rfl gU) ?_;refine uBB (s:=⟨[(0,_,_),(10,_,_),(12,_,_),(13,_,_)],[],[],[]⟩) (uAj (⟨sx rfl,sx rfl,sx rfl,sx rfl,trivial⟩) trivial trivial) ?_;refine uAa rfl rfl rfl (uB7 rfl (fun hh=>hh) (Tryz.underlying9)) ?_;refine uAa rfl rfl rfl (uAk rfl rfl (fun hh=>hh) (fun hh=>hh) rfl) ?_;refine uAa rfl rfl rfl (uAX rfl rfl gU (fun _ hi=>gP rfl hi)) ?_
 refine uAa rfl rfl rfl (uAc rfl gU) ?_;refine uAa rfl rfl rfl (uAc rfl gU) ?_;refine uAa rfl rfl rfl (uB7 rfl (fun hh=>hh) (Tryz.underlying9)) ?_;refine uAa rfl rfl rfl (uAk rfl rfl (fun hh=>hh) gU rfl) ?_;refine uAa rfl rfl rfl (uAX rfl rfl gU (fun _ hi=>gP rfl hi)) ?_;refine uAa rfl rfl rfl (uAd rfl gU) ?_;refine uAf ?_;refine uAo ?_
 repeat (first | refine tR ?_ | refine bR ?_)
 refine uAr rfl ?_ trivial;refine uCV ?_
 unfold uAO
 rw [Bool.eq_iff_iff]
 simp only [Bool.and_eq_true,decide_eq_true_eq,bne_iff_ne,ne_eq]
 constructor
 ·rintro ⟨⟨⟨a,b⟩,c⟩,d⟩
  refine ⟨⟨⟨?_,b⟩,?_⟩,?_⟩
  ·simpa using a
  ·have c':=c; simp at c'; omega
  ·omega
 ·rintro ⟨⟨⟨a,b⟩,c⟩,d⟩
  refine ⟨⟨⟨?_,b⟩,?_⟩,?_⟩
  ·simpa using a
  ·simp; omega
  ·omega
def lnsP (s : List UInt8) : List (List UInt8):=if (spl s).getD ((spl s).length - 1) []=[] then (spl s).take ((spl s).length - 1) else spl s
theorem uLg (l : List (List UInt8)) (k : Nat) : (strR l).take k=strR (l.take k):=by simp [strR,List.map_take]
theorem uIZ (s : List UInt8) (hs : s.length≤2000000) : Ctr sys 36 [xs s] [] (xss (lnsP s)) none []:=by
 have h1:=uF5 s
 have h2 : 0 < (spl s).length:=List.length_pos_iff.2 (uGR s)
 refine uAz Tryz.func36 rfl rfl rfl rfl rfl rfl ?_;refine uAe (uAb ?_);refine uAa rfl rfl rfl (uAd rfl gU) ?_;refine uAf ?_;refine uAe (uAb ?_);refine uAa rfl rfl rfl (uAc rfl gU) ?_;refine uAA rfl rfl rfl rfl rfl rfl gU gU (uGz _ (by omega)) rfl ?_;refine uAa rfl rfl rfl (uAd rfl gU) ?_;refine uAf ?_;refine uAe ?_;refine uAe (uAb ?_);refine uAa rfl rfl rfl (uAc rfl gU) ?_;refine uAa rfl rfl rfl (uAc rfl gU) ?_;refine uAR rfl rfl rfl rfl rfl gU rfl rfl ?_ (fun hh=>by simp at hh); intro hlen;refine uAa rfl rfl rfl (uAq rfl rfl gU gU rfl (IntWalk.i64_in _ (by omega))) ?_;refine uAa rfl rfl rfl (uAu (j:=((spl s).length - 1)) rfl rfl gU gU rfl rfl (by first | omega | (rw [uAi]; omega) | (simp only [uAi]; omega) | (simp at hh ⊢; omega)) (fun hh=>uCK (by first | omega | (rw [uAi]; omega) | (simp only [uAi]; omega) | (simp at hh ⊢; omega)))) ?_;refine uAa rfl rfl rfl (uAP rfl gU rfl rfl rfl) ?_;refine uAa rfl rfl rfl (uAW rfl rfl gU gU rfl) ?_;refine uAf ?_;refine uAm (s:=⟨[(3,_,_),(12,_,_)],[],[],[]⟩) (uAj (⟨sx rfl,sx rfl,trivial⟩) trivial trivial) ?_;refine uAl rfl (fun hc=>?_) (fun hc=>?_)
 ·try simp only [nn,uAi,Tk.rows_len] at hc
  refine uAb ?_;refine uAa rfl rfl rfl (uAc rfl gU) ?_;refine uAa rfl rfl rfl (uAc rfl gU) ?_;refine uAR rfl rfl rfl rfl rfl gU rfl rfl ?_ (fun hh=>by simp at hh); intro hlen;refine uAa rfl rfl rfl (uAq rfl rfl gU gU rfl (IntWalk.i64_in _ (by omega))) ?_;refine uAa rfl rfl rfl (uKk (h':=((spl s).length - 1)) rfl gU rfl rfl (fun _=>rfl) (fun _=>⟨_,_,_,rfl,gU,by first | omega | (rw [uAi]; omega) | (simp only [uAi]; omega) | (simp at hh ⊢; omega)⟩) (fun hh=>by first | omega | (rw [uAi]; omega) | (simp only [uAi]; omega) | (simp at hh ⊢; omega)) (fun hh=>by first | omega | (rw [uAi]; omega) | (simp only [uAi]; omega) | (simp at hh ⊢; omega))) ?_;refine uAa rfl rfl rfl (uAd rfl gU) ?_;refine uAf ?_;refine uAm (s:=⟨[(3,_,_)],[],[],[]⟩) (uAj (⟨sx rfl,trivial⟩) trivial trivial) ?_;refine uAe (uAb ?_);refine uAa rfl rfl rfl (uAc rfl gU) ?_;refine uAa rfl rfl rfl (uAd rfl gU) ?_;refine uAf ?_;refine uAo ?_
  repeat (first | refine tR ?_ | refine bR ?_)
  refine uAr rfl ?_ trivial
  (rw [lnsP,if_pos (by simpa using hc),xss,← uLg]; rfl)
 ·try simp only [nn,uAi,Tk.rows_len] at hc
  refine uAp ?_;refine uAe (uAb ?_);refine uAa rfl rfl rfl (uAc rfl gU) ?_;refine uAa rfl rfl rfl (uAd rfl gU) ?_;refine uAf ?_;refine uAo ?_
  repeat (first | refine tR ?_ | refine bR ?_)
  refine uAr rfl ?_ trivial
  (rw [lnsP,if_neg (by simpa using hc)]; rfl)
def uNF (a b : List (List UInt8)) : Bool:=decide (a=b)
theorem uEp (a b : List (List UInt8)) : Ctr sys 64 [xss a,xss b] [] (xb (uNF a b)) none []:=by
 have la:=uAi a
 have lb:=uAi b
 refine uAz Tryz.func64 rfl rfl rfl rfl rfl rfl ?_;refine uAe (uAb ?_);refine uAa rfl rfl rfl (uAd rfl gU) ?_;refine uAf ?_;refine uAe ?_;refine uAe (uAb ?_);refine uAa rfl rfl rfl (uAc rfl gU) ?_;refine uAR rfl rfl rfl rfl rfl gU rfl rfl ?_ (fun hh=>by simp at hh); intro hlen;refine uAa rfl rfl rfl (uAc rfl gU) ?_;refine uAR rfl rfl rfl rfl rfl gU rfl rfl ?_ (fun hh=>by simp at hh); intro hlen;refine uAa rfl rfl rfl (uAk rfl rfl gU gU rfl) ?_;refine uAf ?_;refine uAm (s:=⟨[(0,_,_),(1,_,_),(10,_,_)],[],[],[]⟩) (uAj (⟨sx rfl,sx rfl,sx rfl,trivial⟩) trivial trivial) ?_;refine uAl rfl (fun hc=>?_) (fun hc=>?_)
 ·try simp only [nn,uAi,Tk.rows_len] at hc
  refine uAe (uAb ?_);refine uAa rfl rfl rfl (uAd rfl gU) ?_;refine uAf ?_;refine uAo ?_
  repeat (first | refine tR ?_ | refine bR ?_)
  refine uAr rfl ?_ trivial;exact uCV (by symm; exact decide_eq_false (by intro e; rw [e] at hc; exact hc rfl))
 ·try simp only [nn,uAi,Tk.rows_len] at hc
  have hl : a.length=b.length:=by omega
  refine uAp ?_;refine uAe ?_;refine uAe (uAb ?_);refine uAa rfl rfl rfl (uAd rfl gU) ?_;refine uAf ?_;refine uAs ?_;refine uAZ (ι:=Nat) { t:=[(0,_,_),(1,_,_)],bx:=[],ow:=[] } (fun k=>[(5,true,xi (k : Int))]) (fun k=>[]) (fun k=>k≤a.length ∧ ∀ j,j < k→a.getD j []=b.getD j []) (fun k=>a.length - k) (0) (by simp) (uAj (⟨sx rfl,sx rfl,sx rfl,trivial⟩) trivial trivial) ?_
  intro k hok
  dsimp only [List.cons_append,List.nil_append]
  obtain ⟨hk,hi⟩:=hok
  refine uAe ?_;refine uAe (uAb ?_);refine uAa rfl rfl rfl (uAc rfl gU) ?_;refine uAa rfl rfl rfl (uAc rfl gU) ?_;refine uAR rfl rfl rfl rfl rfl gU rfl rfl ?_ (fun hh=>by simp at hh); intro hlen;refine uAa rfl rfl rfl (uAk rfl rfl gU gU rfl) ?_;refine uAf ?_;refine uAl rfl (fun hc2=>?_) (fun hc2=>?_)
  ·try simp only [nn,uAi,Tk.rows_len] at hc2
   refine uAp ?_;refine uAe ?_;refine uAs ?_;refine uAe ?_;refine awp_drawn' (by kernel_rfl) ?_;refine uAg rfl rfl rfl rfl (uAc rfl gU) ?_;refine uAg rfl rfl rfl rfl (uAc rfl gU) ?_;refine uAg rfl rfl rfl rfl (uAu rfl rfl gU gU rfl rfl rfl (fun hh=>uCK (by first | omega | (rw [uAi]; omega) | (simp only [uAi]; omega) | (simp at hh ⊢; omega)))) ?_;refine uAg rfl rfl rfl rfl (uAP rfl gU rfl rfl rfl) ?_;refine uAg rfl rfl rfl rfl (uAc rfl gU) ?_;refine uAg rfl rfl rfl rfl (uAc rfl gU) ?_;refine uAg rfl rfl rfl rfl (uAu rfl rfl gU gU rfl rfl rfl (fun hh=>uCK (by first | omega | (rw [uAi]; omega) | (simp only [uAi]; omega) | (simp at hh ⊢; omega)))) ?_;refine uAg rfl rfl rfl rfl (uAP rfl gU rfl rfl rfl) ?_;refine uAg rfl rfl rfl rfl (uAW rfl rfl gU gU rfl) ?_;refine uBf (by kernel_rfl) ?_;refine uAm (s:=⟨[(0,_,_),(1,_,_),(5,_,_),(25,_,_)],[],[],[]⟩) (uAj (⟨sx rfl,sx rfl,sx rfl,sx rfl,trivial⟩) trivial trivial) ?_;refine uAl rfl (fun hc3=>?_) (fun hc3=>?_)
   ·try simp only [nn,uAi,Tk.rows_len] at hc3
    refine uAe (uAb ?_);refine uAa rfl rfl rfl (uAd rfl gU) ?_;refine uAf ?_;refine uAo ?_
    repeat (first | refine tR ?_ | refine bR ?_)
    refine uAr rfl ?_ trivial;exact uCV (by symm; exact decide_eq_false (by intro e; rw [e] at hc3; exact hc3 rfl))
   ·try simp only [nn,uAi,Tk.rows_len] at hc3
    refine uAp ?_;refine uAb ?_;refine uAa rfl rfl rfl (uAc rfl gU) ?_;refine uAa rfl rfl rfl (uAq rfl rfl gU gU rfl (IntWalk.i64_in _ (by omega))) ?_;refine uAa rfl rfl rfl (uAd rfl gU) ?_;refine uAf ?_;refine ⟨k + 1,?_,?_,uAj (⟨⟨_,rfl,?_⟩,⟨sx rfl,sx rfl,trivial⟩⟩) trivial trivial⟩
    all_goals (first | rfl | omega | (refine ⟨by omega,fun j hj=>?_⟩; by_cases q : j=k; { subst q; exact hc3 }; { exact hi j (by omega) }))
  ·try simp only [nn,uAi,Tk.rows_len] at hc2
   have he : a=b:=by
    apply List.ext_getElem?
    intro i
    by_cases hlt : i < a.length
    ·have := hi i (by omega)
     rw [List.getD_eq_getElem?_getD,List.getD_eq_getElem?_getD,List.getElem?_eq_getElem hlt,List.getElem?_eq_getElem (hl ▸ hlt)] at this
     rw [List.getElem?_eq_getElem hlt,List.getElem?_eq_getElem (hl ▸ hlt)]
     exact congrArg some this
    ·rw [List.getElem?_eq_none (by omega),List.getElem?_eq_none (by omega)]
   refine uAL ?_
   repeat (first | refine uAF ?_ | refine uAG ?_ | refine uAC rfl ?_)
   refine uAe (uAb ?_);refine uAa rfl rfl rfl (uAd rfl gU) ?_;refine uAf ?_;refine uAo ?_
   repeat (first | refine tR ?_ | refine bR ?_)
   refine uAr rfl ?_ trivial;exact uCV (by symm; exact decide_eq_true he)
theorem uDA (s : List UInt8) : Ctr sys 103 [xs s] [] (xb (uAO s)) none []:=uJ4 (uKA (uFb [] (by simp))) fun h=>uFb s h
end Go.Proofs.YtnjjdbapadkomaaGreatDoor
namespace Go.Proofs.YtnjjdbapadkomaaGreatDoor
open Go Go.Abs
theorem uDl {α : Type} {f : α→Int} {l : List α} {d : α} {k : Nat} {e : Int} (h : k < l.length) (hi : errs f (l.drop k)=e) : (f (l.getD k d)≠0→e=f (l.getD k d))∧(f (l.getD k d)=0→errs f (l.drop (k + 1))=e):=by
 rw [uJQ (d:=d) h,errs] at hi
 refine ⟨fun q=>?_,fun q=>?_⟩
 ·rw [if_pos q] at hi; exact hi.symm
 ·rw [if_neg (by rw [q]; simp)] at hi; exact hi
theorem uDX {α : Type} {f : α→Int} {l : List α} {k : Nat} {e : Int} (h : l.length≤k) (hi : errs f (l.drop k)=e) : e=0:=by
 rw [List.drop_of_length_le h] at hi; exact hi.symm
theorem uMY : ∀ (n : Nat) (t : T),t.size≤n→n≤2000000→Ctr sys 118 [xm t] [] (xi (rawE uAO t)) none []:=by
 intro n
 induction n with
 | zero=>intro t h; have := t.size_pos; omega
 | succ n ih =>
  intro t ht hn
  have hse:=t.size_eq
  have hrl:=T.rows_len t.kids
  have hls:=T.len_sizes t.kids
  have he:=uNp uAO t
  rw [uGq] at he
  refine uAz Tryz.func118 rfl rfl rfl rfl rfl rfl ?_;refine uAe (uAb ?_);refine uAt rfl (uBa rfl rfl rfl rfl) ?_;refine uAa rfl rfl rfl (uAd rfl gU) ?_;refine uAf ?_;refine uAe ?_;refine uAe (uAb ?_);refine uAa rfl rfl rfl (uAh rfl gU rfl rfl) ?_;refine uAa rfl rfl rfl (uAn rfl gU rfl rfl rfl rfl) ?_;refine uAa rfl rfl rfl (uAk rfl rfl gU gU rfl) ?_;refine uAa rfl rfl rfl (uAc rfl gU) ?_;refine uAa rfl rfl rfl (uAh rfl gU rfl rfl) ?_;refine uAa rfl rfl rfl (uAn rfl (fun hh=>hh) rfl rfl rfl rfl) ?_;refine uAa rfl rfl rfl (uAk rfl rfl (fun hh=>hh) gU rfl) ?_;refine uAa rfl rfl rfl (uAJ rfl rfl gU (fun _ hi=>gP rfl hi)) ?_;refine uAf ?_;refine uAm (s:=⟨[(1,_,_),(13,_,_)],[(.l 1,_)],[],[]⟩) (uAj (⟨sx rfl,sx rfl,trivial⟩) (⟨sx rfl,trivial⟩) trivial) ?_;refine uAl rfl (fun hc=>?_) (fun hc=>?_)
  ·try simp only [nn,uAi,T.rows_len,Fs.rows_len,Sp.rows_len,Gl.rows_len] at hc
   refine uAe (uAb ?_);refine uAa rfl rfl rfl (uAd rfl gU) ?_;refine uAf ?_;refine uAo ?_
   repeat (first | refine tR ?_ | refine bR ?_)
   refine uAr rfl ?_ trivial
   (rw [he,if_pos (by grind)]; rfl)
  ·try simp only [nn,uAi,T.rows_len,Fs.rows_len,Sp.rows_len,Gl.rows_len] at hc
   rw [if_neg (by grind)] at he
   refine uAp ?_;refine uAe ?_;refine uAe (uAb ?_);refine uAa rfl rfl rfl (uAh rfl gU rfl rfl) ?_;refine uAa rfl rfl rfl (uAn rfl gU rfl rfl rfl rfl) ?_;refine uAA rfl rfl rfl rfl rfl rfl gU gU (uDA _) rfl ?_;refine uAa rfl rfl rfl (uA8 rfl gU) ?_;refine uAf ?_;refine uAl rfl (fun hc2=>?_) (fun hc2=>?_)
   ·try simp only [nn,uAi,T.rows_len,Fs.rows_len,Sp.rows_len,Gl.rows_len] at hc2
    refine uAe (uAb ?_);refine uAa rfl rfl rfl (uAd rfl gU) ?_;refine uAf ?_;refine uAo ?_
    repeat (first | refine tR ?_ | refine bR ?_)
    refine uAr rfl ?_ trivial
    (rw [he,if_pos hc2]; rfl)
   ·try simp only [nn,uAi,T.rows_len,Fs.rows_len,Sp.rows_len,Gl.rows_len] at hc2
    rw [if_neg (by rw [hc2]; simp)] at he
    refine uAp ?_;refine uAe ?_;refine uAe (uAb ?_);refine uAa rfl rfl rfl (uAh rfl gU rfl rfl) ?_;refine uAa rfl rfl rfl (uAn rfl gU rfl rfl rfl rfl) ?_;refine uAR rfl rfl rfl rfl rfl gU rfl rfl ?_ (fun hh=>by simp at hh); intro hlen;refine uAa rfl rfl rfl (uAc rfl gU) ?_;refine uAf ?_;refine uAm (s:=⟨[(19,_,_),(20,_,_),(21,_,_)],[],[],[]⟩) (uAj (⟨sx rfl,sx rfl,sx rfl,trivial⟩) trivial trivial) ?_;refine uAs ?_;refine uAZ (ι:=Nat) { t:=[(19,_,_),(20,_,_)],bx:=[],ow:=[] } (fun k=>[(21,true,xi (k : Int))]) (fun k=>[]) (fun k=>k≤t.kids.length∧errs (rawE uAO) (t.kids.drop k)=rawE uAO t) (fun k=>t.kids.length - k) (0) (⟨by simp,by rw [he]; rfl⟩) (uAj (⟨sx rfl,sx rfl,sx rfl,trivial⟩) trivial trivial) ?_
    intro k hok
    dsimp only [List.cons_append,List.nil_append]
    obtain ⟨hk,hi⟩:=hok
    refine uAe (uAb ?_);refine uAa rfl rfl rfl (uAk rfl rfl gU gU rfl) ?_;refine uAf ?_;refine uAe ?_;refine uAl rfl (fun hc3=>?_) (fun hc3=>?_)
    ·try simp only [nn,uAi,T.rows_len,Fs.rows_len,Sp.rows_len,Gl.rows_len] at hc3
     have hlt : k < t.kids.length:=by omega
     have h2:=T.getD_size hlt
     have hd:=uDl (d:=default) hlt hi
     refine uAp ?_;refine uAe ?_;refine uAs ?_;refine uAe (uAb ?_);refine uAa rfl rfl rfl (uAu rfl rfl gU gU rfl rfl rfl (fun hh=>T.rows_at (by first | omega | (simp at hh ⊢; omega)))) ?_;refine uAa rfl rfl rfl (uAK rfl gU rfl rfl rfl rfl) ?_;refine uAt rfl (uAN rfl rfl rfl) ?_;refine uAt rfl (uAx rfl rfl rfl rfl rfl rfl rfl) ?_;refine uAf ?_;refine uAe (uAb ?_);refine uAa rfl rfl rfl (uAy rfl gU rfl rfl rfl rfl rfl) ?_;refine uAA rfl rfl rfl rfl rfl rfl gU gU (ih (t.kids.getD k default) (by omega) (by omega)) rfl ?_;refine uAa rfl rfl rfl (uAd rfl gU) ?_;refine uAf ?_;refine uAm (s:=⟨[(5,_,_),(19,_,_),(20,_,_),(21,_,_)],[],[],[]⟩) (uAj (⟨sx rfl,sx rfl,sx rfl,sx rfl,trivial⟩) trivial trivial) ?_;refine uAe (uAb ?_);refine uAa rfl rfl rfl (uAc rfl gU) ?_;refine uAa rfl rfl rfl (uAk rfl rfl gU gU rfl) ?_;refine uAf ?_;refine uAl rfl (fun hc1=>?_) (fun hc1=>?_)
     ·try simp only [nn,uAi,T.rows_len,Fs.rows_len,Sp.rows_len,Gl.rows_len] at hc1
      refine uAe (uAb ?_);refine uAa rfl rfl rfl (uAc rfl gU) ?_;refine uAa rfl rfl rfl (uAd rfl gU) ?_;refine uAf ?_;refine uAo ?_
      repeat (first | refine tR ?_ | refine bR ?_)
      refine uAr rfl ?_ trivial;exact uBr (hd.1 (by assumption)).symm
     ·try simp only [nn,uAi,T.rows_len,Fs.rows_len,Sp.rows_len,Gl.rows_len] at hc1
      refine uAp ?_;refine uAb ?_;refine uAa rfl rfl rfl (uAq rfl rfl gU gU rfl (IntWalk.i64_in _ (by omega))) ?_;refine uAa rfl rfl rfl (uAc rfl gU) ?_;refine uAf ?_;refine ⟨k + 1,?_,?_,uAj (⟨⟨_,rfl,?_⟩,⟨sx rfl,sx rfl,trivial⟩⟩) trivial trivial⟩
      all_goals (first | rfl | omega | exact ⟨by omega,hd.2 (by assumption)⟩)
    ·try simp only [nn,uAi,T.rows_len,Fs.rows_len,Sp.rows_len,Gl.rows_len] at hc3
     refine uAL ?_
     repeat (first | refine uAF ?_ | refine uAG ?_ | refine uAC rfl ?_)
     refine uAe (uAb ?_);refine uAa rfl rfl rfl (uAd rfl gU) ?_;refine uAf ?_;refine uAo ?_
     repeat (first | refine tR ?_ | refine bR ?_)
     refine uAr rfl ?_ trivial;exact uBr (uDX (by omega) hi).symm
theorem uDy (t : T) (ht : t.size≤900000) : Ctr sys 67 [xm t] [] (xi (uDN uAO t)) none []:=by
 refine uAz Tryz.func67 rfl rfl rfl rfl rfl rfl ?_;refine uAe (uAb ?_);refine uAt rfl (uBa rfl rfl rfl rfl) ?_;refine uAa rfl rfl rfl (uAd rfl gU) ?_;refine uAf ?_;refine uAe ?_;refine uAe (uAb ?_);refine uAa rfl rfl rfl (uAy rfl gU rfl rfl rfl rfl rfl) ?_;refine uAA rfl rfl rfl rfl rfl rfl gU gU (uJw _ (by omega)) rfl ?_;refine uAa rfl rfl rfl (uAd rfl gU) ?_;refine uAf ?_;refine uAm (s:=⟨[(1,_,_),(3,_,_)],[(.l 1,_)],[],[]⟩) (uAj (⟨sx rfl,sx rfl,trivial⟩) (⟨sx rfl,trivial⟩) trivial) ?_;refine uAe (uAb ?_);refine uAa rfl rfl rfl (uAc rfl gU) ?_;refine uAa rfl rfl rfl (uAk rfl rfl gU gU rfl) ?_;refine uAf ?_;refine uAl rfl (fun hc=>?_) (fun hc=>?_)
 ·try simp only [nn,uAi,T.rows_len,Fs.rows_len,Sp.rows_len,Gl.rows_len] at hc
  refine uAe (uAb ?_);refine uAa rfl rfl rfl (uAc rfl gU) ?_;refine uAa rfl rfl rfl (uAd rfl gU) ?_;refine uAf ?_;refine uAo ?_
  repeat (first | refine tR ?_ | refine bR ?_)
  refine uAr rfl ?_ trivial
  (rw [uDN,if_pos hc]; rfl)
 ·try simp only [nn,uAi,T.rows_len,Fs.rows_len,Sp.rows_len,Gl.rows_len] at hc
  refine uAp ?_;refine uAe (uAb ?_);refine uAa rfl rfl rfl (uAy rfl gU rfl rfl rfl rfl rfl) ?_;refine uAA rfl rfl rfl rfl rfl rfl gU gU (uMY _ _ (Nat.le_refl _) (by omega)) rfl ?_;refine uAa rfl rfl rfl (uAd rfl gU) ?_;refine uAf ?_;refine uAo ?_
  repeat (first | refine tR ?_ | refine bR ?_)
  refine uAr rfl ?_ trivial
  (rw [uDN,if_neg (by simpa using hc)]; rfl)
theorem uEW (t : T) (ht : t.size≤900000) : Ctr sys 51 [xm t] [] (xi (msgE uAO t)) none []:=by
 refine uAz Tryz.func51 rfl rfl rfl rfl rfl rfl ?_;refine uAe (uAb ?_);refine uAt rfl (uBa rfl rfl rfl rfl) ?_;refine uAa rfl rfl rfl (uAd rfl gU) ?_;refine uAf ?_;refine uAe ?_;refine uAe (uAb ?_);refine uAa rfl rfl rfl (uAy rfl gU rfl rfl rfl rfl rfl) ?_;refine uAA rfl rfl rfl rfl rfl rfl gU gU (uDy _ (by omega)) rfl ?_;refine uAa rfl rfl rfl (uAd rfl gU) ?_;refine uAf ?_;refine uAm (s:=⟨[(1,_,_),(3,_,_)],[(.l 1,_)],[],[]⟩) (uAj (⟨sx rfl,sx rfl,trivial⟩) (⟨sx rfl,trivial⟩) trivial) ?_;refine uAe (uAb ?_);refine uAa rfl rfl rfl (uAc rfl gU) ?_;refine uAa rfl rfl rfl (uAk rfl rfl gU gU rfl) ?_;refine uAf ?_;refine uAl rfl (fun hc=>?_) (fun hc=>?_)
 ·try simp only [nn,uAi,T.rows_len,Fs.rows_len,Sp.rows_len,Gl.rows_len] at hc
  refine uAe (uAb ?_);refine uAa rfl rfl rfl (uAc rfl gU) ?_;refine uAa rfl rfl rfl (uAd rfl gU) ?_;refine uAf ?_;refine uAo ?_
  repeat (first | refine tR ?_ | refine bR ?_)
  refine uAr rfl ?_ trivial
  (rw [msgE,if_pos hc]; rfl)
 ·try simp only [nn,uAi,T.rows_len,Fs.rows_len,Sp.rows_len,Gl.rows_len] at hc
  refine uAp ?_;refine uAe ?_;refine uAe (uAb ?_);refine uAa rfl rfl rfl (uAy rfl gU rfl rfl rfl rfl rfl) ?_;refine uAA rfl rfl rfl rfl rfl rfl gU gU (uKw _ _ (Nat.le_refl _) (by omega)) rfl ?_;refine uAa rfl rfl rfl (uAk rfl rfl gU gU rfl) ?_;refine uAf ?_;refine uAm (s:=⟨[(11,_,_)],[],[],[]⟩) (uAj (⟨sx rfl,trivial⟩) trivial trivial) ?_;refine uAl rfl (fun hc2=>?_) (fun hc2=>?_)
  ·try simp only [nn,uAi,T.rows_len,Fs.rows_len,Sp.rows_len,Gl.rows_len] at hc2
   refine uAe (uAb ?_);refine uAa rfl rfl rfl (uAd rfl gU) ?_;refine uAf ?_;refine uAo ?_
   repeat (first | refine tR ?_ | refine bR ?_)
   refine uAr rfl ?_ trivial
   (rw [msgE,if_neg (by simpa using hc),if_pos (by omega)]; rfl)
  ·try simp only [nn,uAi,T.rows_len,Fs.rows_len,Sp.rows_len,Gl.rows_len] at hc2
   refine uAp ?_;refine uAe (uAb ?_);refine uAa rfl rfl rfl (uAd rfl gU) ?_;refine uAf ?_;refine uAo ?_
   repeat (first | refine tR ?_ | refine bR ?_)
   refine uAr rfl ?_ trivial
   (rw [msgE,if_neg (by simpa using hc),if_neg (by omega)]; rfl)
theorem uBV (g : Gl) : Ctr sys 96 [xg g] [] (xb (uBA g.kind)) none []:=by
 refine uAz Tryz.func96 rfl rfl rfl rfl rfl rfl ?_;refine uAe (uAb ?_);refine uAt rfl (uBa rfl rfl rfl rfl) ?_;refine uAa rfl rfl rfl (uAd rfl gU) ?_;refine uAf ?_;refine uAe (uAb ?_);refine uAa rfl rfl rfl (uAh rfl gU rfl rfl) ?_;refine uAa rfl rfl rfl (uAn rfl gU rfl rfl rfl rfl) ?_;refine uAa rfl rfl rfl (uAk rfl rfl gU gU rfl) ?_;refine uAa rfl rfl rfl (uAc rfl gU) ?_;refine uAa rfl rfl rfl (uAh rfl gU rfl rfl) ?_;refine uAa rfl rfl rfl (uAn rfl (fun hh=>hh) rfl rfl rfl rfl) ?_;refine uAa rfl rfl rfl (uAk rfl rfl (fun hh=>hh) gU rfl) ?_;refine uAa rfl rfl rfl (uAJ rfl rfl gU (fun _ hi=>gP rfl hi)) ?_;refine uAa rfl rfl rfl (uAd rfl gU) ?_;refine uAf ?_;refine uAo ?_
 repeat (first | refine tR ?_ | refine bR ?_)
 refine uAr rfl ?_ trivial
 rfl
theorem uCI (s : List UInt8) : Ctr sys 50 [xs s] [] (xb (!uAO s)) none []:=by
 refine uAz Tryz.func50 rfl rfl rfl rfl rfl rfl ?_;refine uAe (uAb ?_);refine uAa rfl rfl rfl (uAd rfl gU) ?_;refine uAf ?_;refine uAe (uAb ?_);refine uAa rfl rfl rfl (uAc rfl gU) ?_;refine uAA rfl rfl rfl rfl rfl rfl gU gU (uDA _) rfl ?_;refine uAa rfl rfl rfl (uA8 rfl gU) ?_;refine uAa rfl rfl rfl (uAd rfl gU) ?_;refine uAf ?_;refine uAo ?_
 repeat (first | refine tR ?_ | refine bR ?_)
 refine uAr rfl ?_ trivial
 rfl
theorem uK6 (g : Gl) (hg : T.sizes g.data≤900000) : Ctr sys 52 [xg g] [] (xi (uCL uAO g)) none []:=by
 have hls:=T.len_sizes g.data
 have hrl:=T.rows_len g.data
 refine uAz Tryz.func52 rfl rfl rfl rfl rfl rfl ?_;refine uAe (uAb ?_);refine uAt rfl (uBa rfl rfl rfl rfl) ?_;refine uAa rfl rfl rfl (uAd rfl gU) ?_;refine uAf ?_;refine uAe (uAb ?_);refine uAa rfl rfl rfl (uAh rfl gU rfl rfl) ?_;refine uAa rfl rfl rfl (uAn rfl gU rfl rfl rfl rfl) ?_;refine uAR rfl rfl rfl rfl rfl gU rfl rfl ?_ (fun hh=>by simp at hh); intro hlen;refine uAa rfl rfl rfl (uAd rfl gU) ?_;refine uAf ?_;refine uAm (s:=⟨[(1,_,_),(3,_,_)],[(.l 1,_)],[],[]⟩) (uAj (⟨sx rfl,sx rfl,trivial⟩) (⟨sx rfl,trivial⟩) trivial) ?_;refine uAe ?_;refine uAs ?_;refine uAe (uAb ?_);refine uAa rfl rfl rfl (uAh rfl gU rfl rfl) ?_;refine uAa rfl rfl rfl (uAn rfl gU rfl rfl rfl rfl) ?_;refine uAa rfl rfl rfl (uAk rfl rfl gU gU rfl) ?_;refine uAa rfl rfl rfl (uAc rfl gU) ?_;refine uAa rfl rfl rfl (uAh rfl gU rfl rfl) ?_;refine uAa rfl rfl rfl (uAn rfl (fun hh=>hh) rfl rfl rfl rfl) ?_;refine uAa rfl rfl rfl (uAk rfl rfl (fun hh=>hh) gU rfl) ?_;refine uAa rfl rfl rfl (uAJ rfl rfl gU (fun _ hi=>gP rfl hi)) ?_;refine uAa rfl rfl rfl (uAd rfl gU) ?_;refine uAf ?_;refine uAm (s:=⟨[(1,_,_),(3,_,_),(10,_,_)],[(.l 1,_)],[],[]⟩) (uAj (⟨sx rfl,sx rfl,sx rfl,trivial⟩) (⟨sx rfl,trivial⟩) trivial) ?_
 refine uAl rfl (fun hc=>?_) (fun hc=>?_)
 ·try simp only [nn,uAi,T.rows_len,Fs.rows_len,Sp.rows_len,Gl.rows_len] at hc
  refine uAe (uAb ?_);refine uAa rfl rfl rfl (uAd rfl gU) ?_;refine uAf ?_;refine uAo ?_
  repeat (first | refine tR ?_ | refine bR ?_)
  refine uAr rfl ?_ trivial
  (rw [uCL,if_pos (by grind)]; rfl)
 ·try simp only [nn,uAi,T.rows_len,Fs.rows_len,Sp.rows_len,Gl.rows_len] at hc
  refine uAe (uAb ?_);refine uAa rfl rfl rfl (uAh rfl gU rfl rfl) ?_;refine uAa rfl rfl rfl (uAn rfl gU rfl rfl rfl rfl) ?_;refine uAA rfl rfl rfl rfl rfl rfl gU gU (uDA _) rfl ?_;refine uAa rfl rfl rfl (uA8 rfl gU) ?_;refine uAa rfl rfl rfl (uAc rfl gU) ?_;refine uAa rfl rfl rfl (uAy rfl gU rfl rfl rfl rfl rfl) ?_;refine uAA rfl rfl rfl rfl rfl rfl gU (fun hh=>gA ((fun hh=>hh) hh) (rfl)) (uBV _) rfl ?_;refine uAa rfl rfl rfl (uAc rfl (fun hh=>hh)) ?_;refine uAa rfl rfl rfl (uAh rfl gU rfl rfl) ?_;refine uAa rfl rfl rfl (uAn rfl (fun hh=>hh) rfl rfl rfl rfl) ?_;refine uAA rfl rfl rfl rfl rfl rfl gU (fun hh=>gA ((fun hh=>hh) hh) (rfl)) (uDA _) rfl ?_;refine uAa rfl rfl rfl (uA8 rfl (fun hh=>hh)) ?_;refine uBB (s:=⟨[(1,_,_),(3,_,_),(24,_,_),(27,_,_),(31,_,_)],[(.l 1,_)],[],[]⟩) (uAj (⟨sx rfl,sx rfl,sx rfl,sx rfl,sx rfl,trivial⟩) (⟨sx rfl,trivial⟩) trivial) ?_;refine uAa rfl rfl rfl (uAX rfl rfl (fun hh=>hh) (fun hh hi=>gP hh hi)) ?_;refine uAa rfl rfl rfl (uAJ rfl rfl gU (fun _ hi=>gP rfl hi)) ?_;refine uAa rfl rfl rfl (uAd rfl gU) ?_;refine uAf ?_;refine uAl rfl (fun hc2=>?_) (fun hc2=>?_)
  ·try simp only [nn,uAi,T.rows_len,Fs.rows_len,Sp.rows_len,Gl.rows_len] at hc2
   refine uAe (uAb ?_);refine uAa rfl rfl rfl (uAd rfl gU) ?_;refine uAf ?_;refine uAo ?_
   repeat (first | refine tR ?_ | refine bR ?_)
   refine uAr rfl ?_ trivial
   (rw [uCL,if_neg (by grind),if_pos (by grind)]; rfl)
  ·try simp only [nn,uAi,T.rows_len,Fs.rows_len,Sp.rows_len,Gl.rows_len] at hc2
   refine uAe (uAb ?_);refine uAa rfl rfl rfl (uAy rfl gU rfl rfl rfl rfl rfl) ?_;refine uAA rfl rfl rfl rfl rfl rfl gU gU (uBV _) rfl ?_;refine uAa rfl rfl rfl (uA8 rfl gU) ?_;refine uAa rfl rfl rfl (uAc rfl gU) ?_;refine uAa rfl rfl rfl (uAh rfl gU rfl rfl) ?_;refine uAa rfl rfl rfl (uAn rfl (fun hh=>hh) rfl rfl rfl rfl) ?_;refine uAa rfl rfl rfl (uAW rfl rfl (fun hh=>hh) gU rfl) ?_;refine uAa rfl rfl rfl (uAX rfl rfl gU (fun _ hi=>gP rfl hi)) ?_;refine uAa rfl rfl rfl (uAd rfl gU) ?_;refine uAf ?_;refine uAm (s:=⟨[(1,_,_),(3,_,_),(34,_,_)],[(.l 1,_)],[],[]⟩) (uAj (⟨sx rfl,sx rfl,sx rfl,trivial⟩) (⟨sx rfl,trivial⟩) trivial) ?_;refine uAl rfl (fun hc3=>?_) (fun hc3=>?_)
   ·try simp only [nn,uAi,T.rows_len,Fs.rows_len,Sp.rows_len,Gl.rows_len] at hc3
    refine uAe (uAb ?_);refine uAa rfl rfl rfl (uAd rfl gU) ?_;refine uAf ?_;refine uAo ?_
    repeat (first | refine tR ?_ | refine bR ?_)
    refine uAr rfl ?_ trivial
    (rw [uCL,if_neg (by grind),if_neg (by grind),if_pos (by grind)]; rfl)
   ·try simp only [nn,uAi,T.rows_len,Fs.rows_len,Sp.rows_len,Gl.rows_len] at hc3
    refine uAe (uAb ?_);refine uAa rfl rfl rfl (uAy rfl gU rfl rfl rfl rfl rfl) ?_;refine uAA rfl rfl rfl rfl rfl rfl gU gU (uBV _) rfl ?_;refine uAa rfl rfl rfl (uAc rfl gU) ?_;refine uAa rfl rfl rfl (uAc rfl gU) ?_;refine uAa rfl rfl rfl (uAk rfl rfl (fun hh=>hh) gU rfl) ?_;refine uAa rfl rfl rfl (uAc rfl (fun hh=>hh)) ?_;refine uAa rfl rfl rfl (uAc rfl gU) ?_;refine uAa rfl rfl rfl (uAk rfl rfl (fun hh=>hh) gU rfl) ?_;refine uAa rfl rfl rfl (uAJ rfl rfl (fun hh=>hh) (fun hh hi=>gP hh hi)) ?_;refine uAa rfl rfl rfl (uAX rfl rfl gU (fun _ hi=>gP rfl hi)) ?_;refine uAa rfl rfl rfl (uAc rfl gU) ?_;refine uAa rfl rfl rfl (uAy rfl gU rfl rfl rfl rfl rfl) ?_;refine uBB (s:=⟨[(1,_,_),(3,_,_),(54,_,_),(55,_,_)],[(.l 1,_)],[],[]⟩) (uAj (⟨sx rfl,sx rfl,sx rfl,sx rfl,trivial⟩) (⟨sx rfl,trivial⟩) trivial) ?_;refine uAA rfl rfl rfl rfl rfl rfl gU (fun hh=>gA ((fun hh=>hh) hh) (rfl)) (uBV _) rfl ?_;refine uAa rfl rfl rfl (uA8 rfl (fun hh=>hh)) ?_;refine uAa rfl rfl rfl (uAc rfl (fun hh=>hh)) ?_;refine uAa rfl rfl rfl (uAc rfl gU) ?_;refine uAa rfl rfl rfl (uAk rfl rfl (fun hh=>hh) gU rfl) ?_;refine uAa rfl rfl rfl (uAX rfl rfl (fun hh=>hh) (fun hh hi=>gP hh hi)) ?_;refine uAa rfl rfl rfl (uAJ rfl rfl gU (fun _ hi=>gP rfl hi)) ?_
    refine uAa rfl rfl rfl (uAd rfl gU) ?_;refine uAf ?_;refine uAm (s:=⟨[(1,_,_),(43,_,_)],[(.l 1,_)],[],[]⟩) (uAj (⟨sx rfl,sx rfl,trivial⟩) (⟨sx rfl,trivial⟩) trivial) ?_;refine uAl rfl (fun hc4=>?_) (fun hc4=>?_)
    ·try simp only [nn,uAi,T.rows_len,Fs.rows_len,Sp.rows_len,Gl.rows_len] at hc4
     refine uAe (uAb ?_);refine uAa rfl rfl rfl (uAd rfl gU) ?_;refine uAf ?_;refine uAo ?_
     repeat (first | refine tR ?_ | refine bR ?_)
     refine uAr rfl ?_ trivial
     (rw [uCL,if_neg (by grind),if_neg (by grind),if_neg (by grind),if_pos (by grind)]; rfl)
    ·try simp only [nn,uAi,T.rows_len,Fs.rows_len,Sp.rows_len,Gl.rows_len] at hc4
     have he : uCL uAO g=errs (msgE uAO) g.data:=by rw [uCL,if_neg (by grind),if_neg (by grind),if_neg (by grind),if_neg (by grind)]
     refine uAp ?_;refine uAe ?_;refine uAe (uAb ?_);refine uAa rfl rfl rfl (uAh rfl gU rfl rfl) ?_;refine uAa rfl rfl rfl (uAn rfl gU rfl rfl rfl rfl) ?_;refine uAR rfl rfl rfl rfl rfl gU rfl rfl ?_ (fun hh=>by simp at hh); intro hlen;refine uAa rfl rfl rfl (uAc rfl gU) ?_;refine uAf ?_;refine uAs ?_;refine uAZ (ι:=Nat) { t:=[(64,_,_),(65,_,_)],bx:=[],ow:=[] } (fun k=>[(66,true,xi (k : Int))]) (fun k=>[]) (fun k=>k≤g.data.length∧errs (msgE uAO) (g.data.drop k)=uCL uAO g) (fun k=>g.data.length - k) (0) (⟨by simp,by rw [he]; rfl⟩) (uAj (⟨sx rfl,sx rfl,sx rfl,trivial⟩) trivial trivial) ?_
     intro k hok
     dsimp only [List.cons_append,List.nil_append]
     obtain ⟨hk,hi⟩:=hok
     refine uAe (uAb ?_);refine uAa rfl rfl rfl (uAk rfl rfl gU gU rfl) ?_;refine uAf ?_;refine uAe ?_;refine uAl rfl (fun hc5=>?_) (fun hc5=>?_)
     ·try simp only [nn,uAi,T.rows_len,Fs.rows_len,Sp.rows_len,Gl.rows_len] at hc5
      have hlt : k < g.data.length:=by omega
      have h2:=T.getD_size hlt
      have hd:=uDl (d:=default) hlt hi
      refine uAp ?_;refine uAe ?_;refine uAs ?_;refine uAe (uAb ?_);refine uAa rfl rfl rfl (uAu rfl rfl gU gU rfl rfl rfl (fun hh=>T.rows_at (by first | omega | (simp at hh ⊢; omega)))) ?_;refine uAa rfl rfl rfl (uAK rfl gU rfl rfl rfl rfl) ?_;refine uAt rfl (uAN rfl rfl rfl) ?_;refine uAt rfl (uAx rfl rfl rfl rfl rfl rfl rfl) ?_;refine uAf ?_;refine uAe (uAb ?_);refine uAa rfl rfl rfl (uAy rfl gU rfl rfl rfl rfl rfl) ?_;refine uAA rfl rfl rfl rfl rfl rfl gU gU (uEW _ (by omega)) rfl ?_;refine uAa rfl rfl rfl (uAd rfl gU) ?_;refine uAf ?_;refine uAm (s:=⟨[(6,_,_),(64,_,_),(65,_,_),(66,_,_)],[],[],[]⟩) (uAj (⟨sx rfl,sx rfl,sx rfl,sx rfl,trivial⟩) trivial trivial) ?_;refine uAe (uAb ?_);refine uAa rfl rfl rfl (uAc rfl gU) ?_;refine uAa rfl rfl rfl (uAk rfl rfl gU gU rfl) ?_;refine uAf ?_;refine uAl rfl (fun hc1=>?_) (fun hc1=>?_)
      ·try simp only [nn,uAi,T.rows_len,Fs.rows_len,Sp.rows_len,Gl.rows_len] at hc1
       refine uAe (uAb ?_);refine uAa rfl rfl rfl (uAc rfl gU) ?_;refine uAa rfl rfl rfl (uAd rfl gU) ?_;refine uAf ?_;refine uAo ?_
       repeat (first | refine tR ?_ | refine bR ?_)
       refine uAr rfl ?_ trivial;exact uBr (hd.1 (by assumption)).symm
      ·try simp only [nn,uAi,T.rows_len,Fs.rows_len,Sp.rows_len,Gl.rows_len] at hc1
       refine uAp ?_;refine uAb ?_;refine uAa rfl rfl rfl (uAq rfl rfl gU gU rfl (IntWalk.i64_in _ (by omega))) ?_;refine uAa rfl rfl rfl (uAc rfl gU) ?_;refine uAf ?_;refine ⟨k + 1,?_,?_,uAj (⟨⟨_,rfl,?_⟩,⟨sx rfl,sx rfl,trivial⟩⟩) trivial trivial⟩
       all_goals (first | rfl | omega | exact ⟨by omega,hd.2 (by assumption)⟩)
     ·try simp only [nn,uAi,T.rows_len,Fs.rows_len,Sp.rows_len,Gl.rows_len] at hc5
      refine uAL ?_
      repeat (first | refine uAF ?_ | refine uAG ?_ | refine uAC rfl ?_)
      refine uAe (uAb ?_);refine uAa rfl rfl rfl (uAd rfl gU) ?_;refine uAf ?_;refine uAo ?_
      repeat (first | refine tR ?_ | refine bR ?_)
      refine uAr rfl ?_ trivial;exact uBr (uDX (by omega) hi).symm
end Go.Proofs.YtnjjdbapadkomaaGreatDoor
namespace Go.Proofs.YtnjjdbapadkomaaGreatDoor
open Go Go.Abs
def idxF (p : List UInt8→Bool) : List (List UInt8)→Int
 | []=>-1
 | x :: r=>if p x=true then 0 else if idxF p r < 0 then -1 else idxF p r + 1
theorem uH4 {p : List UInt8→Bool} {l : List (List UInt8)} {k : Nat} {e : Int} (h : k < l.length) (hi : (if idxF p (l.drop k) < 0 then -1 else idxF p (l.drop k) + k)=e) :
  (p (l.getD k [])=true→e=k)∧(p (l.getD k [])=false→(if idxF p (l.drop (k + 1)) < 0 then -1 else idxF p (l.drop (k + 1)) + (k + 1 : Nat))=e):=by
 rw [uJQ (d:=[]) h,idxF] at hi
 refine ⟨fun q=>?_,fun q=>?_⟩
 ·rw [if_pos q] at hi; simp at hi; omega
 ·rw [q] at hi
  simp only [Bool.false_eq_true,if_false] at hi
  generalize idxF p (List.drop (k + 1) l)=x at hi ⊢
  rw [← hi]
  by_cases hx : x < 0
  ·rw [if_pos hx,if_pos hx]; simp
  ·rw [if_neg hx,if_neg hx,if_neg (by omega)]; push_cast; omega
theorem uCB {α : Type} {l : List α} {d : α} {k : Nat} (h : k < l.length) : l.getD k d ∈ l:=by
 rw [List.getD_eq_getElem?_getD,List.getElem?_eq_getElem h]
 exact List.getElem_mem h
theorem uJb {p : List UInt8→Bool} {l : List (List UInt8)} {k : Nat} {e : Int} (h : l.length≤k) (hi : (if idxF p (l.drop k) < 0 then -1 else idxF p (l.drop k) + k)=e) : e = -1:=by
 rw [List.drop_of_length_le h] at hi; simpa [idxF] using hi.symm
theorem uG1 (p : List UInt8→Bool) (l : List (List UInt8)) : (if idxF p (l.drop 0) < 0 then -1 else idxF p (l.drop 0) + ((0 : Nat) : Int))=if idxF p l < 0 then -1 else idxF p l:=by simp
theorem uKC (p : List UInt8→Bool) : ∀ l : List (List UInt8),-1≤idxF p l
 | []=>by simp [idxF]
 | x :: r=>by have := uKC p r; rw [idxF]; split; omega; split <;> omega
theorem uHP (p : List UInt8→Bool) (l : List (List UInt8)) : (if idxF p l < 0 then -1 else idxF p l)=idxF p l := by have := uKC p l; split <;> omega
theorem uGN (p : List UInt8→Bool) : ∀ l : List (List UInt8),decide (idxF p l ≥ 0)=l.any p
 | []=>by simp [idxF]
 | x :: r=>by
  have ih:=uGN p r
  rw [idxF,List.any_cons,← ih]
  by_cases h : p x=true
  ·rw [if_pos h,h]; simp
  ·rw [if_neg h]
   have h' : p x=false:=by simpa using h
   rw [h',Bool.false_or]
   split
   ·rename_i h1; simp; omega
   ·rename_i h1; rw [Bool.eq_iff_iff]; simp; omega
theorem uHc (l : List (List UInt8)) : Ctr sys 140 [xss l, .fn 50 []] [] (xi (idxF (fun s=>!uAO s) l)) none []:=by
 have hrl:=uAi l
 refine uAz Tryz.func140 rfl rfl rfl rfl rfl rfl ?_;refine uAe (uAb ?_);refine uAa rfl rfl rfl (uAd rfl gU) ?_;refine uAf ?_;refine uAe ?_;refine uAe (uAb ?_);refine uAa rfl rfl rfl (uAc rfl gU) ?_;refine uAR rfl rfl rfl rfl rfl gU rfl rfl ?_ (fun hh=>by simp at hh); intro hlen;refine uAa rfl rfl rfl (uAc rfl gU) ?_;refine uAf ?_;refine uAs ?_;refine uAZ (ι:=Nat) { t:=[(0,_,_),(1,_,_),(7,_,_)],bx:=[],ow:=[] } (fun k=>[(8,true,xi (k : Int))]) (fun k=>[]) (fun k=>k≤l.length∧(if idxF (fun s=>!uAO s) (l.drop k) < 0 then -1 else idxF (fun s=>!uAO s) (l.drop k) + k)=idxF (fun s=>!uAO s) l) (fun k=>l.length - k) (0) (⟨by simp,(uG1 _ _).trans (uHP _ _)⟩) (uAj (⟨sx rfl,sx rfl,sx rfl,sx rfl,trivial⟩) trivial trivial) ?_
 intro k hok
 dsimp only [List.cons_append,List.nil_append]
 obtain ⟨hk,hi⟩:=hok
 refine uAe (uAb ?_);refine uAa rfl rfl rfl (uAk rfl rfl gU gU rfl) ?_;refine uAf ?_;refine uAe ?_;refine uAl rfl (fun hc=>?_) (fun hc=>?_)
 ·try simp only [nn,uAi,T.rows_len,Fs.rows_len,Sp.rows_len,Gl.rows_len] at hc
  have hd:=uH4 (k:=k) (l:=l) (by omega) hi
  refine uAp ?_;refine uAe ?_;refine uAs ?_;refine uAe (uAb ?_);refine uAa rfl rfl rfl (uAc rfl gU) ?_;refine uAa rfl rfl rfl (uAd rfl gU) ?_;refine uAf ?_;refine uAe (uAb ?_);refine uAa rfl rfl rfl (uAc rfl gU) ?_;refine uAa rfl rfl rfl (uAc rfl gU) ?_;refine uAa rfl rfl rfl (uAc rfl gU) ?_;refine uAa rfl rfl rfl (uAu rfl rfl gU gU rfl rfl rfl (fun hh=>uCK (by first | omega | (simp at hh ⊢; omega)))) ?_;refine uAa rfl rfl rfl (uAP rfl gU rfl rfl rfl) ?_;refine uAA rfl rfl rfl rfl rfl rfl gU gU (uCI _) rfl ?_;refine uAf ?_;refine uAm (s:=⟨[(0,_,_),(1,_,_),(5,_,_),(7,_,_),(8,_,_),(16,_,_)],[],[],[]⟩) (uAj (⟨sx rfl,sx rfl,sx rfl,sx rfl,sx rfl,sx rfl,trivial⟩) trivial trivial) ?_;refine uAl rfl (fun hc2=>?_) (fun hc2=>?_)
  ·try simp only [nn,uAi,T.rows_len,Fs.rows_len,Sp.rows_len,Gl.rows_len] at hc2
   refine uAe (uAb ?_);refine uAa rfl rfl rfl (uAc rfl gU) ?_;refine uAa rfl rfl rfl (uAd rfl gU) ?_;refine uAf ?_;refine uAo ?_
   repeat (first | refine tR ?_ | refine bR ?_)
   refine uAr rfl ?_ trivial;exact uBr (hd.1 (by simpa using hc2)).symm
  ·try simp only [nn,uAi,T.rows_len,Fs.rows_len,Sp.rows_len,Gl.rows_len] at hc2
   refine uAp ?_;refine uAb ?_;refine uAa rfl rfl rfl (uAq rfl rfl gU gU rfl (IntWalk.i64_in _ (by omega))) ?_;refine uAa rfl rfl rfl (uAc rfl gU) ?_;refine uAf ?_;refine ⟨k + 1,?_,?_,uAj (⟨⟨_,rfl,?_⟩,⟨sx rfl,sx rfl,sx rfl,trivial⟩⟩) trivial trivial⟩
   all_goals (first | rfl | omega | exact ⟨by omega,hd.2 (by simpa using hc2)⟩)
 ·try simp only [nn,uAi,T.rows_len,Fs.rows_len,Sp.rows_len,Gl.rows_len] at hc
  refine uAL ?_
  repeat (first | refine uAF ?_ | refine uAG ?_ | refine uAC rfl ?_)
  refine uAe (uAb ?_);refine uAa rfl rfl rfl (uAd rfl gU) ?_;refine uAf ?_;refine uAo ?_
  repeat (first | refine tR ?_ | refine bR ?_)
  refine uAr rfl ?_ trivial;exact uBr (uJb (by omega) hi).symm
theorem uEr (l : List (List UInt8)) : Ctr sys 102 [xss l, .fn 50 []] [] (xb (l.any fun s=>!uAO s)) none []:=by
 refine uAz Tryz.func102 rfl rfl rfl rfl rfl rfl ?_;refine uAe (uAb ?_);refine uAa rfl rfl rfl (uAd rfl gU) ?_;refine uAf ?_;refine uAe (uAb ?_);refine uAa rfl rfl rfl (uAc rfl gU) ?_;refine uAa rfl rfl rfl (uAc rfl gU) ?_;refine uAA rfl rfl rfl rfl rfl rfl gU gU (uHc _) rfl ?_;refine uAa rfl rfl rfl (uAk rfl rfl gU gU rfl) ?_;refine uAa rfl rfl rfl (uAd rfl gU) ?_;refine uAf ?_;refine uAo ?_
 repeat (first | refine tR ?_ | refine bR ?_)
 refine uAr rfl ?_ trivial;exact uCV (uGN _ l)
theorem uF3 (l : List (List UInt8)) : (l.any fun s=>!uAO s) = !(l.all uAO):=by
 induction l with
 | nil=>rfl
 | cons x r ih=>rw [List.any_cons,List.all_cons,ih,Bool.not_and]
theorem uLy (n : Nar) : Ctr sys 49 [xn n] [] (xi (uEq uAO n)) none []:=by
 have h1:=uAi n.roles
 have h2:=uAi n.tags
 have h3:=Fs.rows_len n.fresh
 have h4:=Sp.rows_len n.steps
 have h5:=Gl.rows_len n.goals
 refine uAz Tryz.func49 rfl rfl rfl rfl rfl rfl ?_;refine uAe (uAb ?_);refine uAt rfl (uBa rfl rfl rfl rfl) ?_;refine uAa rfl rfl rfl (uAd rfl gU) ?_;refine uAf ?_;refine uAe ?_;refine uAs ?_;refine uAe (uAb ?_);refine uAa rfl rfl rfl (uAh rfl gU rfl rfl) ?_;refine uAa rfl rfl rfl (uAn rfl gU rfl rfl rfl rfl) ?_;refine uAA rfl rfl rfl rfl rfl rfl gU gU (uCI _) rfl ?_;refine uAa rfl rfl rfl (uAd rfl gU) ?_;refine uAf ?_;refine uAm (s:=⟨[(1,_,_),(5,_,_)],[(.l 1,_)],[],[]⟩) (uAj (⟨sx rfl,sx rfl,trivial⟩) (⟨sx rfl,trivial⟩) trivial) ?_;refine uAl rfl (fun hc=>?_) (fun hc=>?_)
 ·try simp only [nn,uAi,T.rows_len,Fs.rows_len,Sp.rows_len,Gl.rows_len] at hc
  refine uAe (uAb ?_);refine uAa rfl rfl rfl (uAd rfl gU) ?_;refine uAf ?_;refine uAo ?_
  repeat (first | refine tR ?_ | refine bR ?_)
  refine uAr rfl ?_ trivial
  (rw [uEq,if_pos (by simpa using hc)]; rfl)
 ·try simp only [nn,uAi,T.rows_len,Fs.rows_len,Sp.rows_len,Gl.rows_len] at hc
  have hn : uAO n.name=true:=by simpa using hc
  have e1 : uEq uAO n=if cntE n≠0 then cntE n else if n.roles.all uAO=false then 2 else if errs (frE uAO) n.fresh≠0 then errs (frE uAO) n.fresh else if n.tags.all uAO=false then 2 else 0:=by rw [uEq,if_neg (by rw [hn]; simp)]
  refine uAe (uAb ?_);refine uAa rfl rfl rfl (uAh rfl gU rfl rfl) ?_;refine uAa rfl rfl rfl (uAn rfl gU rfl rfl rfl rfl) ?_;refine uAR rfl rfl rfl rfl rfl gU rfl rfl ?_ (fun hh=>by simp at hh); intro hlen;refine uAa rfl rfl rfl (uAk rfl rfl gU gU rfl) ?_;refine uAa rfl rfl rfl (uAd rfl gU) ?_;refine uAf ?_;refine uAm (s:=⟨[(1,_,_),(9,_,_)],[(.l 1,_)],[],[]⟩) (uAj (⟨sx rfl,sx rfl,trivial⟩) (⟨sx rfl,trivial⟩) trivial) ?_;refine uAl rfl (fun hc2=>?_) (fun hc2=>?_)
  ·try simp only [nn,uAi,T.rows_len,Fs.rows_len,Sp.rows_len,Gl.rows_len] at hc2
   have : cntE n=8:=by rw [cntE,if_pos (by omega)]
   refine uAe (uAb ?_);refine uAa rfl rfl rfl (uAd rfl gU) ?_;refine uAf ?_;refine uAo ?_
   repeat (first | refine tR ?_ | refine bR ?_)
   refine uAr rfl ?_ trivial
   (rw [e1,this]; rfl)
  ·try simp only [nn,uAi,T.rows_len,Fs.rows_len,Sp.rows_len,Gl.rows_len] at hc2
   refine uAe (uAb ?_);refine uAa rfl rfl rfl (uAh rfl gU rfl rfl) ?_;refine uAa rfl rfl rfl (uAn rfl gU rfl rfl rfl rfl) ?_;refine uAR rfl rfl rfl rfl rfl gU rfl rfl ?_ (fun hh=>by simp at hh); intro hlen;refine uAa rfl rfl rfl (uAk rfl rfl gU gU rfl) ?_;refine uAa rfl rfl rfl (uAc rfl gU) ?_;refine uAa rfl rfl rfl (uAh rfl gU rfl rfl) ?_;refine uAa rfl rfl rfl (uAn rfl (fun hh=>hh) rfl rfl rfl rfl) ?_;refine uAa rfl rfl rfl (uA9 rfl (fun hh=>hh) rfl rfl) ?_;refine uAa rfl rfl rfl (uAk rfl rfl (fun hh=>hh) gU rfl) ?_;refine uAa rfl rfl rfl (uAJ rfl rfl gU (fun _ hi=>gP rfl hi)) ?_;refine uAa rfl rfl rfl (uAc rfl gU) ?_;refine uAa rfl rfl rfl (uAh rfl gU rfl rfl) ?_;refine uBB (s:=⟨[(1,_,_),(25,_,_),(26,_,_)],[(.l 1,_)],[],[]⟩) (uAj (⟨sx rfl,sx rfl,sx rfl,trivial⟩) (⟨sx rfl,trivial⟩) trivial) ?_;refine uAa rfl rfl rfl (uAn rfl (fun hh=>hh) rfl rfl rfl rfl) ?_;refine uAa rfl rfl rfl (uA9 rfl (fun hh=>hh) rfl rfl) ?_;refine uAa rfl rfl rfl (uAk rfl rfl (fun hh=>hh) gU rfl) ?_;refine uAa rfl rfl rfl (uAJ rfl rfl gU (fun _ hi=>gP rfl hi)) ?_;refine uAa rfl rfl rfl (uAd rfl gU) ?_;refine uAf ?_;refine uAm (s:=⟨[(1,_,_),(14,_,_)],[(.l 1,_)],[],[]⟩) (uAj (⟨sx rfl,sx rfl,trivial⟩) (⟨sx rfl,trivial⟩) trivial) ?_
   refine uAl rfl (fun hc3=>?_) (fun hc3=>?_)
   ·try simp only [nn,uAi,T.rows_len,Fs.rows_len,Sp.rows_len,Gl.rows_len] at hc3
    have : cntE n=3:=by rw [cntE,if_neg (by omega),if_pos (by omega)]
    refine uAe (uAb ?_);refine uAa rfl rfl rfl (uAd rfl gU) ?_;refine uAf ?_;refine uAo ?_
    repeat (first | refine tR ?_ | refine bR ?_)
    refine uAr rfl ?_ trivial
    (rw [e1,this]; rfl)
   ·try simp only [nn,uAi,T.rows_len,Fs.rows_len,Sp.rows_len,Gl.rows_len] at hc3
    refine uAe (uAb ?_);refine uAa rfl rfl rfl (uAh rfl gU rfl rfl) ?_;refine uAa rfl rfl rfl (uAn rfl gU rfl rfl rfl rfl) ?_;refine uAR rfl rfl rfl rfl rfl gU rfl rfl ?_ (fun hh=>by simp at hh); intro hlen;refine uAa rfl rfl rfl (uAk rfl rfl gU gU rfl) ?_;refine uAa rfl rfl rfl (uAd rfl gU) ?_;refine uAf ?_;refine uAm (s:=⟨[(1,_,_),(31,_,_)],[(.l 1,_)],[],[]⟩) (uAj (⟨sx rfl,sx rfl,trivial⟩) (⟨sx rfl,trivial⟩) trivial) ?_;refine uAl rfl (fun hc4=>?_) (fun hc4=>?_)
    ·try simp only [nn,uAi,T.rows_len,Fs.rows_len,Sp.rows_len,Gl.rows_len] at hc4
     have : cntE n=8:=by rw [cntE,if_neg (by omega),if_neg (by omega),if_pos (by omega)]
     refine uAe (uAb ?_);refine uAa rfl rfl rfl (uAd rfl gU) ?_;refine uAf ?_;refine uAo ?_
     repeat (first | refine tR ?_ | refine bR ?_)
     refine uAr rfl ?_ trivial
     (rw [e1,this]; rfl)
    ·try simp only [nn,uAi,T.rows_len,Fs.rows_len,Sp.rows_len,Gl.rows_len] at hc4
     refine uAe (uAb ?_);refine uAa rfl rfl rfl (uAh rfl gU rfl rfl) ?_;refine uAa rfl rfl rfl (uAn rfl gU rfl rfl rfl rfl) ?_;refine uAR rfl rfl rfl rfl rfl gU rfl rfl ?_ (fun hh=>by simp at hh); intro hlen;refine uAa rfl rfl rfl (uAk rfl rfl gU gU rfl) ?_;refine uAa rfl rfl rfl (uAc rfl gU) ?_;refine uAa rfl rfl rfl (uAh rfl gU rfl rfl) ?_;refine uAa rfl rfl rfl (uAn rfl (fun hh=>hh) rfl rfl rfl rfl) ?_;refine uAa rfl rfl rfl (uA9 rfl (fun hh=>hh) rfl rfl) ?_;refine uAa rfl rfl rfl (uAk rfl rfl (fun hh=>hh) gU rfl) ?_;refine uAa rfl rfl rfl (uAJ rfl rfl gU (fun _ hi=>gP rfl hi)) ?_;refine uAa rfl rfl rfl (uAd rfl gU) ?_;refine uAf ?_;refine uAm (s:=⟨[(1,_,_),(36,_,_)],[(.l 1,_)],[],[]⟩) (uAj (⟨sx rfl,sx rfl,trivial⟩) (⟨sx rfl,trivial⟩) trivial) ?_;refine uAl rfl (fun hc5=>?_) (fun hc5=>?_)
     ·try simp only [nn,uAi,T.rows_len,Fs.rows_len,Sp.rows_len,Gl.rows_len] at hc5
      have : cntE n=3:=by rw [cntE,if_neg (by omega),if_neg (by omega),if_neg (by omega),if_pos (by omega)]
      refine uAe (uAb ?_);refine uAa rfl rfl rfl (uAd rfl gU) ?_;refine uAf ?_;refine uAo ?_
      repeat (first | refine tR ?_ | refine bR ?_)
      refine uAr rfl ?_ trivial
      (rw [e1,this]; rfl)
     ·try simp only [nn,uAi,T.rows_len,Fs.rows_len,Sp.rows_len,Gl.rows_len] at hc5
      have : cntE n=0:=by rw [cntE,if_neg (by omega),if_neg (by omega),if_neg (by omega),if_neg (by omega)]
      rw [if_neg (by rw [this]; simp)] at e1
      refine uAe (uAb ?_);refine uAa rfl rfl rfl (uAh rfl gU rfl rfl) ?_;refine uAa rfl rfl rfl (uAn rfl gU rfl rfl rfl rfl) ?_;refine uAA rfl rfl rfl rfl rfl rfl gU gU (uEr _) rfl ?_;refine uAa rfl rfl rfl (uAd rfl gU) ?_;refine uAf ?_;refine uAl rfl (fun hc6=>?_) (fun hc6=>?_)
      ·rw [uF3] at hc6
       refine uAe (uAb ?_);refine uAa rfl rfl rfl (uAd rfl gU) ?_;refine uAf ?_;refine uAo ?_
       repeat (first | refine tR ?_ | refine bR ?_)
       refine uAr rfl ?_ trivial
       (rw [e1,if_pos (by simpa using hc6)]; rfl)
      ·rw [uF3] at hc6
       rw [if_neg (by simpa using hc6)] at e1
       refine uAp ?_;refine uAe ?_;refine uAe (uAb ?_);refine uAa rfl rfl rfl (uAh rfl gU rfl rfl) ?_;refine uAa rfl rfl rfl (uAn rfl gU rfl rfl rfl rfl) ?_;refine uAR rfl rfl rfl rfl rfl gU rfl rfl ?_ (fun hh=>by simp at hh); intro hlen;refine uAa rfl rfl rfl (uAc rfl gU) ?_;refine uAf ?_;refine uAm (s:=⟨[(1,_,_),(52,_,_),(53,_,_),(54,_,_)],[(.l 1,_)],[],[]⟩) (uAj (⟨sx rfl,sx rfl,sx rfl,sx rfl,trivial⟩) (⟨sx rfl,trivial⟩) trivial) ?_;refine uAs ?_;refine uAZ (ι:=Nat) { t:=[(1,_,_),(52,_,_),(53,_,_)],bx:=[(.l 1,_)],ow:=[] } (fun k=>[(54,true,xi (k : Int))]) (fun k=>[]) (fun k=>k≤n.fresh.length∧errs (frE uAO) (n.fresh.drop k)=errs (frE uAO) n.fresh) (fun k=>n.fresh.length - k) (0) (by simp) (uAj (⟨sx rfl,sx rfl,sx rfl,sx rfl,trivial⟩) (⟨sx rfl,trivial⟩) trivial) ?_
       intro k hok
       dsimp only [List.cons_append,List.nil_append]
       obtain ⟨hk,hi⟩:=hok
       refine uAe (uAb ?_);refine uAa rfl rfl rfl (uAk rfl rfl gU gU rfl) ?_;refine uAf ?_;refine uAe ?_;refine uAl rfl (fun hc7=>?_) (fun hc7=>?_)
       ·try simp only [nn,uAi,T.rows_len,Fs.rows_len,Sp.rows_len,Gl.rows_len] at hc7
        have hd:=uDl (d:=default) (k:=k) (l:=n.fresh) (by omega) hi
        have hf : frE uAO (n.fresh.getD k default)=if uAO (n.fresh.getD k default).role=false∨uAO (n.fresh.getD k default).name=false then 2 else if (n.fresh.getD k default).sort < 2∨4 < (n.fresh.getD k default).sort then 10 else 0:=rfl
        refine uAp ?_;refine uAe ?_;refine uAs ?_;refine uAe (uAb ?_);refine uAa rfl rfl rfl (uAu rfl rfl gU gU rfl rfl rfl (fun hh=>Fs.rows_at (by first | omega | (simp at hh ⊢; omega)))) ?_;refine uAa rfl rfl rfl (uAK rfl gU rfl rfl rfl rfl) ?_;refine uAt rfl (uAN rfl rfl rfl) ?_;refine uAt rfl (uAx rfl rfl rfl rfl rfl rfl rfl) ?_;refine uAf ?_;refine uAs ?_;refine uAe (uAb ?_);refine uAa rfl rfl rfl (uAh rfl gU rfl rfl) ?_;refine uAa rfl rfl rfl (uAn rfl gU rfl rfl rfl rfl) ?_;refine uAA rfl rfl rfl rfl rfl rfl gU gU (uCI _) rfl ?_;refine uAa rfl rfl rfl (uAc rfl gU) ?_;refine uAa rfl rfl rfl (uAh rfl gU rfl rfl) ?_;refine uAa rfl rfl rfl (uAn rfl (fun hh=>hh) rfl rfl rfl rfl) ?_;refine uAA rfl rfl rfl rfl rfl rfl gU (fun hh=>gA ((fun hh=>hh) hh) (rfl)) (uCI _) rfl ?_;refine uAa rfl rfl rfl (uAJ rfl rfl gU (fun _ hi=>gP rfl hi)) ?_;refine uBB (s:=⟨[(1,_,_),(4,_,_),(52,_,_),(53,_,_),(54,_,_),(66,_,_)],[(.l 1,_),(.l 4,_)],[],[]⟩) (uAj (⟨sx rfl,sx rfl,sx rfl,sx rfl,sx rfl,sx rfl,trivial⟩) (⟨sx rfl,sx rfl,trivial⟩) trivial) ?_;refine uAa rfl rfl rfl (uAd rfl gU) ?_;refine uAf ?_;refine uAl rfl (fun hc8=>?_) (fun hc8=>?_)
        ·try simp only [nn,uAi,T.rows_len,Fs.rows_len,Sp.rows_len,Gl.rows_len] at hc8
         rw [if_pos (by grind)] at hf
         have := hd.1 (by rw [hf]; simp)
         refine uAe (uAb ?_);refine uAa rfl rfl rfl (uAd rfl gU) ?_;refine uAf ?_;refine uAo ?_
         repeat (first | refine tR ?_ | refine bR ?_)
         refine uAr rfl ?_ trivial
         (rw [e1,this,hf]; rfl)
        ·try simp only [nn,uAi,T.rows_len,Fs.rows_len,Sp.rows_len,Gl.rows_len] at hc8
         rw [if_neg (by grind)] at hf
         refine uAe (uAb ?_);refine uAa rfl rfl rfl (uAh rfl gU rfl rfl) ?_;refine uAa rfl rfl rfl (uAn rfl gU rfl rfl rfl rfl) ?_;refine uAa rfl rfl rfl (uAk rfl rfl gU gU rfl) ?_;refine uAa rfl rfl rfl (uAc rfl gU) ?_;refine uAa rfl rfl rfl (uAh rfl gU rfl rfl) ?_;refine uAa rfl rfl rfl (uAn rfl (fun hh=>hh) rfl rfl rfl rfl) ?_;refine uAa rfl rfl rfl (uAk rfl rfl (fun hh=>hh) gU rfl) ?_;refine uAa rfl rfl rfl (uAJ rfl rfl gU (fun _ hi=>gP rfl hi)) ?_;refine uAa rfl rfl rfl (uAd rfl gU) ?_;refine uAf ?_;refine uAm (s:=⟨[(1,_,_),(52,_,_),(53,_,_),(54,_,_),(67,_,_)],[(.l 1,_)],[],[]⟩) (uAj (⟨sx rfl,sx rfl,sx rfl,sx rfl,sx rfl,trivial⟩) (⟨sx rfl,trivial⟩) trivial) ?_;refine uAl rfl (fun hc9=>?_) (fun hc9=>?_)
         ·try simp only [nn,uAi,T.rows_len,Fs.rows_len,Sp.rows_len,Gl.rows_len] at hc9
          rw [if_pos (by omega)] at hf
          have := hd.1 (by rw [hf]; simp)
          refine uAe (uAb ?_);refine uAa rfl rfl rfl (uAd rfl gU) ?_;refine uAf ?_;refine uAo ?_
          repeat (first | refine tR ?_ | refine bR ?_)
          refine uAr rfl ?_ trivial
          (rw [e1,this,hf]; rfl)
         ·try simp only [nn,uAi,T.rows_len,Fs.rows_len,Sp.rows_len,Gl.rows_len] at hc9
          rw [if_neg (by omega)] at hf
          refine uAp ?_;refine uAb ?_;refine uAa rfl rfl rfl (uAq rfl rfl gU gU rfl (IntWalk.i64_in _ (by omega))) ?_;refine uAa rfl rfl rfl (uAc rfl gU) ?_;refine uAf ?_;refine ⟨k + 1,?_,?_,uAj (⟨⟨_,rfl,?_⟩,⟨sx rfl,sx rfl,sx rfl,trivial⟩⟩) (⟨sx rfl,trivial⟩) trivial⟩
          all_goals (first | rfl | omega | exact ⟨by omega,hd.2 hf⟩)
       ·try simp only [nn,uAi,T.rows_len,Fs.rows_len,Sp.rows_len,Gl.rows_len] at hc7
        have hz:=uDX (by omega) hi
        rw [hz] at e1
        rw [if_neg (by simp)] at e1
        refine uAL ?_
        repeat (first | refine uAF ?_ | refine uAG ?_ | refine uAC rfl ?_)
        refine uAe ?_;refine uAe (uAb ?_);refine uAa rfl rfl rfl (uAh rfl gU rfl rfl) ?_;refine uAa rfl rfl rfl (uAn rfl gU rfl rfl rfl rfl) ?_;refine uAA rfl rfl rfl rfl rfl rfl gU gU (uEr _) rfl ?_;refine uAf ?_;refine uAl rfl (fun hc8=>?_) (fun hc8=>?_)
        ·rw [uF3] at hc8
         refine uAe (uAb ?_);refine uAa rfl rfl rfl (uAd rfl gU) ?_;refine uAf ?_;refine uAo ?_
         repeat (first | refine tR ?_ | refine bR ?_)
         refine uAr rfl ?_ trivial
         (rw [e1,if_pos (by simpa using hc8)]; rfl)
        ·rw [uF3] at hc8
         refine uAp ?_;refine uAe (uAb ?_);refine uAa rfl rfl rfl (uAd rfl gU) ?_;refine uAf ?_;refine uAo ?_
         repeat (first | refine tR ?_ | refine bR ?_)
         refine uAr rfl ?_ trivial
         (rw [e1,if_neg (by simpa using hc8)]; rfl)
theorem uEN (n : Nar) (hs : ∀ s ∈ n.steps,s.msg.size≤900000) (hg : ∀ g ∈ n.goals,T.sizes g.data≤900000) : Ctr sys 14 [xn n] [] (xi (narE uAO n)) none []:=by
 have h4:=Sp.rows_len n.steps
 have h5:=Gl.rows_len n.goals
 refine uAz Tryz.func14 rfl rfl rfl rfl rfl rfl ?_;refine uAe (uAb ?_);refine uAt rfl (uBa rfl rfl rfl rfl) ?_;refine uAa rfl rfl rfl (uAd rfl gU) ?_;refine uAf ?_;refine uAe ?_;refine uAe (uAb ?_);refine uAa rfl rfl rfl (uAy rfl gU rfl rfl rfl rfl rfl) ?_;refine uAA rfl rfl rfl rfl rfl rfl gU gU (uLy _) rfl ?_;refine uAa rfl rfl rfl (uAd rfl gU) ?_;refine uAf ?_;refine uAm (s:=⟨[(1,_,_),(3,_,_)],[(.l 1,_)],[],[]⟩) (uAj (⟨sx rfl,sx rfl,trivial⟩) (⟨sx rfl,trivial⟩) trivial) ?_;refine uAe (uAb ?_);refine uAa rfl rfl rfl (uAc rfl gU) ?_;refine uAa rfl rfl rfl (uAk rfl rfl gU gU rfl) ?_;refine uAf ?_;refine uAl rfl (fun hc=>?_) (fun hc=>?_)
 ·try simp only [nn,uAi,T.rows_len,Fs.rows_len,Sp.rows_len,Gl.rows_len] at hc
  refine uAe (uAb ?_);refine uAa rfl rfl rfl (uAc rfl gU) ?_;refine uAa rfl rfl rfl (uAd rfl gU) ?_;refine uAf ?_;refine uAo ?_
  repeat (first | refine tR ?_ | refine bR ?_)
  refine uAr rfl ?_ trivial
  (rw [narE,if_pos hc]; rfl)
 ·try simp only [nn,uAi,T.rows_len,Fs.rows_len,Sp.rows_len,Gl.rows_len] at hc
  have e1 : narE uAO n=if errs (spE uAO) n.steps≠0 then errs (spE uAO) n.steps else errs (uCL uAO) n.goals:=by rw [narE,if_neg (by simpa using hc)]
  refine uAp ?_;refine uAe ?_;refine uAe (uAb ?_);refine uAa rfl rfl rfl (uAh rfl gU rfl rfl) ?_;refine uAa rfl rfl rfl (uAn rfl gU rfl rfl rfl rfl) ?_;refine uAR rfl rfl rfl rfl rfl gU rfl rfl ?_ (fun hh=>by simp at hh); intro hlen;refine uAa rfl rfl rfl (uAc rfl gU) ?_;refine uAf ?_;refine uAm (s:=⟨[(1,_,_),(16,_,_),(17,_,_),(18,_,_)],[(.l 1,_)],[],[]⟩) (uAj (⟨sx rfl,sx rfl,sx rfl,sx rfl,trivial⟩) (⟨sx rfl,trivial⟩) trivial) ?_;refine uAs ?_;refine uAZ (ι:=Nat) { t:=[(1,_,_),(16,_,_),(17,_,_)],bx:=[(.l 1,_)],ow:=[] } (fun k=>[(18,true,xi (k : Int))]) (fun k=>[]) (fun k=>k≤n.steps.length∧errs (spE uAO) (n.steps.drop k)=errs (spE uAO) n.steps) (fun k=>n.steps.length - k) (0) (by simp) (uAj (⟨sx rfl,sx rfl,sx rfl,sx rfl,trivial⟩) (⟨sx rfl,trivial⟩) trivial) ?_
  intro k hok
  dsimp only [List.cons_append,List.nil_append]
  obtain ⟨hk,hi⟩:=hok
  refine uAe (uAb ?_);refine uAa rfl rfl rfl (uAk rfl rfl gU gU rfl) ?_;refine uAf ?_;refine uAe ?_;refine uAl rfl (fun hc2=>?_) (fun hc2=>?_)
  ·try simp only [nn,uAi,T.rows_len,Fs.rows_len,Sp.rows_len,Gl.rows_len] at hc2
   have hlt : k < n.steps.length:=by omega
   have hd:=uDl (d:=default) (k:=k) (l:=n.steps) (by omega) hi
   have hm:=hs _ (uCB (d:=default) hlt)
   have hf : spE uAO (n.steps.getD k default)=if uAO (n.steps.getD k default).frm=false∨uAO (n.steps.getD k default).dst=false then 2 else msgE uAO (n.steps.getD k default).msg:=rfl
   refine uAp ?_;refine uAe ?_;refine uAs ?_;refine uAe (uAb ?_);refine uAa rfl rfl rfl (uAu rfl rfl gU gU rfl rfl rfl (fun hh=>Sp.rows_at (by first | omega | (simp at hh ⊢; omega)))) ?_;refine uAa rfl rfl rfl (uAK rfl gU rfl rfl rfl rfl) ?_;refine uAt rfl (uAN rfl rfl rfl) ?_;refine uAt rfl (uAx rfl rfl rfl rfl rfl rfl rfl) ?_;refine uAf ?_;refine uAe ?_;refine uAe (uAb ?_);refine uAa rfl rfl rfl (uAh rfl gU rfl rfl) ?_;refine uAa rfl rfl rfl (uAn rfl gU rfl rfl rfl rfl) ?_;refine uAA rfl rfl rfl rfl rfl rfl gU gU (uCI _) rfl ?_;refine uAa rfl rfl rfl (uAc rfl gU) ?_;refine uAa rfl rfl rfl (uAh rfl gU rfl rfl) ?_;refine uAa rfl rfl rfl (uAn rfl (fun hh=>hh) rfl rfl rfl rfl) ?_;refine uAA rfl rfl rfl rfl rfl rfl gU (fun hh=>gA ((fun hh=>hh) hh) (rfl)) (uCI _) rfl ?_;refine uAa rfl rfl rfl (uAJ rfl rfl gU (fun _ hi=>gP rfl hi)) ?_;refine uAf ?_;refine uAm (s:=⟨[(1,_,_),(5,_,_),(16,_,_),(17,_,_),(18,_,_),(29,_,_)],[(.l 1,_),(.l 5,_)],[],[]⟩) (uAj (⟨sx rfl,sx rfl,sx rfl,sx rfl,sx rfl,sx rfl,trivial⟩) (⟨sx rfl,sx rfl,trivial⟩) trivial) ?_;refine uAl rfl (fun hc3=>?_) (fun hc3=>?_)
   ·try simp only [nn,uAi,T.rows_len,Fs.rows_len,Sp.rows_len,Gl.rows_len] at hc3
    rw [if_pos (by grind)] at hf
    have := hd.1 (by rw [hf]; simp)
    refine uAe (uAb ?_);refine uAa rfl rfl rfl (uAd rfl gU) ?_;refine uAf ?_;refine uAo ?_
    repeat (first | refine tR ?_ | refine bR ?_)
    refine uAr rfl ?_ trivial
    (rw [e1,this,hf]; rfl)
   ·try simp only [nn,uAi,T.rows_len,Fs.rows_len,Sp.rows_len,Gl.rows_len] at hc3
    rw [if_neg (by grind)] at hf
    refine uAp ?_;refine uAe (uAb ?_);refine uAa rfl rfl rfl (uAh rfl gU rfl rfl) ?_;refine uAa rfl rfl rfl (uAy rfl gU rfl rfl rfl rfl rfl) ?_;refine uAA rfl rfl rfl rfl rfl rfl gU gU (uEW (n.steps.getD k default).msg hm) rfl ?_;refine uAa rfl rfl rfl (uAd rfl gU) ?_;refine uAf ?_;refine uAe (uAb ?_);refine uAa rfl rfl rfl (uAc rfl gU) ?_;refine uAa rfl rfl rfl (uAk rfl rfl gU gU rfl) ?_;refine uAf ?_;refine uAm (s:=⟨[(1,_,_),(6,_,_),(16,_,_),(17,_,_),(18,_,_),(34,_,_)],[(.l 1,_)],[],[]⟩) (uAj (⟨sx rfl,sx rfl,sx rfl,sx rfl,sx rfl,sx rfl,trivial⟩) (⟨sx rfl,trivial⟩) trivial) ?_;refine uAl rfl (fun hc4=>?_) (fun hc4=>?_)
    ·try simp only [nn,uAi,T.rows_len,Fs.rows_len,Sp.rows_len,Gl.rows_len] at hc4
     have := hd.1 (by rw [hf]; exact hc4)
     refine uAe (uAb ?_);refine uAa rfl rfl rfl (uAc rfl gU) ?_;refine uAa rfl rfl rfl (uAd rfl gU) ?_;refine uAf ?_;refine uAo ?_
     repeat (first | refine tR ?_ | refine bR ?_)
     refine uAr rfl ?_ trivial
     (rw [e1,this,hf,if_pos hc4]; rfl)
    ·try simp only [nn,uAi,T.rows_len,Fs.rows_len,Sp.rows_len,Gl.rows_len] at hc4
     refine uAp ?_;refine uAb ?_;refine uAa rfl rfl rfl (uAq rfl rfl gU gU rfl (IntWalk.i64_in _ (by omega))) ?_;refine uAa rfl rfl rfl (uAc rfl gU) ?_;refine uAf ?_;refine ⟨k + 1,?_,?_,uAj (⟨⟨_,rfl,?_⟩,⟨sx rfl,sx rfl,sx rfl,trivial⟩⟩) (⟨sx rfl,trivial⟩) trivial⟩
     all_goals (first | rfl | omega | exact ⟨by omega,hd.2 (by rw [hf]; simpa using hc4)⟩)
  ·try simp only [nn,uAi,T.rows_len,Fs.rows_len,Sp.rows_len,Gl.rows_len] at hc2
   have hz:=uDX (by omega) hi
   rw [hz,if_neg (by simp)] at e1
   refine uAL ?_
   repeat (first | refine uAF ?_ | refine uAG ?_ | refine uAC rfl ?_)
   refine uAe ?_;refine uAe (uAb ?_);refine uAa rfl rfl rfl (uAh rfl gU rfl rfl) ?_;refine uAa rfl rfl rfl (uAn rfl gU rfl rfl rfl rfl) ?_;refine uAR rfl rfl rfl rfl rfl gU rfl rfl ?_ (fun hh=>by simp at hh); intro hlen;refine uAa rfl rfl rfl (uAc rfl gU) ?_;refine uAf ?_;refine uAm (s:=⟨[(38,_,_),(39,_,_),(40,_,_)],[],[],[]⟩) (uAj (⟨sx rfl,sx rfl,sx rfl,trivial⟩) trivial trivial) ?_;refine uAs ?_;refine uAZ (ι:=Nat) { t:=[(38,_,_),(39,_,_)],bx:=[],ow:=[] } (fun k=>[(40,true,xi (k : Int))]) (fun k=>[]) (fun k=>k≤n.goals.length∧errs (uCL uAO) (n.goals.drop k)=errs (uCL uAO) n.goals) (fun k=>n.goals.length - k) (0) (by simp) (uAj (⟨sx rfl,sx rfl,sx rfl,trivial⟩) trivial trivial) ?_
   intro k hok2
   dsimp only [List.cons_append,List.nil_append]
   obtain ⟨hk2,hi2⟩:=hok2
   refine uAe (uAb ?_);refine uAa rfl rfl rfl (uAk rfl rfl gU gU rfl) ?_;refine uAf ?_;refine uAe ?_;refine uAl rfl (fun hc5=>?_) (fun hc5=>?_)
   ·try simp only [nn,uAi,T.rows_len,Fs.rows_len,Sp.rows_len,Gl.rows_len] at hc5
    have hlt : k < n.goals.length:=by omega
    have hd:=uDl (d:=default) (k:=k) (l:=n.goals) (by omega) hi2
    have hm:=hg _ (uCB (d:=default) hlt)
    refine uAp ?_;refine uAe ?_;refine uAs ?_;refine uAe (uAb ?_);refine uAa rfl rfl rfl (uAu rfl rfl gU gU rfl rfl rfl (fun hh=>Gl.rows_at (by first | omega | (simp at hh ⊢; omega)))) ?_;refine uAa rfl rfl rfl (uAK rfl gU rfl rfl rfl rfl) ?_;refine uAt rfl (uAN rfl rfl rfl) ?_;refine uAt rfl (uAx rfl rfl rfl rfl rfl rfl rfl) ?_;refine uAf ?_;refine uAe (uAb ?_);refine uAa rfl rfl rfl (uAy rfl gU rfl rfl rfl rfl rfl) ?_;refine uAA rfl rfl rfl rfl rfl rfl gU gU (uK6 (n.goals.getD k default) hm) rfl ?_;refine uAa rfl rfl rfl (uAd rfl gU) ?_;refine uAf ?_;refine uAm (s:=⟨[(9,_,_),(38,_,_),(39,_,_),(40,_,_)],[],[],[]⟩) (uAj (⟨sx rfl,sx rfl,sx rfl,sx rfl,trivial⟩) trivial trivial) ?_;refine uAe (uAb ?_);refine uAa rfl rfl rfl (uAc rfl gU) ?_;refine uAa rfl rfl rfl (uAk rfl rfl gU gU rfl) ?_;refine uAf ?_;refine uAl rfl (fun hc6=>?_) (fun hc6=>?_)
    ·try simp only [nn,uAi,T.rows_len,Fs.rows_len,Sp.rows_len,Gl.rows_len] at hc6
     have := hd.1 hc6
     refine uAe (uAb ?_);refine uAa rfl rfl rfl (uAc rfl gU) ?_;refine uAa rfl rfl rfl (uAd rfl gU) ?_;refine uAf ?_;refine uAo ?_
     repeat (first | refine tR ?_ | refine bR ?_)
     refine uAr rfl ?_ trivial
     (rw [e1,this]; rfl)
    ·try simp only [nn,uAi,T.rows_len,Fs.rows_len,Sp.rows_len,Gl.rows_len] at hc6
     refine uAp ?_;refine uAb ?_;refine uAa rfl rfl rfl (uAq rfl rfl gU gU rfl (IntWalk.i64_in _ (by omega))) ?_;refine uAa rfl rfl rfl (uAc rfl gU) ?_;refine uAf ?_;refine ⟨k + 1,?_,?_,uAj (⟨⟨_,rfl,?_⟩,⟨sx rfl,sx rfl,trivial⟩⟩) trivial trivial⟩
     all_goals (first | rfl | omega | exact ⟨by omega,hd.2 (by simpa using hc6)⟩)
   ·try simp only [nn,uAi,T.rows_len,Fs.rows_len,Sp.rows_len,Gl.rows_len] at hc5
    have hz2:=uDX (by omega) hi2
    refine uAL ?_
    repeat (first | refine uAF ?_ | refine uAG ?_ | refine uAC rfl ?_)
    refine uAe (uAb ?_);refine uAa rfl rfl rfl (uAd rfl gU) ?_;refine uAf ?_;refine uAo ?_
    repeat (first | refine tR ?_ | refine bR ?_)
    refine uAr rfl ?_ trivial
    (rw [e1,hz2]; rfl)
end Go.Proofs.YtnjjdbapadkomaaGreatDoor
namespace Go.Proofs.YtnjjdbapadkomaaGreatDoor
open Go Go.Abs
open Go.RowKit (Below)
theorem uJj : ∀ (L : List (List UInt8)),(L.map fun s : List UInt8=>(⟨s.toArray⟩ : ByteArray)).map (·.data.toList)=L
 | []=>rfl
 | s :: L=>by rw [List.map_cons,List.map_cons,uJj L]
theorem uDr (L : List (List UInt8)) (sep : List UInt8) (hL : L.length≤2000000) (hsl : sep.length≤1000) (hj : (Lib.join L sep).length≤140737488355328) : Ctr sys 40 [xss L,xs sep] [] (xs (Lib.join L sep)) none []:=by
 refine uHK (v:=.string ⟨(Lib.join L sep).toArray⟩) ⟨_,Tryz.func40,by kernel_rfl,by kernel_rfl⟩ (fun w G vs hv hwf hgl=>?_) (fun w G=>CRep.s _ (by omega))
 match vs,hv with
 | [u,v],⟨h1,h2,_⟩ =>
  rw [XRep.str h2]
  have h1 : CRep w G.S (.sl 1 (strR L)) u:=h1
  have hnone : ∀ (a : Option Addr) (c : Nat),L=[]→Calls Tryz.prog 40 #[.slice a 0 c, .string ⟨sep.toArray⟩] w fun e w'=>e = .returned (.string ⟨(Lib.join L sep).toArray⟩)∧Below w.heap.size w w':=by
   intro a c hnil
   subst hnil
   refine (Any.strings_Join_none uKN uDL a c ⟨sep.toArray⟩ w).mono ?_
   rintro e w' ⟨he,hw⟩
   subst hw
   exact ⟨he,Below.refl _ _⟩
  generalize hes : strR L=es at h1
  cases h1 with
  | emp sz a=>exact hnone a 0 (by simpa [strR] using hes)
  | sl sz es blk off len cap vals hl hc hm hsz hcell hrep =>
   by_cases hnil : L=[]
   ·have : len=0:=by rw [← hl,← hes,hnil]; rfl
    subst this
    exact hnone _ cap hnil
   ·have hlen : len=L.length:=by rw [← hl,← hes,uAi]
    subst hlen
    have hpos : 0 < L.length:=List.length_pos_iff.2 hnil
    have hx : (L.map fun s : List UInt8=>(⟨s.toArray⟩ : ByteArray)).map (·.data.toList)=L:=uJj L
    have key:=Any.strings_Join uKN uDL blk off cap (L.map fun s : List UInt8=>(⟨s.toArray⟩ : ByteArray)) ⟨sep.toArray⟩ w (fun j x hj=>by
      rw [List.getElem?_map,Option.map_eq_some_iff] at hj
      obtain ⟨s,hs,rfl⟩:=hj
      have hjl:=(List.getElem?_eq_some_iff.1 hs).1
      obtain ⟨_,h5⟩:=hcell j 0 (by omega) (by omega)
      have hrow : es[j]? = some [.s s]:=by rw [← hes,strR,List.getElem?_map,hs]; rfl
      have h6:=hrep j _ 0 (.s s) hrow rfl
      have h7 : vals j 0 = .string ⟨s.toArray⟩:=XRep.str (G:=G) (w:=w) h6
      rw [show off + j=off + j * 1 + 0 by omega,h5,h7]) (by
      obtain ⟨_,h5⟩:=hcell 0 0 (by omega) (by omega)
      exact World.block_lt_of_cell? (a:=⟨blk,off + 0 * 1 + 0,none⟩) w h5) (by rw [List.length_map]; omega) (by rw [List.length_map]; omega) (by rw [hx]; exact hj)
    rw [hx,List.length_map] at key
    exact key
theorem uNs (t : T) (s : List UInt8) : Ctr sys 137 [xm t,xs s] [] (xb (decide (t.kind=3) && decide (t.name=s))) none []:=by
 refine uAz Tryz.func137 rfl rfl rfl rfl rfl rfl ?_;refine uAe (uAb ?_);refine uAt rfl (uBa rfl rfl rfl rfl) ?_;refine uAa rfl rfl rfl (uAd rfl gU) ?_;refine uAf ?_;refine uAe (uAb ?_);refine uAa rfl rfl rfl (uAh rfl gU rfl rfl) ?_;refine uAa rfl rfl rfl (uAn rfl gU rfl rfl rfl rfl) ?_;refine uAa rfl rfl rfl (uAk rfl rfl gU gU rfl) ?_;refine uAa rfl rfl rfl (uAc rfl gU) ?_;refine uAa rfl rfl rfl (uAh rfl gU rfl rfl) ?_;refine uAa rfl rfl rfl (uAn rfl (fun hh=>hh) rfl rfl rfl rfl) ?_;refine uAa rfl rfl rfl (uAc rfl gU) ?_;refine uAa rfl rfl rfl (uAW rfl rfl (fun hh=>hh) (fun hh=>hh) rfl) ?_;refine uAa rfl rfl rfl (uAX rfl rfl gU (fun _ hi=>gP rfl hi)) ?_;refine uAa rfl rfl rfl (uAd rfl gU) ?_;refine uAf ?_;refine uAo ?_
 repeat (first | refine tR ?_ | refine bR ?_)
 refine uAr rfl ?_ trivial;refine uCV ?_
 rw [Bool.eq_iff_iff]; simp
theorem uGb (l : List T) (t : T) : X.v (.c (.sl 4 (T.rows l++[t.cells])))=xl (l++[t]):=by simp [xl,T.rows_eq]
theorem uIx (t : T) (h : t.size≤900000) : Ctr sys 94 [xm t] [] (xl (untE t)) none []:=by
 refine uAz Tryz.func94 rfl rfl rfl rfl rfl rfl ?_;refine uAe (uAb ?_);refine uAt rfl (uBa rfl rfl rfl rfl) ?_;refine uAt rfl (uBz (.inr rfl) rfl rfl) ?_;refine uAf ?_;refine uAe (uAb ?_);refine uAt rfl (uBz (.inr rfl) rfl rfl) ?_;refine uAf ?_;refine uAe ?_;refine uAs ?_;refine uAZ (ι:=List T × T) { t:=[(1,_,_)],bx:=[],ow:=[(.t 3,_)] } (fun p=>[(3,true,xl p.1)]) (fun p=>[((.l 1),p.2.cells)]) (fun p=>p.1++untE p.2=untE t∧p.1.length + p.2.size≤t.size) (fun p=>p.2.size) (([],t)) (⟨rfl,by simp⟩) (uAj (⟨sx rfl,sx rfl,trivial⟩) (⟨sx rfl,trivial⟩) (⟨rfl,trivial⟩)) ?_
 intro p hok
 dsimp only [List.cons_append,List.nil_append] at *
 obtain ⟨l,u⟩:=p
 dsimp only at hok ⊢
 obtain ⟨hi,hl⟩:=hok
 have hrl:=T.rows_len l
 have hrk:=T.rows_len u.kids
 have hu:=uIc u
 refine uAe ?_;refine uAe (uAb ?_);refine uAa rfl rfl rfl (uAy rfl gU rfl rfl rfl rfl rfl) ?_;refine uAA rfl rfl rfl rfl rfl rfl gU gU (uNs _ _) rfl ?_;refine uAa rfl rfl rfl (uAc rfl gU) ?_;refine uAa rfl rfl rfl (uAh rfl gU rfl rfl) ?_;refine uAa rfl rfl rfl (uAn rfl (fun hh=>hh) rfl rfl rfl rfl) ?_;refine uAa rfl rfl rfl (uA9 rfl (fun hh=>hh) rfl rfl) ?_;refine uAa rfl rfl rfl (uAk rfl rfl (fun hh=>hh) gU rfl) ?_;refine uAa rfl rfl rfl (uAX rfl rfl gU (fun _ hi=>gP rfl hi)) ?_;refine uAf ?_;refine uAm (s:=⟨[(1,_,_),(3,_,_),(11,_,_)],[(.l 1,_)],[(.t 3,_)],[]⟩) (uAj (⟨sx rfl,sx rfl,sx rfl,trivial⟩) (⟨sx rfl,trivial⟩) (⟨rfl,trivial⟩)) ?_;refine uAl rfl (fun hc=>?_) (fun hc=>?_)
 ·try simp only [nn,uAi,T.rows_len,Fs.rows_len,Sp.rows_len,Gl.rows_len] at hc
  have hp : uCS u=true:=by simp only [uCS]; grind [wPair]
  have hps:=uCx hp
  have h0:=(u.kids.getD 0 default).size_pos
  have h1:=(u.kids.getD 1 default).size_pos
  have hk : u.kids.length=2:=by grind
  rw [if_pos hp] at hu
  refine uAp ?_;refine uAs ?_;refine uAe (uAb ?_);refine uAt rfl (uAI (.inl rfl) rfl rfl rfl) ?_;refine uAa rfl rfl rfl (uAh rfl gU rfl rfl) ?_;refine uAa rfl rfl rfl (uAn rfl gU rfl rfl rfl rfl) ?_;refine uAa rfl rfl rfl (uAu (j:=0) rfl rfl gU gU rfl rfl (by first | omega | (simp at hh ⊢; omega)) (fun hh=>T.rows_at (by first | omega | (simp at hh ⊢; omega)))) ?_;refine uAa rfl rfl rfl (uAK rfl gU rfl rfl rfl rfl) ?_;refine uAA rfl rfl rfl rfl rfl rfl gU gU (uFE (u.kids.getD 0 default) (by omega)) rfl ?_;refine uAM (xs:=[_]) rfl rfl rfl rfl rfl rfl rfl rfl rfl gU rfl ?_;refine uAt rfl (uA2 rfl rfl rfl rfl rfl rfl rfl (by first | omega | (simp only [List.length_append,List.length_singleton,T.rows_len]; omega)) (by first | omega | (simp only [List.length_append,List.length_singleton,T.rows_len]; omega))) ?_;refine uAt rfl (uAI (.inr rfl) rfl rfl rfl) ?_;refine uAf ?_;refine uAm (s:=⟨[(1,_,_),(3,_,_)],[(.l 1,_)],[(.t 3,_)],[]⟩) (uAj (⟨sx rfl,sx rfl,trivial⟩) (⟨sx rfl,trivial⟩) (⟨rfl,trivial⟩)) ?_;refine uAb ?_;refine uAa rfl rfl rfl (uAh rfl gU rfl rfl) ?_;refine uAa rfl rfl rfl (uAn rfl gU rfl rfl rfl rfl) ?_;refine uAa rfl rfl rfl (uAu (j:=1) rfl rfl gU gU rfl rfl (by first | omega | (simp at hh ⊢; omega)) (fun hh=>T.rows_at (by first | omega | (simp at hh ⊢; omega)))) ?_
  refine uAa rfl rfl rfl (uAK rfl gU rfl rfl rfl rfl) ?_;refine uAt rfl (uAx rfl rfl rfl rfl rfl rfl rfl) ?_;refine uAf ?_;refine ⟨(l++[u.kids.getD 0 default],u.kids.getD 1 default),?_,?_,uAj (⟨⟨_,rfl,?_⟩,⟨sx rfl,trivial⟩⟩) (⟨⟨_,rfl,?_⟩,trivial⟩) (⟨rfl,trivial⟩)⟩
  ·refine ⟨?_,?_⟩
   ·dsimp only; rw [← hi,hu]; simp
   ·simp only [List.length_append,List.length_singleton]; omega
  ·dsimp only; omega
  ·exact tx (uGb _ _)
  ·rfl
 ·try simp only [nn,uAi,T.rows_len,Fs.rows_len,Sp.rows_len,Gl.rows_len] at hc
  have hp : ¬uCS u=true:=by simp only [uCS]; grind [wPair]
  rw [if_neg hp] at hu
  have hus:=u.size_pos
  refine uAL ?_
  repeat (first | refine uAF ?_ | refine uAG ?_ | refine uAC rfl ?_)
  refine uAe (uAb ?_);refine uAt rfl (uAI (.inl rfl) rfl rfl rfl) ?_;refine uAa rfl rfl rfl (uAy rfl gU rfl rfl rfl rfl rfl) ?_;refine uAA rfl rfl rfl rfl rfl rfl gU gU (uFE u (by omega)) rfl ?_;refine uAM (xs:=[_]) rfl rfl rfl rfl rfl rfl rfl rfl rfl gU rfl ?_;refine uAt rfl (uA2 rfl rfl rfl rfl rfl rfl rfl (by first | omega | (simp only [List.length_append,List.length_singleton,T.rows_len]; omega)) (by first | omega | (simp only [List.length_append,List.length_singleton,T.rows_len]; omega))) ?_;refine uAt rfl (uAI (.inr rfl) rfl rfl rfl) ?_;refine uAf ?_;refine uAo ?_
  repeat (first | refine tR ?_ | refine bR ?_)
  refine uAr rfl ?_ trivial
  (rw [← hi,hu]; exact uGb _ _)
theorem uJp {l : List T} {k : Nat} (h : k < l.length) : (l.take (k + 1)).map uCb=(l.take k).map uCb++[uCb (l.getD k default)]:=by rw [uDp (d:=default) h,List.map_append]; rfl
theorem uGO (n : Nat) (ih : ∀ t : T,t.size≤n→okB t=true→Ctr sys 43 [xm t] [] (xs (uCb t)) none []) (l : List T) (hl : ∀ x ∈ l,x.size≤n) (ho : ∀ x ∈ l,okB x=true) (hs : T.sizes l≤900000) :
  Ctr sys 93 [xl l] [] (xs (uCv l)) none []:=by
 have hrl:=T.rows_len l
 have hls:=T.len_sizes l
 have hte:=uJo ho
 refine uAz Tryz.func93 rfl rfl rfl rfl rfl rfl ?_;refine uAe (uAb ?_);refine uAa rfl rfl rfl (uAd rfl gU) ?_;refine uAf ?_;refine uAe (uAb ?_);refine uAt rfl (uBz (.inr rfl) rfl rfl) ?_;refine uAf ?_;refine uAe ?_;refine uAe (uAb ?_);refine uAa rfl rfl rfl (uAc rfl gU) ?_;refine uAR rfl rfl rfl rfl rfl gU rfl rfl ?_ (fun hh=>by simp at hh); intro hlen;refine uAa rfl rfl rfl (uAc rfl gU) ?_;refine uAf ?_;refine uAm (s:=⟨[(3,_,_),(6,_,_),(7,_,_),(8,_,_)],[],[(.t 3,_)],[]⟩) (uAj (⟨sx rfl,sx rfl,sx rfl,sx rfl,trivial⟩) trivial (⟨rfl,trivial⟩)) ?_;refine uAs ?_;refine uAZ (ι:=Nat) { t:=[(6,_,_),(7,_,_)],bx:=[],ow:=[(.t 3,_)] } (fun k=>[(8,true,xi (k : Int)),(3,true,xss ((l.take k).map uCb))]) (fun k=>[]) (fun k=>k≤l.length) (fun k=>l.length - k) (0) (by simp) (uAj (⟨sx rfl,sx rfl,sx rfl,sx rfl,trivial⟩) trivial (⟨rfl,trivial⟩)) ?_
 intro k hok
 dsimp only [List.cons_append,List.nil_append]
 refine uAe (uAb ?_);refine uAa rfl rfl rfl (uAk rfl rfl gU gU rfl) ?_;refine uAf ?_;refine uAe ?_;refine uAl rfl (fun hc=>?_) (fun hc=>?_)
 ·try simp only [nn,uAi,T.rows_len,Fs.rows_len,Sp.rows_len,Gl.rows_len] at hc
  have hlt : k < l.length:=by omega
  refine uAp ?_;refine uAe ?_;refine uAs ?_;refine uAe (uAb ?_);refine uAa rfl rfl rfl (uAu rfl rfl gU gU rfl rfl rfl (fun hh=>T.rows_at (by first | omega | (simp at hh ⊢; omega)))) ?_;refine uAa rfl rfl rfl (uAK rfl gU rfl rfl rfl rfl) ?_;refine uAt rfl (uAN rfl rfl rfl) ?_;refine uAt rfl (uAx rfl rfl rfl rfl rfl rfl rfl) ?_;refine uAf ?_;refine uAb ?_;refine uAt rfl (uAI (.inl rfl) rfl rfl rfl) ?_;refine uAa rfl rfl rfl (uAy rfl gU rfl rfl rfl rfl rfl) ?_;refine uAA rfl rfl rfl rfl rfl rfl gU gU (ih (l.getD k default) (hl _ (uCB hlt)) (ho _ (uCB hlt))) rfl ?_;refine uAM (xs:=[_]) rfl rfl rfl rfl rfl rfl rfl rfl rfl gU rfl ?_;refine uAt rfl (uA2 rfl rfl rfl rfl rfl rfl rfl (by first | omega | (simp only [List.length_append,List.length_singleton,uAi,List.length_map,List.length_take]; omega)) (by first | omega | (simp only [List.length_append,List.length_singleton,uAi,List.length_map,List.length_take]; omega))) ?_;refine uAt rfl (uAI (.inr rfl) rfl rfl rfl) ?_;refine uAf ?_;refine uAm (s:=⟨[(3,_,_),(6,_,_),(7,_,_),(8,_,_)],[],[(.t 3,_)],[]⟩) (uAj (⟨sx rfl,sx rfl,sx rfl,sx rfl,trivial⟩) trivial (⟨rfl,trivial⟩)) ?_;refine uAb ?_;refine uAa rfl rfl rfl (uAq rfl rfl gU gU rfl (IntWalk.i64_in _ (by omega))) ?_;refine uAa rfl rfl rfl (uAc rfl gU) ?_
  refine uAf ?_;refine ⟨k + 1,?_,?_,uAj (⟨⟨_,rfl,?_⟩,⟨⟨_,rfl,?_⟩,⟨sx rfl,sx rfl,trivial⟩⟩⟩) trivial (⟨rfl,trivial⟩)⟩
  all_goals first | rfl | omega | exact tx ((uCe _ _).trans (by rw [uJp hlt]))
 ·try simp only [nn,uAi,T.rows_len,Fs.rows_len,Sp.rows_len,Gl.rows_len] at hc
  have : k=l.length:=by omega
  subst this
  rw [List.take_length]
  refine uAL ?_
  repeat (first | refine uAF ?_ | refine uAG ?_ | refine uAC rfl ?_)
  refine uAe (uAb ?_);refine uAa rfl rfl rfl (uAc rfl gU) ?_;refine uAA rfl rfl rfl rfl rfl rfl gU gU (uDr _ [44,32] (by rw [List.length_map]; omega) (by decide) (by show (uCv l).length≤_; omega)) rfl ?_;refine uAa rfl rfl rfl (uAd rfl gU) ?_;refine uAf ?_;refine uAo ?_
  repeat (first | refine tR ?_ | refine bR ?_)
  refine uAr rfl ?_ trivial
  rfl
theorem uLo : ∀ (n : Nat) (t : T),t.size≤n→n≤900000→okB t=true→Ctr sys 43 [xm t] [] (xs (uCb t)) none []:=by
 intro n
 induction n with
 | zero=>intro t h; have := t.size_pos; omega
 | succ n ih =>
  intro t ht hn ho
  have hse:=t.size_eq
  have hrl:=T.rows_len t.kids
  have hls:=T.len_sizes t.kids
  have hk:=(uGc ho).1
  have hnl:=(uGc ho).2
  have he:=uI9 t
  have hle:=uIk ho
  have ihh:=fun (x : T) (hx : x.size≤n) (hxo : okB x=true)=>ih x hx (by omega) hxo
  refine uAz Tryz.func43 rfl rfl rfl rfl rfl rfl ?_;refine uAe (uAb ?_);refine uAt rfl (uBa rfl rfl rfl rfl) ?_;refine uAa rfl rfl rfl (uAd rfl gU) ?_;refine uAf ?_;refine uAe ?_;refine uAe (uAb ?_);refine uAa rfl rfl rfl (uAh rfl gU rfl rfl) ?_;refine uAa rfl rfl rfl (uAn rfl gU rfl rfl rfl rfl) ?_;refine uAa rfl rfl rfl (uAk rfl rfl gU gU rfl) ?_;refine uAf ?_;refine uAm (s:=⟨[(1,_,_),(5,_,_)],[(.l 1,_)],[],[]⟩) (uAj (⟨sx rfl,sx rfl,trivial⟩) (⟨sx rfl,trivial⟩) trivial) ?_;refine uAl rfl (fun hc=>?_) (fun hc=>?_)
  ·try simp only [nn,uAi,T.rows_len,Fs.rows_len,Sp.rows_len,Gl.rows_len] at hc
   refine uAe (uAb ?_);refine uAa rfl rfl rfl (uAh rfl gU rfl rfl) ?_;refine uAa rfl rfl rfl (uAn rfl gU rfl rfl rfl rfl) ?_;refine uAa rfl rfl rfl (uAd rfl gU) ?_;refine uAf ?_;refine uAo ?_
   repeat (first | refine tR ?_ | refine bR ?_)
   refine uAr rfl ?_ trivial
   (rw [he,if_pos hc]; rfl)
  ·try simp only [nn,uAi,T.rows_len,Fs.rows_len,Sp.rows_len,Gl.rows_len] at hc
   rw [if_neg hc] at he
   refine uAp ?_;refine uAe ?_;refine uAe (uAb ?_);refine uAa rfl rfl rfl (uAh rfl gU rfl rfl) ?_;refine uAa rfl rfl rfl (uAn rfl gU rfl rfl rfl rfl) ?_;refine uAa rfl rfl rfl (uAW rfl rfl gU gU rfl) ?_;refine uAa rfl rfl rfl (uAc rfl gU) ?_;refine uAa rfl rfl rfl (uAh rfl gU rfl rfl) ?_;refine uAa rfl rfl rfl (uAn rfl (fun hh=>hh) rfl rfl rfl rfl) ?_;refine uAa rfl rfl rfl (uA9 rfl (fun hh=>hh) rfl rfl) ?_;refine uAa rfl rfl rfl (uAk rfl rfl (fun hh=>hh) gU rfl) ?_;refine uAa rfl rfl rfl (uAX rfl rfl gU (fun _ hi=>gP rfl hi)) ?_;refine uAf ?_;refine uAm (s:=⟨[(1,_,_),(16,_,_)],[(.l 1,_)],[],[]⟩) (uAj (⟨sx rfl,sx rfl,trivial⟩) (⟨sx rfl,trivial⟩) trivial) ?_;refine uAl rfl (fun hc2=>?_) (fun hc2=>?_)
   ·try simp only [nn,uAi,T.rows_len,Fs.rows_len,Sp.rows_len,Gl.rows_len] at hc2
    have hp : uCS t=true:=by simp only [uCS]; grind [wPair]
    rw [if_pos hp] at he
    have hus:=uES hp
    have htl : (uCv (untE t)).length≤28 * t.size:=by rw [he] at hle; simp only [List.length_append,List.length_cons,List.length_nil] at hle; omega
    have htx := uGO n ihh (untE t) (fun x hx=>by have := uIm hp hx; omega) (uIy _ ho) (by omega)
    refine uAe (uAb ?_);refine uAa rfl rfl rfl (uAy rfl gU rfl rfl rfl rfl rfl) ?_;refine uAA rfl rfl rfl rfl rfl rfl gU gU (uIx _ (by omega)) rfl ?_;refine uAA rfl rfl rfl rfl rfl rfl gU gU (htx) rfl ?_;refine uAa rfl rfl rfl (uAB rfl rfl gU gU (by first | omega | (simp only [List.length_append,List.length_cons,List.length_nil]; omega))) ?_;refine uAa rfl rfl rfl (uAB rfl rfl gU gU (by first | omega | (simp only [List.length_append,List.length_cons,List.length_nil]; omega))) ?_;refine uAa rfl rfl rfl (uAd rfl gU) ?_;refine uAf ?_;refine uAo ?_
    repeat (first | refine tR ?_ | refine bR ?_)
    refine uAr rfl ?_ trivial
    (rw [he]; rfl)
   ·try simp only [nn,uAi,T.rows_len,Fs.rows_len,Sp.rows_len,Gl.rows_len] at hc2
    have hp : ¬uCS t=true:=by simp only [uCS]; grind [wPair]
    rw [if_neg hp] at he
    have htl : (uCv t.kids).length≤28 * t.size:=by rw [he] at hle; simp only [List.length_append,List.length_cons,List.length_nil] at hle; omega
    have htx := uGO n ihh t.kids (fun x hx=>by have := uEV hx; omega) (uIh ho) (by omega)
    refine uAp ?_;refine uAe ?_;refine awp_drawn' (by kernel_rfl) ?_;refine uAg rfl rfl rfl rfl (uAh rfl gU rfl rfl) ?_;refine uAS rfl rfl rfl rfl rfl rfl rfl gU rfl rfl rfl rfl ?_;refine uAg rfl rfl rfl rfl (uAB rfl rfl gU gU (by first | omega | (simp only [List.length_append,List.length_cons,List.length_nil]; omega))) ?_;refine uAg rfl rfl rfl rfl (uAh rfl gU rfl rfl) ?_;refine uAS rfl rfl rfl rfl rfl rfl rfl gU rfl rfl rfl rfl ?_;refine uBd rfl rfl rfl rfl rfl rfl rfl gU gU (htx) rfl ?_;refine uAg rfl rfl rfl rfl (uAB rfl rfl gU gU (by first | omega | (simp only [List.length_append,List.length_cons,List.length_nil]; omega))) ?_;refine uAg rfl rfl rfl rfl (uAB rfl rfl gU gU (by first | omega | (simp only [List.length_append,List.length_cons,List.length_nil]; omega))) ?_;refine uAg rfl rfl rfl rfl (uAd rfl gU) ?_;refine uBf (by kernel_rfl) ?_;refine uAo ?_
    repeat (first | refine tR ?_ | refine bR ?_)
    refine uAr rfl ?_ trivial
    (rw [he]; rfl)
theorem uDw (t : T) (ht : t.size≤900000) (ho : okB t=true) : Ctr sys 43 [xm t] [] (xs (uCb t)) none []:=uLo _ t (Nat.le_refl _) ht ho
theorem uGd (l : List T) (hs : T.sizes l≤900000) (ho : ∀ x ∈ l,okB x=true) : Ctr sys 93 [xl l] [] (xs (uCv l)) none [] :=
 uGO 900000 (fun t h o=>uDw t h o) l (fun x hx=>by have := uGA hx; omega) ho hs
def ftE (t : T) : List UInt8 × Int:=if uDN uAO t≠0 then ([],uDN uAO t) else (uCb t,0)
theorem uFZ (t : T) (ht : t.size≤900000) : Ctr sys 21 [xm t] [] (xse (ftE t)) none []:=by
 refine uAz Tryz.func21 rfl rfl rfl rfl rfl rfl ?_;refine uAe (uAb ?_);refine uAt rfl (uBa rfl rfl rfl rfl) ?_;refine uAa rfl rfl rfl (uAd rfl gU) ?_;refine uAa rfl rfl rfl (uAd rfl gU) ?_;refine uAf ?_;refine uAe ?_;refine uAe (uAb ?_);refine uAa rfl rfl rfl (uAy rfl gU rfl rfl rfl rfl rfl) ?_;refine uAA rfl rfl rfl rfl rfl rfl gU gU (uDy _ (by omega)) rfl ?_;refine uAa rfl rfl rfl (uAd rfl gU) ?_;refine uAf ?_;refine uAm (s:=⟨[(1,_,_),(4,_,_)],[(.l 1,_)],[],[]⟩) (uAj (⟨sx rfl,sx rfl,trivial⟩) (⟨sx rfl,trivial⟩) trivial) ?_;refine uAe (uAb ?_);refine uAa rfl rfl rfl (uAc rfl gU) ?_;refine uAa rfl rfl rfl (uAk rfl rfl gU gU rfl) ?_;refine uAf ?_;refine uAl rfl (fun hc=>?_) (fun hc=>?_)
 ·try simp only [nn,uAi,T.rows_len,Fs.rows_len,Sp.rows_len,Gl.rows_len] at hc
  refine uAe (uAb ?_);refine uAa rfl rfl rfl (uAc rfl gU) ?_;refine uAa rfl rfl rfl (uAd rfl gU) ?_;refine uAa rfl rfl rfl (uAd rfl gU) ?_;refine uAf ?_;refine uAo ?_
  repeat (first | refine tR ?_ | refine bR ?_)
  refine uAr rfl ?_ trivial
  (rw [ftE,if_pos hc]; rfl)
 ·try simp only [nn,uAi,T.rows_len,Fs.rows_len,Sp.rows_len,Gl.rows_len] at hc
  have ho:=(uMZ hc).1
  refine uAp ?_;refine uAe (uAb ?_);refine uAa rfl rfl rfl (uAy rfl gU rfl rfl rfl rfl rfl) ?_;refine uAA rfl rfl rfl rfl rfl rfl gU gU (uDw t ht ho) rfl ?_;refine uAa rfl rfl rfl (uAd rfl gU) ?_;refine uAa rfl rfl rfl (uAd rfl gU) ?_;refine uAf ?_;refine uAo ?_
  repeat (first | refine tR ?_ | refine bR ?_)
  refine uAr rfl ?_ trivial
  (rw [ftE,if_neg (by simpa using hc)]; rfl)
end Go.Proofs.YtnjjdbapadkomaaGreatDoor
namespace Go.Proofs.YtnjjdbapadkomaaGreatDoor
open Go Go.Abs
def pbx (l : List Tk) (p : PS) : List C:=[.sl 5 (Tk.rows l), .i .i64 (p.at' : Int), .b p.bad]
abbrev xpp : X:=.v (.ptr (.o 0) 0)
def symP (l : List Tk) (p : PS) (c : List UInt8) : PS:=if symQ l p c=true then p.go else p
theorem uMu {l : List Tk} {a : Int} {b : Bool} {p : PS} (h1 : a=p.at') (h2 : b=p.bad) : ([.sl 5 (Tk.rows l), .i .i64 a, .b b] : List C)=pbx l p:=by rw [h1,h2]; rfl
theorem uEG (l : List (List UInt8)) (s : List UInt8) : Ctr sys 132 [xss l,xs s] [] (xi (idxF (fun x=>decide (s=x)) l)) none []:=by
 have hrl:=uAi l
 refine uAz Tryz.func132 rfl rfl rfl rfl rfl rfl ?_;refine uAe (uAb ?_);refine uAa rfl rfl rfl (uAd rfl gU) ?_;refine uAf ?_;refine uAe ?_;refine uAe (uAb ?_);refine uAa rfl rfl rfl (uAc rfl gU) ?_;refine uAR rfl rfl rfl rfl rfl gU rfl rfl ?_ (fun hh=>by simp at hh); intro hlen;refine uAa rfl rfl rfl (uAc rfl gU) ?_;refine uAf ?_;refine uAs ?_;refine uAZ (ι:=Nat) { t:=[(0,_,_),(1,_,_),(7,_,_)],bx:=[],ow:=[] } (fun k=>[(8,true,xi (k : Int))]) (fun k=>[]) (fun k=>k≤l.length∧(if idxF (fun x=>decide (s=x)) (l.drop k) < 0 then -1 else idxF (fun x=>decide (s=x)) (l.drop k) + k)=idxF (fun x=>decide (s=x)) l) (fun k=>l.length - k) (0) (⟨by simp,(uG1 _ _).trans (uHP _ _)⟩) (uAj (⟨sx rfl,sx rfl,sx rfl,sx rfl,trivial⟩) trivial trivial) ?_
 intro k hok
 dsimp only [List.cons_append,List.nil_append]
 obtain ⟨hk,hi⟩:=hok
 refine uAe (uAb ?_);refine uAa rfl rfl rfl (uAk rfl rfl gU gU rfl) ?_;refine uAf ?_;refine uAe ?_;refine uAl rfl (fun hc=>?_) (fun hc=>?_)
 ·try simp only [nn,uAi,T.rows_len,Tk.rows_len] at hc
  have hd:=uH4 (k:=k) (l:=l) (by omega) hi
  refine uAp ?_;refine uAe ?_;refine uAs ?_;refine uAe (uAb ?_);refine uAa rfl rfl rfl (uAc rfl gU) ?_;refine uAa rfl rfl rfl (uAd rfl gU) ?_;refine uAf ?_;refine uAe (uAb ?_);refine uAa rfl rfl rfl (uAc rfl gU) ?_;refine uAa rfl rfl rfl (uAc rfl gU) ?_;refine uAa rfl rfl rfl (uAc rfl gU) ?_;refine uAa rfl rfl rfl (uAu rfl rfl gU gU rfl rfl rfl (fun hh=>uCK (by first | omega | (simp at hh ⊢; omega)))) ?_;refine uAa rfl rfl rfl (uAP rfl gU rfl rfl rfl) ?_;refine uAa rfl rfl rfl (uAW rfl rfl gU gU rfl) ?_;refine uAf ?_;refine uAm (s:=⟨[(0,_,_),(1,_,_),(5,_,_),(7,_,_),(8,_,_),(16,_,_)],[],[],[]⟩) (uAj (⟨sx rfl,sx rfl,sx rfl,sx rfl,sx rfl,sx rfl,trivial⟩) trivial trivial) ?_;refine uAl rfl (fun hc2=>?_) (fun hc2=>?_)
  ·try simp only [nn,uAi,T.rows_len,Tk.rows_len] at hc2
   refine uAe (uAb ?_);refine uAa rfl rfl rfl (uAc rfl gU) ?_;refine uAa rfl rfl rfl (uAd rfl gU) ?_;refine uAf ?_;refine uAo ?_
   repeat (first | refine tR ?_ | refine bR ?_)
   refine uAr rfl ?_ trivial;exact uBr (hd.1 (by simpa using hc2)).symm
  ·try simp only [nn,uAi,T.rows_len,Tk.rows_len] at hc2
   refine uAp ?_;refine uAb ?_;refine uAa rfl rfl rfl (uAq rfl rfl gU gU rfl (IntWalk.i64_in _ (by omega))) ?_;refine uAa rfl rfl rfl (uAc rfl gU) ?_;refine uAf ?_;refine ⟨k + 1,?_,?_,uAj (⟨⟨_,rfl,?_⟩,⟨sx rfl,sx rfl,sx rfl,trivial⟩⟩) trivial trivial⟩
   all_goals (first | rfl | omega | exact ⟨by omega,hd.2 (by simpa using hc2)⟩)
 ·try simp only [nn,uAi,T.rows_len,Tk.rows_len] at hc
  refine uAL ?_
  repeat (first | refine uAF ?_ | refine uAG ?_ | refine uAC rfl ?_)
  refine uAe (uAb ?_);refine uAa rfl rfl rfl (uAd rfl gU) ?_;refine uAf ?_;refine uAo ?_
  repeat (first | refine tR ?_ | refine bR ?_)
  refine uAr rfl ?_ trivial;exact uBr (uJb (by omega) hi).symm
theorem uEZ (s : List UInt8) : ∀ l : List (List UInt8),(l.any fun x=>decide (s=x))=l.contains s
 | []=>rfl
 | x :: l=>by
  rw [List.any_cons,List.contains_cons,uEZ s l]
  congr 1
  rw [Bool.eq_iff_iff]; simp
theorem uHi (l : List (List UInt8)) (s : List UInt8) : Ctr sys 85 [xss l,xs s] [] (xb (l.contains s)) none []:=by
 refine uAz Tryz.func85 rfl rfl rfl rfl rfl rfl ?_;refine uAe (uAb ?_);refine uAa rfl rfl rfl (uAd rfl gU) ?_;refine uAf ?_;refine uAe (uAb ?_);refine uAa rfl rfl rfl (uAc rfl gU) ?_;refine uAa rfl rfl rfl (uAc rfl gU) ?_;refine uAA rfl rfl rfl rfl rfl rfl gU gU (uEG _ _) rfl ?_;refine uAa rfl rfl rfl (uAk rfl rfl gU gU rfl) ?_;refine uAa rfl rfl rfl (uAd rfl gU) ?_;refine uAf ?_;refine uAo ?_
 repeat (first | refine tR ?_ | refine bR ?_)
 refine uAr rfl ?_ trivial;exact uCV ((uGN _ l).trans (uEZ s l))
theorem uBQ (l : List Tk) (p : PS) (c : List UInt8) (hl : l.length≤2000000) (hp : p.at'≤3000000) : Ctr sys 61 [xpp,xs c] [pbx l p] (xb (symQ l p c)) none [pbx l (symP l p c)]:=by
 have hrl:=Tk.rows_len l
 refine uAz Tryz.func61 rfl rfl rfl rfl rfl rfl ?_;refine uAe (uAb ?_);refine uAa rfl rfl rfl (uAd rfl gU) ?_;refine uAf ?_;refine uAe ?_;refine uAe ?_;refine awp_drawn' (by kernel_rfl) ?_;refine uAg rfl rfl rfl rfl (uAc rfl gU) ?_;refine uAg rfl rfl rfl rfl (uAv rfl gU) ?_;refine uAg rfl rfl rfl rfl (uAh rfl gU rfl rfl) ?_;refine uAS rfl rfl rfl rfl rfl rfl rfl gU rfl rfl rfl rfl ?_;refine uAg rfl rfl rfl rfl (uAc rfl gU) ?_;refine uAg rfl rfl rfl rfl (uAc rfl gU) ?_;refine uAg rfl rfl rfl rfl (uAv rfl (fun hh=>hh)) ?_;refine uAg rfl rfl rfl rfl (uAh rfl (fun hh=>hh) rfl rfl) ?_;refine uAS rfl rfl rfl rfl rfl rfl rfl (fun hh=>hh) rfl rfl rfl rfl ?_;refine uAg rfl rfl rfl rfl (uAc rfl gU) ?_;refine uAg rfl rfl rfl rfl (uAv rfl (fun hh=>hh)) ?_;refine uAg rfl rfl rfl rfl (uAh rfl (fun hh=>hh) rfl rfl) ?_;refine uAS rfl rfl rfl rfl rfl rfl rfl (fun hh=>hh) rfl rfl rfl rfl ?_;refine uAg rfl rfl rfl rfl (uA9 rfl (fun hh=>hh) rfl rfl) ?_;refine uAg rfl rfl rfl rfl (uAk rfl rfl (fun hh=>hh) (fun hh=>hh) rfl) ?_;refine uAg rfl rfl rfl rfl (uAJ rfl rfl gU (fun _ hi=>gP rfl hi)) ?_;refine uAg rfl rfl rfl rfl (uAc rfl gU) ?_;refine uAg rfl rfl rfl rfl (uAc rfl gU) ?_;refine uAg rfl rfl rfl rfl (uAv rfl (fun hh=>hh)) ?_;refine uAg rfl rfl rfl rfl (uAh rfl (fun hh=>hh) rfl rfl) ?_
 refine uAS rfl rfl rfl rfl rfl rfl rfl (fun hh=>hh) rfl rfl rfl rfl ?_;refine uAg rfl rfl rfl rfl (uAc rfl gU) ?_;refine uAg rfl rfl rfl rfl (uAv rfl (fun hh=>hh)) ?_;refine uAg rfl rfl rfl rfl (uAh rfl (fun hh=>hh) rfl rfl) ?_;refine uAS rfl rfl rfl rfl rfl rfl rfl (fun hh=>hh) rfl rfl rfl rfl ?_;refine uAg rfl rfl rfl rfl (uAu (j:=p.at') rfl rfl (fun hh=>hh) (fun hh=>hh) rfl rfl (by first | omega | (simp at hh ⊢; omega)) (fun hh=>Tk.rows_at (by first | omega | (simp at hh ⊢; omega)))) ?_;refine uAg rfl rfl rfl rfl (uAV rfl (fun hh=>hh) rfl rfl) ?_;refine uAg rfl rfl rfl rfl (uAP rfl (fun hh=>hh) rfl rfl rfl) ?_;refine uAg rfl rfl rfl rfl (uAk rfl rfl (fun hh=>hh) gU rfl) ?_;refine uAg rfl rfl rfl rfl (uAJ rfl rfl gU (fun _ hi=>gP rfl hi)) ?_;refine uAg rfl rfl rfl rfl (uAc rfl gU) ?_;refine uAg rfl rfl rfl rfl (uAc rfl gU) ?_;refine uAg rfl rfl rfl rfl (uAv rfl (fun hh=>hh)) ?_;refine uAg rfl rfl rfl rfl (uAh rfl (fun hh=>hh) rfl rfl) ?_;refine uAS rfl rfl rfl rfl rfl rfl rfl (fun hh=>hh) rfl rfl rfl rfl ?_;refine uAg rfl rfl rfl rfl (uAc rfl gU) ?_;refine uAg rfl rfl rfl rfl (uAv rfl (fun hh=>hh)) ?_;refine uAg rfl rfl rfl rfl (uAh rfl (fun hh=>hh) rfl rfl) ?_;refine uAS rfl rfl rfl rfl rfl rfl rfl (fun hh=>hh) rfl rfl rfl rfl ?_;refine uAg rfl rfl rfl rfl (uAu (j:=p.at') rfl rfl (fun hh=>hh) (fun hh=>hh) rfl rfl (by first | omega | (simp at hh ⊢; omega)) (fun hh=>Tk.rows_at (by first | omega | (simp at hh ⊢; omega)))) ?_
 refine uAg rfl rfl rfl rfl (uAV rfl (fun hh=>hh) rfl rfl) ?_;refine uAg rfl rfl rfl rfl (uAP rfl (fun hh=>hh) rfl rfl rfl) ?_;refine uAg rfl rfl rfl rfl (uAc rfl gU) ?_;refine uAg rfl rfl rfl rfl (uAW rfl rfl (fun hh=>hh) (fun hh=>hh) rfl) ?_;refine uAg rfl rfl rfl rfl (uAJ rfl rfl gU (fun _ hi=>gP rfl hi)) ?_;refine uBf (by kernel_rfl) ?_;refine uAm (s:=⟨[(0,_,_),(49,_,_)],[(.o 0,_)],[],[]⟩) (uAj (⟨sx rfl,sx rfl,trivial⟩) (⟨sx rfl,trivial⟩) trivial) ?_;refine uAl rfl (fun hc=>?_) (fun hc=>?_)
 ·try simp only [nn,uAi,T.rows_len,Tk.rows_len] at hc
  have h : symQ l p c=false:=by simp only [symQ]; grind
  have h2 : symP l p c=p:=by rw [symP,h]; rfl
  rw [h,h2]
  refine uAe (uAb ?_);refine uAa rfl rfl rfl (uAd rfl gU) ?_;refine uAf ?_;refine uAo ?_
  repeat (first | refine tR ?_ | refine bR ?_)
  refine uAr rfl ?_ (⟨⟨_,rfl,?_⟩,trivial⟩)
  (all_goals rfl)
 ·try simp only [nn,uAi,T.rows_len,Tk.rows_len] at hc
  have h : symQ l p c=true:=by simp only [symQ]; grind
  have h2 : symP l p c=p.go:=by rw [symP,if_pos h]
  rw [h,h2]
  refine uAp ?_;refine uAe (uAb ?_);refine uAa rfl rfl rfl (uAc rfl gU) ?_;refine uAa rfl rfl rfl (uAv rfl gU) ?_;refine uAa rfl rfl rfl (uAh rfl gU rfl rfl) ?_;refine uAa rfl rfl rfl (uAn rfl gU rfl rfl rfl rfl) ?_;refine uAa rfl rfl rfl (uAq rfl rfl gU gU rfl (IntWalk.i64_in _ (by omega))) ?_;refine uAa rfl rfl rfl (uAv rfl gU) ?_;refine uAa rfl rfl rfl (uAh rfl gU rfl rfl) ?_;refine uAt rfl (uAx rfl rfl rfl rfl rfl rfl rfl) ?_;refine uAf ?_;refine uAm (s:=⟨[],[(.o 0,_)],[],[]⟩) (uAj trivial (⟨sx rfl,trivial⟩) trivial) ?_;refine uAe (uAb ?_);refine uAa rfl rfl rfl (uAd rfl gU) ?_;refine uAf ?_;refine uAo ?_
  repeat (first | refine tR ?_ | refine bR ?_)
  refine uAr rfl ?_ (⟨⟨_,rfl,?_⟩,trivial⟩)
  (all_goals first | rfl | exact uMu (by simp [PS.go]) rfl)
theorem uBb (l : List Tk) (p : PS) (c : List UInt8) (hl : l.length≤2000000) (hp : p.at'≤3000000) : Ctr sys 60 [xpp,xs c] [pbx l p] (.tup []) none [pbx l (uA4 l c p)]:=by
 refine uAz Tryz.func60 rfl rfl rfl rfl rfl rfl ?_;refine uAe (uAb ?_);refine uAa rfl rfl rfl (uAc rfl gU) ?_;refine uAa rfl rfl rfl (uAc rfl gU) ?_;refine uAH (.o 0) rfl rfl rfl rfl rfl rfl (uBQ _ _ _ (by omega) (by omega)) rfl (by rfl) (by rfl) rfl rfl rfl ?_;refine uAa rfl rfl rfl (uA8 rfl gU) ?_;refine uAf ?_;refine uAl rfl (fun hc=>?_) (fun hc=>?_)
 ·try simp only [nn,uAi,T.rows_len,Tk.rows_len] at hc
  have h2 : symP l p c=p:=by rw [symP,hc]; rfl
  have h3 : uA4 l c p=p.off:=by rw [uA4,hc]; rfl
  rw [h2,h3]
  refine uAb ?_;refine uAa rfl rfl rfl (uAc rfl gU) ?_;refine uAa rfl rfl rfl (uAv rfl gU) ?_;refine uAa rfl rfl rfl (uAh rfl gU rfl rfl) ?_;refine uAt rfl (uAx rfl rfl rfl rfl rfl rfl rfl) ?_;refine uAf ?_;refine uKG rfl ?_ (⟨⟨_,rfl,?_⟩,trivial⟩)
  (all_goals rfl)
 ·try simp only [nn,uAi,T.rows_len,Tk.rows_len] at hc
  have h2 : symP l p c=p.go:=by rw [symP,if_pos hc]
  have h3 : uA4 l c p=p.go:=by rw [uA4,if_pos hc]
  rw [h2,h3]
  refine uAp ?_;refine uKG rfl ?_ (⟨⟨_,rfl,?_⟩,trivial⟩)
  (all_goals rfl)
theorem uBv (l : List Tk) (p : PS) (ws : List (List UInt8)) (hl : l.length≤2000000) (hp : p.at'≤3000000) : Ctr sys 59 [xpp,xss ws] [pbx l p] (xs (uAw l ws p).1) none [pbx l (uAw l ws p).2]:=by
 have hrl:=Tk.rows_len l
 have hws:=uAi ws
 refine uAz Tryz.func59 rfl rfl rfl rfl rfl rfl ?_;refine uAe (uAb ?_);refine uAa rfl rfl rfl (uAd rfl gU) ?_;refine uAf ?_;refine uAe ?_;refine uAe ?_;refine awp_drawn' (by kernel_rfl) ?_;refine uAg rfl rfl rfl rfl (uAc rfl gU) ?_;refine uAg rfl rfl rfl rfl (uAv rfl gU) ?_;refine uAg rfl rfl rfl rfl (uAh rfl gU rfl rfl) ?_;refine uAS rfl rfl rfl rfl rfl rfl rfl gU rfl rfl rfl rfl ?_;refine uAg rfl rfl rfl rfl (uAc rfl gU) ?_;refine uAg rfl rfl rfl rfl (uAc rfl gU) ?_;refine uAg rfl rfl rfl rfl (uAv rfl (fun hh=>hh)) ?_;refine uAg rfl rfl rfl rfl (uAh rfl (fun hh=>hh) rfl rfl) ?_;refine uAS rfl rfl rfl rfl rfl rfl rfl (fun hh=>hh) rfl rfl rfl rfl ?_;refine uAg rfl rfl rfl rfl (uAc rfl gU) ?_;refine uAg rfl rfl rfl rfl (uAv rfl (fun hh=>hh)) ?_;refine uAg rfl rfl rfl rfl (uAh rfl (fun hh=>hh) rfl rfl) ?_;refine uAS rfl rfl rfl rfl rfl rfl rfl (fun hh=>hh) rfl rfl rfl rfl ?_;refine uAg rfl rfl rfl rfl (uA9 rfl (fun hh=>hh) rfl rfl) ?_;refine uAg rfl rfl rfl rfl (uAk rfl rfl (fun hh=>hh) (fun hh=>hh) rfl) ?_;refine uAg rfl rfl rfl rfl (uAJ rfl rfl gU (fun _ hi=>gP rfl hi)) ?_;refine uAg rfl rfl rfl rfl (uAc rfl gU) ?_;refine uAg rfl rfl rfl rfl (uAc rfl gU) ?_;refine uAg rfl rfl rfl rfl (uAv rfl (fun hh=>hh)) ?_;refine uAg rfl rfl rfl rfl (uAh rfl (fun hh=>hh) rfl rfl) ?_
 refine uAS rfl rfl rfl rfl rfl rfl rfl (fun hh=>hh) rfl rfl rfl rfl ?_;refine uAg rfl rfl rfl rfl (uAc rfl gU) ?_;refine uAg rfl rfl rfl rfl (uAv rfl (fun hh=>hh)) ?_;refine uAg rfl rfl rfl rfl (uAh rfl (fun hh=>hh) rfl rfl) ?_;refine uAS rfl rfl rfl rfl rfl rfl rfl (fun hh=>hh) rfl rfl rfl rfl ?_;refine uAg rfl rfl rfl rfl (uAu (j:=p.at') rfl rfl (fun hh=>hh) (fun hh=>hh) rfl rfl (by first | omega | (simp at hh ⊢; omega)) (fun hh=>Tk.rows_at (by first | omega | (simp at hh ⊢; omega)))) ?_;refine uAg rfl rfl rfl rfl (uAV rfl (fun hh=>hh) rfl rfl) ?_;refine uAg rfl rfl rfl rfl (uAP rfl (fun hh=>hh) rfl rfl rfl) ?_;refine uAg rfl rfl rfl rfl (uAk rfl rfl (fun hh=>hh) gU rfl) ?_;refine uAg rfl rfl rfl rfl (uAJ rfl rfl gU (fun _ hi=>gP rfl hi)) ?_;refine uAg rfl rfl rfl rfl (uAc rfl gU) ?_;refine uAg rfl rfl rfl rfl (uAc rfl gU) ?_;refine uAg rfl rfl rfl rfl (uA9 rfl (fun hh=>hh) rfl rfl) ?_;refine uAg rfl rfl rfl rfl (uAk rfl rfl (fun hh=>hh) gU rfl) ?_;refine uAg rfl rfl rfl rfl (uAc rfl (fun hh=>hh)) ?_;refine uAg rfl rfl rfl rfl (uAc rfl gU) ?_;refine uAg rfl rfl rfl rfl (uAc rfl gU) ?_;refine uAg rfl rfl rfl rfl (uAv rfl (fun hh=>hh)) ?_;refine uAg rfl rfl rfl rfl (uAh rfl (fun hh=>hh) rfl rfl) ?_;refine uAS rfl rfl rfl rfl rfl rfl rfl (fun hh=>hh) rfl rfl rfl rfl ?_
 refine uAg rfl rfl rfl rfl (uAc rfl gU) ?_;refine uAg rfl rfl rfl rfl (uAv rfl (fun hh=>hh)) ?_;refine uAg rfl rfl rfl rfl (uAh rfl (fun hh=>hh) rfl rfl) ?_;refine uAS rfl rfl rfl rfl rfl rfl rfl (fun hh=>hh) rfl rfl rfl rfl ?_;refine uAg rfl rfl rfl rfl (uAu (j:=p.at') rfl rfl (fun hh=>hh) (fun hh=>hh) rfl rfl (by first | omega | (simp at hh ⊢; omega)) (fun hh=>Tk.rows_at (by first | omega | (simp at hh ⊢; omega)))) ?_;refine uAg rfl rfl rfl rfl (uAV rfl (fun hh=>hh) rfl rfl) ?_;refine uAg rfl rfl rfl rfl (uAP rfl (fun hh=>hh) rfl rfl rfl) ?_;refine uBd rfl rfl rfl rfl rfl rfl rfl gU (fun hh=>gA ((fun hh=>hh) hh) (gA ((fun hh=>hh) hh) (rfl))) (uHi _ _) rfl ?_;refine uAg rfl rfl rfl rfl (uA8 rfl (fun hh=>hh)) ?_;refine uAg rfl rfl rfl rfl (uAX rfl rfl (fun hh=>hh) (fun hh hi=>gP hh hi)) ?_;refine uAg rfl rfl rfl rfl (uAJ rfl rfl gU (fun _ hi=>gP rfl hi)) ?_;refine uBf (by kernel_rfl) ?_;refine uAm (s:=⟨[(0,_,_),(55,_,_)],[(.o 0,_)],[],[]⟩) (uAj (⟨sx rfl,sx rfl,trivial⟩) (⟨sx rfl,trivial⟩) trivial) ?_;refine uAl rfl (fun hc=>?_) (fun hc=>?_)
 ·try simp only [nn,uAi,T.rows_len,Tk.rows_len] at hc
  have h : namQ l p ws=false:=by
   simp only [namQ]
   by_cases hw : ws=[]
   ·subst hw; simp at hc ⊢; grind
   ·have : 0 < ws.length:=List.length_pos_iff.2 hw
    simp [hw]; grind
  have h2 : uAw l ws p=([],p.off):=by rw [uAw,h]; rfl
  rw [h2]
  refine uAe (uAb ?_);refine uAa rfl rfl rfl (uAc rfl gU) ?_;refine uAa rfl rfl rfl (uAv rfl gU) ?_;refine uAa rfl rfl rfl (uAh rfl gU rfl rfl) ?_;refine uAt rfl (uAx rfl rfl rfl rfl rfl rfl rfl) ?_;refine uAf ?_;refine uAe (uAb ?_);refine uAa rfl rfl rfl (uAd rfl gU) ?_;refine uAf ?_;refine uAo ?_
  repeat (first | refine tR ?_ | refine bR ?_)
  refine uAr rfl ?_ (⟨⟨_,rfl,?_⟩,trivial⟩)
  (all_goals rfl)
 ·try simp only [nn,uAi,T.rows_len,Tk.rows_len] at hc
  have h : namQ l p ws=true:=by
   simp only [namQ]
   by_cases hw : ws=[]
   ·subst hw; simp at hc ⊢; grind
   ·have : 0 < ws.length:=List.length_pos_iff.2 hw
    simp [hw]; grind
  have h2 : uAw l ws p=((l.getD p.at' tk0).text,p.go):=by rw [uAw,if_pos h]
  rw [h2]
  refine uAp ?_;refine uAe (uAb ?_);refine uAa rfl rfl rfl (uAc rfl gU) ?_;refine uAa rfl rfl rfl (uAv rfl gU) ?_;refine uAa rfl rfl rfl (uAh rfl gU rfl rfl) ?_;refine uAa rfl rfl rfl (uAn rfl gU rfl rfl rfl rfl) ?_;refine uAa rfl rfl rfl (uAq rfl rfl gU gU rfl (IntWalk.i64_in _ (by omega))) ?_;refine uAa rfl rfl rfl (uAv rfl gU) ?_;refine uAa rfl rfl rfl (uAh rfl gU rfl rfl) ?_;refine uAt rfl (uAx rfl rfl rfl rfl rfl rfl rfl) ?_;refine uAf ?_;refine uAm (s:=⟨[(0,_,_)],[(.o 0,_)],[],[]⟩) (uAj (⟨sx rfl,trivial⟩) (⟨sx rfl,trivial⟩) trivial) ?_;refine uAe ?_;refine awp_drawn' (by kernel_rfl) ?_;refine uAg rfl rfl rfl rfl (uAc rfl gU) ?_;refine uAg rfl rfl rfl rfl (uAv rfl gU) ?_;refine uAg rfl rfl rfl rfl (uAh rfl gU rfl rfl) ?_;refine uAS rfl rfl rfl rfl rfl rfl rfl gU rfl rfl rfl rfl ?_;refine uAg rfl rfl rfl rfl (uAc rfl gU) ?_;refine uAg rfl rfl rfl rfl (uAv rfl gU) ?_;refine uAg rfl rfl rfl rfl (uAh rfl gU rfl rfl) ?_;refine uAS rfl rfl rfl rfl rfl rfl rfl gU rfl rfl rfl rfl ?_;refine uAg rfl rfl rfl rfl (uAq rfl rfl gU gU rfl (IntWalk.i64_in _ (by omega))) ?_;refine uAg rfl rfl rfl rfl (uAu (j:=p.at') rfl rfl gU gU rfl rfl (by first | omega | (simp at hh ⊢; omega)) (fun hh=>Tk.rows_at (by first | omega | (simp at hh ⊢; omega)))) ?_
  refine uAg rfl rfl rfl rfl (uAV rfl gU rfl rfl) ?_;refine uAg rfl rfl rfl rfl (uAP rfl gU rfl rfl rfl) ?_;refine uAg rfl rfl rfl rfl (uAd rfl gU) ?_;refine uBf (by kernel_rfl) ?_;refine uAo ?_
  repeat (first | refine tR ?_ | refine bR ?_)
  refine uAr rfl ?_ (⟨⟨_,rfl,?_⟩,trivial⟩)
  (all_goals first | rfl | exact uMu (by simp [PS.go]) rfl)
theorem uJU (l : List Tk) (p : PS) (hl : l.length≤2000000) : Ctr sys 113 [xpp] [pbx l p] (xi (uJa l p)) none [pbx l p]:=by
 have hrl:=Tk.rows_len l
 refine uAz Tryz.func113 rfl rfl rfl rfl rfl rfl ?_;refine uAe (uAb ?_);refine uAa rfl rfl rfl (uAd rfl gU) ?_;refine uAf ?_;refine uAe ?_;refine uAs ?_;refine uAe (uAb ?_);refine uAa rfl rfl rfl (uAc rfl gU) ?_;refine uAa rfl rfl rfl (uAv rfl gU) ?_;refine uAa rfl rfl rfl (uAh rfl gU rfl rfl) ?_;refine uAa rfl rfl rfl (uAn rfl gU rfl rfl rfl rfl) ?_;refine uAR rfl rfl rfl rfl rfl gU rfl rfl ?_ (fun hh=>by simp at hh); intro hlen;refine uAa rfl rfl rfl (uAk rfl rfl gU gU rfl) ?_;refine uAa rfl rfl rfl (uAd rfl gU) ?_;refine uAf ?_;refine uAm (s:=⟨[(0,_,_),(3,_,_)],[(.o 0,_)],[],[]⟩) (uAj (⟨sx rfl,sx rfl,trivial⟩) (⟨sx rfl,trivial⟩) trivial) ?_;refine uAl rfl (fun hc=>?_) (fun hc=>?_)
 ·try simp only [nn,uAi,T.rows_len,Tk.rows_len] at hc
  refine uAe (uAb ?_);refine uAa rfl rfl rfl (uAd rfl gU) ?_;refine uAf ?_;refine uAo ?_
  repeat (first | refine tR ?_ | refine bR ?_)
  refine uAr rfl ?_ (⟨⟨_,rfl,?_⟩,trivial⟩)
  (all_goals first | rfl | (rw [uJa,if_pos (by omega)]; rfl))
 ·try simp only [nn,uAi,T.rows_len,Tk.rows_len] at hc
  refine uAe ?_;refine awp_drawn' (by kernel_rfl) ?_;refine uAg rfl rfl rfl rfl (uAc rfl gU) ?_;refine uAg rfl rfl rfl rfl (uAv rfl gU) ?_;refine uAg rfl rfl rfl rfl (uAh rfl gU rfl rfl) ?_;refine uAS rfl rfl rfl rfl rfl rfl rfl gU rfl rfl rfl rfl ?_;refine uAg rfl rfl rfl rfl (uAc rfl gU) ?_;refine uAg rfl rfl rfl rfl (uAv rfl gU) ?_;refine uAg rfl rfl rfl rfl (uAh rfl gU rfl rfl) ?_;refine uAS rfl rfl rfl rfl rfl rfl rfl gU rfl rfl rfl rfl ?_;refine uAg rfl rfl rfl rfl (uA9 rfl gU rfl rfl) ?_;refine uAg rfl rfl rfl rfl (uAk rfl rfl gU gU rfl) ?_;refine uAg rfl rfl rfl rfl (uAd rfl gU) ?_;refine uBf (by kernel_rfl) ?_;refine uAm (s:=⟨[(0,_,_),(10,_,_)],[(.o 0,_)],[],[]⟩) (uAj (⟨sx rfl,sx rfl,trivial⟩) (⟨sx rfl,trivial⟩) trivial) ?_;refine uAl rfl (fun hc2=>?_) (fun hc2=>?_)
  ·try simp only [nn,uAi,T.rows_len,Tk.rows_len] at hc2
   refine uAe ?_;refine awp_drawn' (by kernel_rfl) ?_;refine uAg rfl rfl rfl rfl (uAc rfl gU) ?_;refine uAg rfl rfl rfl rfl (uAv rfl gU) ?_;refine uAg rfl rfl rfl rfl (uAh rfl gU rfl rfl) ?_;refine uAS rfl rfl rfl rfl rfl rfl rfl gU rfl rfl rfl rfl ?_;refine uAg rfl rfl rfl rfl (uAc rfl gU) ?_;refine uAg rfl rfl rfl rfl (uAv rfl gU) ?_;refine uAg rfl rfl rfl rfl (uAh rfl gU rfl rfl) ?_;refine uAS rfl rfl rfl rfl rfl rfl rfl gU rfl rfl rfl rfl ?_;refine uAg rfl rfl rfl rfl (uA9 rfl gU rfl rfl) ?_;refine uAg rfl rfl rfl rfl (uAq rfl rfl gU gU rfl (IntWalk.i64_in _ (by omega))) ?_;refine uAg rfl rfl rfl rfl (uAu (j:=(l.length - 1)) rfl rfl gU gU rfl rfl (by first | omega | (simp at hh ⊢; omega)) (fun hh=>Tk.rows_at (by first | omega | (simp at hh ⊢; omega)))) ?_;refine uAg rfl rfl rfl rfl (uAV rfl gU rfl rfl) ?_;refine uAg rfl rfl rfl rfl (uAP rfl gU rfl rfl rfl) ?_;refine uAg rfl rfl rfl rfl (uAd rfl gU) ?_;refine uBf (by kernel_rfl) ?_;refine uAo ?_
   repeat (first | refine tR ?_ | refine bR ?_)
   refine uAr rfl ?_ (⟨⟨_,rfl,?_⟩,trivial⟩)
   (all_goals first | rfl | (rw [uJa,if_neg (by omega),if_pos (by omega)]; rfl))
  ·try simp only [nn,uAi,T.rows_len,Tk.rows_len] at hc2
   refine uAp ?_;refine uAe ?_;refine awp_drawn' (by kernel_rfl) ?_;refine uAg rfl rfl rfl rfl (uAc rfl gU) ?_;refine uAg rfl rfl rfl rfl (uAv rfl gU) ?_;refine uAg rfl rfl rfl rfl (uAh rfl gU rfl rfl) ?_;refine uAS rfl rfl rfl rfl rfl rfl rfl gU rfl rfl rfl rfl ?_;refine uAg rfl rfl rfl rfl (uAc rfl gU) ?_;refine uAg rfl rfl rfl rfl (uAv rfl gU) ?_;refine uAg rfl rfl rfl rfl (uAh rfl gU rfl rfl) ?_;refine uAS rfl rfl rfl rfl rfl rfl rfl gU rfl rfl rfl rfl ?_;refine uAg rfl rfl rfl rfl (uAu (j:=p.at') rfl rfl gU gU rfl rfl (by first | omega | (simp at hh ⊢; omega)) (fun hh=>Tk.rows_at (by first | omega | (simp at hh ⊢; omega)))) ?_;refine uAg rfl rfl rfl rfl (uAV rfl gU rfl rfl) ?_;refine uAg rfl rfl rfl rfl (uAP rfl gU rfl rfl rfl) ?_;refine uAg rfl rfl rfl rfl (uAd rfl gU) ?_;refine uBf (by kernel_rfl) ?_;refine uAo ?_
   repeat (first | refine tR ?_ | refine bR ?_)
   refine uAr rfl ?_ (⟨⟨_,rfl,?_⟩,trivial⟩)
   (all_goals first | rfl | (rw [uJa,if_neg (by omega),if_neg (by omega)]; rfl))
theorem uFj (l : List Tk) (p : PS) (hl : l.length≤2000000) : Ctr sys 63 [xpp] [pbx l p] (.tup [.c (.i .i64 (endE l p).1), .c (.i .i64 (endE l p).2)]) none [pbx l p]:=by
 have hrl:=Tk.rows_len l
 refine uAz Tryz.func63 rfl rfl rfl rfl rfl rfl ?_;refine uAe (uAb ?_);refine uAa rfl rfl rfl (uAd rfl gU) ?_;refine uAa rfl rfl rfl (uAd rfl gU) ?_;refine uAf ?_;refine uAe ?_;refine uAe ?_;refine awp_drawn' (by kernel_rfl) ?_;refine uAg rfl rfl rfl rfl (uAc rfl gU) ?_;refine uAg rfl rfl rfl rfl (uAv rfl gU) ?_;refine uAg rfl rfl rfl rfl (uAh rfl gU rfl rfl) ?_;refine uAS rfl rfl rfl rfl rfl rfl rfl gU rfl rfl rfl rfl ?_;refine uAg rfl rfl rfl rfl (uAc rfl gU) ?_;refine uAg rfl rfl rfl rfl (uAc rfl gU) ?_;refine uAg rfl rfl rfl rfl (uAv rfl (fun hh=>hh)) ?_;refine uAg rfl rfl rfl rfl (uAh rfl (fun hh=>hh) rfl rfl) ?_;refine uAS rfl rfl rfl rfl rfl rfl rfl (fun hh=>hh) rfl rfl rfl rfl ?_;refine uAg rfl rfl rfl rfl (uAc rfl gU) ?_;refine uAg rfl rfl rfl rfl (uAv rfl (fun hh=>hh)) ?_;refine uAg rfl rfl rfl rfl (uAh rfl (fun hh=>hh) rfl rfl) ?_;refine uAS rfl rfl rfl rfl rfl rfl rfl (fun hh=>hh) rfl rfl rfl rfl ?_;refine uAg rfl rfl rfl rfl (uA9 rfl (fun hh=>hh) rfl rfl) ?_;refine uAg rfl rfl rfl rfl (uAk rfl rfl (fun hh=>hh) (fun hh=>hh) rfl) ?_;refine uAg rfl rfl rfl rfl (uAJ rfl rfl gU (fun _ hi=>gP rfl hi)) ?_;refine uBf (by kernel_rfl) ?_;refine uAm (s:=⟨[(0,_,_),(19,_,_)],[(.o 0,_)],[],[]⟩) (uAj (⟨sx rfl,sx rfl,trivial⟩) (⟨sx rfl,trivial⟩) trivial) ?_
 refine uAl rfl (fun hc=>?_) (fun hc=>?_)
 ·try simp only [nn,uAi,T.rows_len,Tk.rows_len] at hc
  refine uAe (uAb ?_);refine uAa rfl rfl rfl (uAc rfl gU) ?_;refine uAH (.o 0) rfl rfl rfl rfl rfl rfl (uJU _ _ (by omega)) rfl (by rfl) (by rfl) rfl rfl rfl ?_;refine uAa rfl rfl rfl (uAd rfl gU) ?_;refine uAa rfl rfl rfl (uAd rfl gU) ?_;refine uAf ?_;refine uAo ?_
  repeat (first | refine tR ?_ | refine bR ?_)
  refine uAr rfl ?_ (⟨⟨_,rfl,?_⟩,trivial⟩)
  (all_goals first | rfl | (rw [endE,if_pos (by grind)]; rfl))
 ·try simp only [nn,uAi,T.rows_len,Tk.rows_len] at hc
  refine uAp ?_;refine uAe (uAb ?_);refine uAa rfl rfl rfl (uAd rfl gU) ?_;refine uAa rfl rfl rfl (uAd rfl gU) ?_;refine uAf ?_;refine uAo ?_
  repeat (first | refine tR ?_ | refine bR ?_)
  refine uAr rfl ?_ (⟨⟨_,rfl,?_⟩,trivial⟩)
  (all_goals first | rfl | (rw [endE,if_neg (by grind)]; rfl))
end Go.Proofs.YtnjjdbapadkomaaGreatDoor
namespace Go.Proofs.YtnjjdbapadkomaaGreatDoor
open Go Go.Abs
theorem uCj {l : List Tk} {p : PS} {c : List UInt8} (h : symQ l p c=true) : p.at' < l.length∧p.bad=false:=by
 simp only [symQ,Bool.and_eq_true,decide_eq_true_eq,Bool.not_eq_true'] at h
 exact ⟨h.1.1.2,h.1.1.1⟩
theorem uBp (l : List Tk) (c : List UInt8) (p : PS) : p.at'≤(uA4 l c p).at'∧(p.at'≤l.length→(uA4 l c p).at'≤l.length):=by
 unfold uA4
 split
 ·rename_i h; have := (uCj h).1; simp only [PS.go]; omega
 ·simp [PS.off]
theorem uA1 (l : List Tk) (ws : List (List UInt8)) (p : PS) : p.at'≤(uAw l ws p).2.at'∧(p.at'≤l.length→(uAw l ws p).2.at'≤l.length):=by
 unfold uAw
 split
 ·rename_i h
  simp only [namQ,Bool.and_eq_true,decide_eq_true_eq] at h
  have := h.1.1.2
  simp only [PS.go]; omega
 ·simp [PS.off]
theorem uC4 {α : Type} {l : List Tk} {f : PS→α × PS} {p : PS} {out : List α} (h : symQ l p [44]=false) : ∀ n,uBK l f n p out=(out,p)
 | 0=>rfl
 | n + 1=>by rw [uBK,h]; rfl
theorem uGi {α : Type} {l : List Tk} {f : PS→α × PS} {p : PS} {out : List α} {n : Nat} (h : symQ l p [44]=true) : uBK l f (n + 1) p out=uBK l f n (f p.go).2 (out++[(f p.go).1]):=by rw [uBK,if_pos h]
theorem uDt (l : List Tk) (p : PS) (hl : l.length≤2000000) (hp : p.at'≤l.length) : Ctr sys 109 [xpp] [pbx l p] (xss (uBI l p).1) none [pbx l (uBI l p).2]:=by
 have hrl:=Tk.rows_len l
 have h0:=uA1 l [] p
 refine uAz Tryz.func109 rfl rfl rfl rfl rfl rfl ?_;refine uAe (uAb ?_);refine uAt rfl (uBz (.inr rfl) rfl rfl) ?_;refine uAf ?_;refine uAe (uAb ?_);refine uAa rfl rfl rfl (uAc rfl gU) ?_;refine uAH (.o 0) rfl rfl rfl rfl rfl rfl (uBv l _ [] (by omega) (by first | omega | (simp only [PS.go]; omega))) rfl (by rfl) (by rfl) rfl rfl rfl ?_;refine uAM (xs:=[_]) rfl rfl rfl rfl rfl rfl rfl rfl rfl gU rfl ?_;refine uAt rfl (uAI (.inr rfl) rfl rfl rfl) ?_;refine uAf ?_;refine uAm (s:=⟨[(0,_,_),(3,_,_)],[(.o 0,_)],[(.t 3,_)],[]⟩) (uAj (⟨sx rfl,sx rfl,trivial⟩) (⟨sx rfl,trivial⟩) (⟨rfl,trivial⟩)) ?_;refine uAe ?_;refine uAs ?_;refine uAZ (ι:=PS × List (List UInt8)) { t:=[(0,_,_)],bx:=[],ow:=[(.t 3,_)] } (fun q=>[(3,true,xss q.2)]) (fun q=>[((.o 0),pbx l q.1)]) (fun q=>q.1.at'≤l.length∧q.2.length≤q.1.at' + 1 ∧ ∃ n,l.length + 1≤n + q.1.at'∧uBK l (uAw l []) n q.1 q.2=uBI l p) (fun q=>l.length - q.1.at') (((uAw l [] p).2,[(uAw l [] p).1])) (⟨h0.2 hp,by simp,_,by dsimp only; omega,rfl⟩) (uAj (⟨sx rfl,sx rfl,trivial⟩) (⟨sx rfl,trivial⟩) (⟨rfl,trivial⟩)) ?_
 intro q hok
 dsimp only [List.cons_append,List.nil_append] at *
 obtain ⟨q,out⟩:=q
 dsimp only at hok ⊢
 obtain ⟨hq,ho,n,hn,hi⟩:=hok
 have hro:=uAi out
 refine uAe ?_;refine uAe (uAb ?_);refine uAa rfl rfl rfl (uAc rfl gU) ?_;refine uAH (.o 0) rfl rfl rfl rfl rfl rfl (uBQ _ _ _ (by omega) (by omega)) rfl (by rfl) (by rfl) rfl rfl rfl ?_;refine uAf ?_;refine uAl rfl (fun hc=>?_) (fun hc=>?_)
 ·try simp only [nn,uAi,T.rows_len,Tk.rows_len] at hc
  have hlt:=(uCj hc).1
  have hs : symP l q [44]=q.go:=by rw [symP,if_pos hc]
  have h1:=uA1 l [] q.go
  have hg : q.go.at'=q.at' + 1:=rfl
  obtain ⟨n,rfl⟩ : ∃ k,n=k + 1:=⟨n - 1,by omega⟩
  rw [uGi hc] at hi
  rw [hs]
  refine uAp ?_;refine uAs ?_;refine uAb ?_;refine uAt rfl (uAI (.inl rfl) rfl rfl rfl) ?_;refine uAa rfl rfl rfl (uAc rfl gU) ?_;refine uAH (.o 0) rfl rfl rfl rfl rfl rfl (uBv l _ [] (by omega) (by first | omega | (simp only [PS.go]; omega))) rfl (by rfl) (by rfl) rfl rfl rfl ?_;refine uAM (xs:=[_]) rfl rfl rfl rfl rfl rfl rfl rfl rfl gU rfl ?_;refine uAt rfl (uA2 rfl rfl rfl rfl rfl rfl rfl (by first | omega | (simp only [List.length_append,List.length_singleton,uAi]; omega)) (by first | omega | (simp only [List.length_append,List.length_singleton,uAi]; omega))) ?_;refine uAt rfl (uAI (.inr rfl) rfl rfl rfl) ?_;refine uAf ?_;refine ⟨((uAw l [] q.go).2,out++[(uAw l [] q.go).1]),?_,?_,uAj (⟨⟨_,rfl,?_⟩,⟨sx rfl,trivial⟩⟩) (⟨⟨_,rfl,?_⟩,trivial⟩) (⟨rfl,trivial⟩)⟩
  ·exact ⟨h1.2 (by omega),by simp only [List.length_append,List.length_singleton]; omega,n,by dsimp only; omega,hi⟩
  ·dsimp only; omega
  ·exact tx (uCe _ _)
  ·rfl
 ·try simp only [nn,uAi,T.rows_len,Tk.rows_len] at hc
  have hs : symP l q [44]=q:=by rw [symP,hc]; rfl
  rw [uC4 hc] at hi
  rw [hs]
  refine uAL ?_
  repeat (first | refine uAF ?_ | refine uAG ?_ | refine uAC rfl ?_)
  refine uAe (uAb ?_);refine uAt rfl (uAI (.inl rfl) rfl rfl rfl) ?_;refine uAt rfl (uAI (.inr rfl) rfl rfl rfl) ?_;refine uAf ?_;refine uAo ?_
  repeat (first | refine tR ?_ | refine bR ?_)
  refine uAr rfl ?_ (⟨⟨_,rfl,?_⟩,trivial⟩)
  (all_goals first | (rw [← hi]; done) | (rw [← hi]; rfl))
end Go.Proofs.YtnjjdbapadkomaaGreatDoor
namespace Go.Proofs.YtnjjdbapadkomaaGreatDoor
open Go Go.Abs
theorem uJh {α : Type} {l : List Tk} {f : PS→α × PS} (hf : ∀ p,p.at'≤(f p).2.at'∧(p.at'≤l.length→(f p).2.at'≤l.length)) : ∀ (n : Nat) (p : PS) (out : List α),p.at'≤(uBK l f n p out).2.at'∧(p.at'≤l.length→(uBK l f n p out).2.at'≤l.length)
 | 0,p,out=>by simp [uBK]
 | n + 1,p,out=>by
  rw [uBK]
  split
  ·rename_i h
   have h1:=(uCj h).1
   have h2:=hf p.go
   have h3:=uJh hf n (f p.go).2 (out++[(f p.go).1])
   have hg : p.go.at'=p.at' + 1:=rfl
   omega
  ·simp
theorem uCM {α : Type} {l : List Tk} {f : PS→α × PS} (hf : ∀ p,p.at'≤(f p).2.at'∧(p.at'≤l.length→(f p).2.at'≤l.length)) (p : PS) : p.at'≤(uBj l f p).2.at'∧(p.at'≤l.length→(uBj l f p).2.at'≤l.length):=by
 have h1:=hf p
 have h2:=uJh hf (l.length + 1) (f p).2 [(f p).1]
 unfold uBj; omega
theorem uCq (l : List Tk) : ∀ (n : Nat) (p : PS),p.at'≤(uAQ l n p).2.at'∧(p.at'≤l.length→(uAQ l n p).2.at'≤l.length)
 | 0,p=>by simp [uAQ]
 | n + 1,p=>by
  have ih:=uCq l n
  have hg : ∀ q : PS,q.go.at'=q.at' + 1:=fun _=>rfl
  rw [uAQ]
  split
  ·rename_i h
   have h1:=(uCj h).1
   have h2:=ih p.go
   have h3:=uBp l [44] (uAQ l n p.go).2
   have h4:=uCM ih (uA4 l [44] (uAQ l n p.go).2)
   have h5:=uBp l [62] (uBj l (uAQ l n) (uA4 l [44] (uAQ l n p.go).2)).2
   have := hg p
   dsimp only; omega
  ·have h1:=uA1 l [] p
   split
   ·rename_i h
    have h2:=(uCj h).1
    split
    ·rename_i h3
     have h4:=(uCj h3).1
     have := hg (uAw l [] p).2
     have := hg (uAw l [] p).2.go
     dsimp only; omega
    ·have h3:=uCM ih (uAw l [] p).2.go
     have h4:=uBp l [41] (uBj l (uAQ l n) (uAw l [] p).2.go).2
     have := hg (uAw l [] p).2
     dsimp only; omega
   ·exact h1
theorem uI6 (l : List Tk) (n : Nat) (hl : l.length≤2000000) (ih : ∀ p : PS,p.at'≤l.length→l.length - p.at' < n→Ctr sys 66 [xpp] [pbx l p] (xm (uAQ l n p).1) none [pbx l (uAQ l n p).2]) (p : PS) (hp : p.at'≤l.length) (hn : l.length - p.at' < n) :
  Ctr sys 116 [xpp] [pbx l p] (xl (uBj l (uAQ l n) p).1) none [pbx l (uBj l (uAQ l n) p).2]:=by
 have hrl:=Tk.rows_len l
 have h0:=uCq l n p
 refine uAz Tryz.func116 rfl rfl rfl rfl rfl rfl ?_;refine uAe (uAb ?_);refine uAt rfl (uBz (.inr rfl) rfl rfl) ?_;refine uAf ?_;refine uAe (uAb ?_);refine uAa rfl rfl rfl (uAc rfl gU) ?_;refine uAH (.o 0) rfl rfl rfl rfl rfl rfl (ih _ (by first | omega | (simp only [PS.go]; omega)) (by first | omega | (simp only [PS.go]; omega))) rfl (by rfl) (by rfl) rfl rfl rfl ?_;refine uAM (xs:=[_]) rfl rfl rfl rfl rfl rfl rfl rfl rfl gU rfl ?_;refine uAt rfl (uAI (.inr rfl) rfl rfl rfl) ?_;refine uAf ?_;refine uAm (s:=⟨[(0,_,_),(3,_,_)],[(.o 0,_)],[(.t 3,_)],[]⟩) (uAj (⟨sx rfl,sx rfl,trivial⟩) (⟨sx rfl,trivial⟩) (⟨rfl,trivial⟩)) ?_;refine uAe ?_;refine uAs ?_;refine uAZ (ι:=PS × List T) { t:=[(0,_,_)],bx:=[],ow:=[(.t 3,_)] } (fun q=>[(3,true,xl q.2)]) (fun q=>[((.o 0),pbx l q.1)]) (fun q=>p.at'≤q.1.at'∧q.1.at'≤l.length∧q.2.length≤q.1.at' + 1 ∧ ∃ k,l.length + 1≤k + q.1.at'∧uBK l (uAQ l n) k q.1 q.2=uBj l (uAQ l n) p) (fun q=>l.length - q.1.at') (((uAQ l n p).2,[(uAQ l n p).1])) (⟨h0.1,h0.2 hp,by simp,_,by dsimp only; omega,rfl⟩) (uAj (⟨⟨_,rfl,by simp [T.rows_eq]⟩,⟨sx rfl,trivial⟩⟩) (⟨sx rfl,trivial⟩) (⟨rfl,trivial⟩)) ?_
 intro q hok
 dsimp only [List.cons_append,List.nil_append] at *
 obtain ⟨q,out⟩:=q
 dsimp only at hok ⊢
 obtain ⟨hq0,hq,ho,k,hk,hi⟩:=hok
 have hro:=T.rows_len out
 refine uAe ?_;refine uAe (uAb ?_);refine uAa rfl rfl rfl (uAc rfl gU) ?_;refine uAH (.o 0) rfl rfl rfl rfl rfl rfl (uBQ _ _ _ (by omega) (by omega)) rfl (by rfl) (by rfl) rfl rfl rfl ?_;refine uAf ?_;refine uAl rfl (fun hc=>?_) (fun hc=>?_)
 ·try simp only [nn,uAi,T.rows_len,Tk.rows_len] at hc
  have hlt:=(uCj hc).1
  have hs : symP l q [44]=q.go:=by rw [symP,if_pos hc]
  have h1:=uCq l n q.go
  have hg : q.go.at'=q.at' + 1:=rfl
  obtain ⟨k,rfl⟩ : ∃ j,k=j + 1:=⟨k - 1,by omega⟩
  rw [uGi hc] at hi
  rw [hs]
  refine uAp ?_;refine uAs ?_;refine uAb ?_;refine uAt rfl (uAI (.inl rfl) rfl rfl rfl) ?_;refine uAa rfl rfl rfl (uAc rfl gU) ?_;refine uAH (.o 0) rfl rfl rfl rfl rfl rfl (ih _ (by first | omega | (simp only [PS.go]; omega)) (by first | omega | (simp only [PS.go]; omega))) rfl (by rfl) (by rfl) rfl rfl rfl ?_;refine uAM (xs:=[_]) rfl rfl rfl rfl rfl rfl rfl rfl rfl gU rfl ?_;refine uAt rfl (uA2 rfl rfl rfl rfl rfl rfl rfl (by first | omega | (simp only [List.length_append,List.length_singleton,T.rows_len]; omega)) (by first | omega | (simp only [List.length_append,List.length_singleton,T.rows_len]; omega))) ?_;refine uAt rfl (uAI (.inr rfl) rfl rfl rfl) ?_;refine uAf ?_;refine ⟨((uAQ l n q.go).2,out++[(uAQ l n q.go).1]),?_,?_,uAj (⟨⟨_,rfl,?_⟩,⟨sx rfl,trivial⟩⟩) (⟨⟨_,rfl,?_⟩,trivial⟩) (⟨rfl,trivial⟩)⟩
  ·exact ⟨by dsimp only; omega,h1.2 (by omega),by simp only [List.length_append,List.length_singleton]; omega,k,by dsimp only; omega,hi⟩
  ·dsimp only; omega
  ·exact tx (uGb _ _)
  ·rfl
 ·try simp only [nn,uAi,T.rows_len,Tk.rows_len] at hc
  have hs : symP l q [44]=q:=by rw [symP,hc]; rfl
  rw [uC4 hc] at hi
  rw [hs]
  refine uAL ?_
  repeat (first | refine uAF ?_ | refine uAG ?_ | refine uAC rfl ?_)
  refine uAe (uAb ?_);refine uAt rfl (uAI (.inl rfl) rfl rfl rfl) ?_;refine uAt rfl (uAI (.inr rfl) rfl rfl rfl) ?_;refine uAf ?_;refine uAo ?_
  repeat (first | refine tR ?_ | refine bR ?_)
  refine uAr rfl ?_ (⟨⟨_,rfl,?_⟩,trivial⟩)
  (all_goals first | (rw [← hi]; done) | (rw [← hi]; rfl))
end Go.Proofs.YtnjjdbapadkomaaGreatDoor
namespace Go.Proofs.YtnjjdbapadkomaaGreatDoor
open Go Go.Abs
def Keeps {α : Type} (f : PS→α × PS) : Prop:=∀ p : PS,p.bad=true→(f p).2=p
theorem uK1 {p : PS} (h : p.bad=true) : p.off=p:=by cases p; simp [PS.off] at h ⊢; exact h
theorem uEc {l : List Tk} {p : PS} {c : List UInt8} (h : p.bad=true) : symQ l p c=false:=by simp [symQ,h]
theorem uLn {l : List Tk} {p : PS} {ws : List (List UInt8)} (h : p.bad=true) : namQ l p ws=false:=by simp [namQ,h]
theorem uCh (l : List Tk) (c : List UInt8) {p : PS} (h : p.bad=true) : uA4 l c p=p:=by rw [uA4,uEc h]; exact uK1 h
theorem uBY (l : List Tk) (ws : List (List UInt8)) : Keeps (uAw l ws):=fun p h=>by rw [uAw,uLn h]; exact uK1 h
theorem uLO {α : Type} {l : List Tk} {f : PS→α × PS} {p : PS} {out : List α} (n : Nat) (h : p.bad=true) : uBK l f n p out=(out,p):=uC4 (uEc h) n
theorem uDR {α : Type} {l : List Tk} {f : PS→α × PS} (hf : Keeps f) : Keeps (uBj l f):=fun p h=>by
 unfold uBj; rw [hf p h,uLO _ h]
theorem uD5 (l : List Tk) (n : Nat) : Keeps (uAQ l n):=fun p h=>by
 cases n with
 | zero=>rfl
 | succ n=>rw [uAQ,if_neg (by rw [uEc h]; simp),uBY l [] p h,if_neg (by rw [uEc h]; simp)]
theorem Keeps.good {α : Type} {f : PS→α × PS} (hf : Keeps f) {p : PS} (h : (f p).2.bad=false) : p.bad=false:=by
 cases hb : p.bad with
 | false=>rfl
 | true=>rw [hf p hb,hb] at h; exact h
theorem uJ9 {l : List Tk} {c : List UInt8} {p : PS} (h : (uA4 l c p).bad=false) : p.bad=false:=by
 cases hb : p.bad with
 | false=>rfl
 | true=>rw [uCh l c hb,hb] at h; exact h
theorem uLJ {l : List Tk} {ws : List (List UInt8)} {p : PS} (h : (uAw l ws p).2.bad=false) : namQ l p ws=true:=by
 cases hq : namQ l p ws with
 | true=>rfl
 | false=>rw [uAw,hq] at h; simp [PS.off] at h
theorem uKz {l : List Tk} {role : List UInt8} {p : PS} {out : List Fs} (h : p.bad=true) : ∀ n,uBN l role n p out=(out,p)
 | 0=>rfl
 | n + 1=>by rw [uBN,if_pos h]
theorem uH9 (l : List Tk) (out : List Fs) : Keeps (fun p=>uBM l p out):=fun p h=>by
 show (uBN _ _ _ _ _).2=p
 rw [uBY l [] p h,uCh l [58] h,uKz h]
theorem uI5 (l : List Tk) (line : Int) : Keeps (uCl l line):=fun p h=>by
 show (uAQ _ _ _).2=p
 rw [uBY l [] p h,uCh l _ h,uCh l _ h,uBY l [] p h,uCh l _ h,uD5 l _ p h]
theorem uJi (l : List Tk) (line : Int) : Keeps (uB0 l line):=fun p h=>by
 show (uBj _ _ _).2=p
 rw [uBY l kindW p h,uBY l [] p h]
 split
 ·rw [uBY l [] p h,uCh l _ h,uDR (uD5 l _) p h]
 ·rw [uCh l _ h,uDR (uD5 l _) p h]
theorem uFd (l : List Tk) : Keeps (uBI l):=uDR (uBY l [])
theorem uJC (l : List Tk) (n : Nar) (line : Int) (w : List UInt8) : Keeps (uBH l n line w):=fun p h=>by
 unfold uBH
 repeat' split
 ·exact uFd l p h
 ·exact uH9 l n.fresh p h
 ·exact uFd l p h
 ·exact uI5 l line p h
 ·exact uJi l line p h
 ·rfl
theorem uHq (l : List Tk) (role : List UInt8) : ∀ (n : Nat) (p : PS) (out : List Fs),p.at'≤(uBN l role n p out).2.at'∧(p.at'≤l.length→(uBN l role n p out).2.at'≤l.length)
 | 0,p,out=>by simp [uBN]
 | n + 1,p,out=>by
  have h1:=uA1 l [] p
  have h2:=uA1 l sortW (uAw l [] p).2
  rw [uBN]
  split
  ·simp
  split
  ·rename_i hq
   have h3:=(uCj hq).1
   have hg : (uAw l sortW (uAw l [] p).2).2.go.at'=(uAw l sortW (uAw l [] p).2).2.at' + 1:=rfl
   have h4:=uHq l role n (uAw l sortW (uAw l [] p).2).2.go (out++[⟨role,(uAw l [] p).1,2 + uBw sortW (uAw l sortW (uAw l [] p).2).1⟩])
   omega
  ·dsimp only; omega
def Fwd {α : Type} (l : List Tk) (f : PS→α × PS) : Prop:=∀ p : PS,p.at'≤(f p).2.at'∧(p.at'≤l.length→(f p).2.at'≤l.length)
theorem uHv (l : List Tk) (out : List Fs) : Fwd l (fun p=>uBM l p out):=fun p=>by
 have h1:=uA1 l [] p
 have h2:=uBp l [58] (uAw l [] p).2
 have h3:=uHq l (uAw l [] p).1 (l.length + 1) (uA4 l [58] (uAw l [] p).2) out
 show p.at'≤(uBN _ _ _ _ _).2.at'∧(_→(uBN _ _ _ _ _).2.at'≤_)
 omega
theorem uGT (l : List Tk) (line : Int) : Fwd l (uCl l line):=fun p=>by
 have h1:=uA1 l [] p
 have h2:=uBp l [45] (uAw l [] p).2
 have h3:=uBp l [62] (uA4 l [45] (uAw l [] p).2)
 have h4:=uA1 l [] (uA4 l [62] (uA4 l [45] (uAw l [] p).2))
 have h5:=uBp l [58] (uAw l [] (uA4 l [62] (uA4 l [45] (uAw l [] p).2))).2
 have h6:=uCq l (l.length + 1) (uA4 l [58] (uAw l [] (uA4 l [62] (uA4 l [45] (uAw l [] p).2))).2)
 show p.at'≤(uAQ _ _ _).2.at'∧(_→(uAQ _ _ _).2.at'≤_)
 omega
theorem uGC (l : List Tk) (line : Int) : Fwd l (uB0 l line):=fun p=>by
 have h1:=uA1 l kindW p
 have h2:=uA1 l [] (uAw l kindW p).2
 have h3 : (uAw l [] (uAw l kindW p).2).2.at'≤(if uBA (1 + uBw kindW (uAw l kindW p).1)=true then uAw l [] (uAw l [] (uAw l kindW p).2).2 else ([],(uAw l [] (uAw l kindW p).2).2)).2.at'∧((uAw l [] (uAw l kindW p).2).2.at'≤l.length→(if uBA (1 + uBw kindW (uAw l kindW p).1)=true then uAw l [] (uAw l [] (uAw l kindW p).2).2 else ([],(uAw l [] (uAw l kindW p).2).2)).2.at'≤l.length):=by
  split
  ·exact uA1 l [] _
  ·simp
 have h4:=uBp l [58] (if uBA (1 + uBw kindW (uAw l kindW p).1)=true then uAw l [] (uAw l [] (uAw l kindW p).2).2 else ([],(uAw l [] (uAw l kindW p).2).2)).2
 have h5:=uCM (uCq l (l.length + 1)) (uA4 l [58] (if uBA (1 + uBw kindW (uAw l kindW p).1)=true then uAw l [] (uAw l [] (uAw l kindW p).2).2 else ([],(uAw l [] (uAw l kindW p).2).2)).2)
 show p.at'≤(uBj _ _ _).2.at'∧(_→(uBj _ _ _).2.at'≤_)
 omega
theorem uG4 (l : List Tk) (n : Nar) (line : Int) (w : List UInt8) : Fwd l (uBH l n line w):=fun p=>by
 unfold uBH
 repeat' split
 ·exact uCM (uA1 l []) p
 ·exact uHv l n.fresh p
 ·exact uCM (uA1 l []) p
 ·exact uGT l line p
 ·exact uGC l line p
 ·exact ⟨Nat.le_refl _,fun h=>h⟩
theorem uMD (l : List Tk) (n : Nar) (p : PS) (hp : p.at'≤l.length) : (uBU l n p).2.at'≤l.length∧((uBU l n p).2.bad=false→p.at' < (uBU l n p).2.at'):=by
 have h1:=uA1 l uBS p
 have h2:=uG4 l n (uCt l p) (uAw l uBS p).1 (uAw l uBS p).2
 have h3:=uBp l [59] (uBH l n (uCt l p) (uAw l uBS p).1 (uAw l uBS p).2).2
 have e : (uBU l n p).2=uA4 l [59] (uBH l n (uCt l p) (uAw l uBS p).1 (uAw l uBS p).2).2:=rfl
 rw [e]
 refine ⟨by omega,fun hb=>?_⟩
 have hq:=uLJ ((uJC l n _ _).good (uJ9 hb))
 have : (uAw l uBS p).2.at'=p.at' + 1:=by rw [uAw,if_pos hq]; rfl
 omega
end Go.Proofs.YtnjjdbapadkomaaGreatDoor
namespace Go.Proofs.YtnjjdbapadkomaaGreatDoor
open Go Go.Abs
structure GoodTk (N : Nat) (t : Tk) : Prop where
 form : (t.kind=1∧t.int=0∧t.str=[]∧uBe ((t.text.getD 0 0).toNat : Int)=true∧nlE t.text=t.text.length∧t.text≠[]∧t.text.length≤24) ∨
  (t.kind=2∧t.text=[]∧t.str=[]∧0≤t.int∧t.int≤9223372036854775807)∨(t.kind=3∧t.text=[]∧t.int=0) ∨
  (t.kind=4∧t.int=0∧t.str=[] ∧ ∃ c,t.text=[c]∧symB c=true)
 s : t.str.length≤N
theorem uKL : ∀ (l : List UInt8),nmP (l.take (nmP l))=nmP l
 | []=>rfl
 | b :: l=>by
  rw [nmP]
  split
  ·rename_i h
   rw [List.take_succ_cons,nmP,if_pos,uKL l]
   refine ⟨h.1,fun q=>h.2 ⟨q.1,?_⟩⟩
   obtain ⟨q1,q2⟩:=q
   by_cases hz : 0 < (l.take (nmP l)).length
   ·rw [(take_getD' (l:=l) (d:=0) hz).1] at q2; exact q2
   ·have : l.take (nmP l)=[]:=List.eq_nil_of_length_eq_zero (by omega)
    rw [this] at q2; simp at q2
  ·rfl
theorem uJX {c : UInt8} (h : symB c=true) : uBe (c.toNat : Int)≠true∧uBh (c.toNat : Int)≠true∧c.toNat≠34∧c.toNat≠35∧c.toNat≠10∧uBL c=false:=by
 have hm : c ∈ syms:=by simpa [symB] using h
 simp only [syms,List.mem_cons,List.not_mem_nil,or_false] at hm
 rcases hm with rfl | rfl | rfl | rfl | rfl | rfl | rfl | rfl | rfl | rfl | rfl | rfl | rfl | rfl | rfl | rfl | rfl | rfl <;> decide
theorem uKx {s : List UInt8} (h : 0 < s.length) (he : (uBi s).2.2=0) : GoodTk s.length (uBi s).1:=by
 have h1:=uIq h
 have h2:=uEf s 0 0 (by omega)
 have h3:=uF0 s h
 unfold uBi at he ⊢
 split
 ·rename_i hl
  rw [if_pos hl] at he
  split
  ·rename_i q; rw [if_pos q] at he; simp at he
  ·rename_i q
   obtain ⟨c,r,rfl⟩ : ∃ c r,s=c :: r:=by
    cases s with
    | nil=>simp at h
    | cons c r=>exact ⟨c,r,rfl⟩
   have e1 : nlE (c :: r)=nmP r + 1:=by simp [nlE]; omega
   have e2 : (c :: r).take (nlE (c :: r))=c :: r.take (nmP r):=by rw [e1,List.take_succ_cons]
   have e3 : nlE (c :: r.take (nmP r))=nmP r + 1:=by
    have : nlE (c :: r.take (nmP r))=1 + nmP (r.take (nmP r)):=by simp [nlE]
    rw [this,uKL]; omega
   refine ⟨.inl ⟨rfl,rfl,rfl,?_,?_,?_,?_⟩,by simp⟩
   ·dsimp only; rw [e2]; exact hl
   ·dsimp only; rw [e2,e3]; have := uKp r; simp; omega
   ·dsimp only; rw [e2]; simp
   ·dsimp only; rw [List.length_take]; omega
 split
 ·split
  ·exact ⟨.inr (.inl ⟨rfl,rfl,rfl,h2.2.2.1,h2.2.2.2 (by omega)⟩),by simp⟩
  ·rename_i hl hd hq
   rw [if_neg hl,if_pos hd,if_neg hq] at he; simp at he
 split
 ·split
  ·rename_i hl hd hq hz
   rw [if_neg hl,if_neg hd,if_pos hq,if_pos hz] at he; simp at he
  ·exact ⟨.inr (.inr (.inl ⟨rfl,rfl,rfl⟩)),h3.2⟩
 split
 ·rename_i hl hd hq hz
  obtain ⟨c,r,rfl⟩ : ∃ c r,s=c :: r:=by
   cases s with
   | nil=>simp at h
   | cons c r=>exact ⟨c,r,rfl⟩
  exact ⟨.inr (.inr (.inr ⟨rfl,rfl,rfl,c,rfl,by simpa using hz⟩)),by simp⟩
 ·rename_i hl hd hq hz
  rw [if_neg hl,if_neg hd,if_neg hq,if_neg hz] at he; simp at he
theorem GoodTk.onl {N : Nat} {t : Tk} (h : GoodTk N t) (k : Int) : GoodTk N (t.onl k):=⟨h.form,h.s⟩
theorem GoodTk.mono {N M : Nat} {t : Tk} (h : GoodTk N t) (hm : N≤M) : GoodTk M t:=⟨h.form,Nat.le_trans h.s hm⟩
theorem uG8 : ∀ (n : Nat) (l : List UInt8) (k : Int) (out : List Tk) (N : Nat),l.length≤N→(∀ t ∈ out,GoodTk N t) → ∀ t ∈ (uBl n l k out).1,GoodTk N t
 | 0,l,k,out,N,_,ho=>ho
 | n + 1,l,k,out,N,hl,ho=>by
  have ht:=uDq l
  rw [uBl]
  split
  ·exact ho
  ·rename_i h1
   have hne : 0 < (uBg l).length:=List.length_pos_iff.2 fun q=>h1 (.inl q)
   split
   ·intro t ht; simp at ht
   ·rename_i h2
    have h2:=Decidable.not_not.1 h2
    refine uG8 n _ k _ N (by rw [List.length_drop]; omega) fun t ht2=>?_
    rcases List.mem_append.1 ht2 with q | q
    ·exact ho t q
    ·simp only [List.mem_singleton] at q
     subst q
     exact ((uKx hne h2).mono (by omega)).onl k
theorem uGp : ∀ (L : List (List UInt8)) (k : Nat) (out : List Tk) (N : Nat),(∀ l ∈ L,l.length≤N)→(∀ t ∈ out,GoodTk N t) → ∀ t ∈ (uBX L k out).1,GoodTk N t
 | [],k,out,N,_,ho=>ho
 | l :: L,k,out,N,hl,ho=>by
  rw [uBX]
  split
  ·intro t ht; simp at ht
  ·exact uGp L (k + 1) _ N (fun x hx=>hl x (List.mem_cons_of_mem _ hx)) (uG8 _ _ _ _ N (hl l (List.mem_cons_self ..)) ho)
theorem uHA (s : List UInt8) : ∀ t ∈ (tokP s).1,GoodTk s.length t:=by
 unfold tokP
 split
 ·intro t ht; simp at ht
 ·exact uGp _ _ _ _ (fun l hl=>uF2 s l hl) (by simp)
theorem lineP_len' : ∀ (n : Nat) (l : List UInt8) (k : Int) (out : List Tk),(uBl n l k out).1.length≤out.length + l.length
 | 0,l,k,out=>by simp [uBl]
 | n + 1,l,k,out=>by
  have h1:=uDq l
  rw [uBl]
  split
  ·simp
  ·rename_i hq
   have hne : 0 < (uBg l).length:=List.length_pos_iff.2 fun h=>hq (.inl h)
   split
   ·simp
   ·rename_i he
    have h2:=uDi hne
    have h3:=h2.2 (Decidable.not_not.1 he)
    have ih:=lineP_len' n ((uBg l).drop (uBi (uBg l)).2.1) k (out++[(uBi (uBg l)).1.onl k])
    simp only [List.length_drop,List.length_append,List.length_singleton] at ih
    omega
def sumL (L : List (List UInt8)) : Nat:=(L.map List.length).sum
theorem uIj : ∀ (s : List UInt8),sumL (spl s)≤s.length
 | []=>by simp [sumL,spl]
 | b :: l=>by
  have ih:=uIj l
  rw [spl]
  split
  ·simp only [sumL,List.map_cons,List.sum_cons,List.length_nil,List.length_cons] at ih ⊢; omega
  ·split
   ·simp [sumL]
   ·rename_i h; rw [h] at ih
    simp only [sumL,List.map_cons,List.sum_cons,List.length_cons] at ih ⊢; omega
def wl (t : Tk) : Nat:=(uBs t).length + 1
def sumW (l : List Tk) : Nat:=(l.map wl).sum
theorem uG0 (a b : List Tk) : sumW (a++b)=sumW a + sumW b:=by simp [sumW]
theorem dec_len' : ∀ (k u : Nat),u < 10 ^ (k + 1)→(Lib.decDigits u).length≤k + 1
 | 0,u,h=>by rw [Lib.decDigits,dif_pos (by simpa using h)]; simp
 | k + 1,u,h=>by
  rw [Lib.decDigits]
  split
  ·simp
  ·have := dec_len' k (u / 10) (by rw [Nat.pow_succ] at h; omega)
   simp only [List.length_append,List.length_singleton]
   omega
theorem uGZ : ∀ (n : Nat) (l : List UInt8) (i : Nat) (out : List UInt8),(litA n l i out).2≠0→(litA n l i out).1.length + i + 1≤out.length + (litA n l i out).2
 | 0,l,i,out,h=>by simp [litA] at h
 | n + 1,[],i,out,h=>by simp [litA] at h
 | n + 1,c :: l,i,out,h=>by
  rw [litA] at h ⊢
  split
  ·simp; omega
  ·rename_i h1
   rw [if_neg h1] at h
   split
   ·rename_i h2
    rw [if_pos h2] at h
    split
    ·rename_i h3; rw [if_pos h3] at h; simp at h
    ·rename_i h3
     rw [if_neg h3] at h
     have := uGZ n _ _ _ h
     simp only [List.length_append,List.length_singleton] at this
     omega
   ·rename_i h2
    rw [if_neg h2] at h
    split
    ·rename_i h3; rw [if_pos h3] at h; simp at h
    ·rename_i h3
     rw [if_neg h3] at h
     have := uGZ n _ _ _ h
     simp only [List.length_append,List.length_singleton] at this
     omega
theorem uHh {s : List UInt8} (h : 0 < s.length) (he : (uBi s).2.2=0) : wl (uBi s).1≤21 * (uBi s).2.1:=by
 have h0:=(uDi h).2 he
 have h1:=uIq h
 have h2:=uEf s 0 0 (by omega)
 unfold uBi at he h0 ⊢
 unfold wl uBs
 split
 ·rename_i hl
  rw [if_pos hl] at he h0
  split
  ·rename_i q; rw [if_pos q] at he; simp at he
  ·rename_i q
   rw [if_pos (.inl rfl)]
   dsimp only
   rw [List.length_take]; omega
 ·rename_i hl
  rw [if_neg hl] at he h0
  split
  ·rename_i hd
   rw [if_pos hd] at he h0
   split
   ·rename_i hq
    rw [if_pos hq] at h0
    rw [if_neg (by simp),if_neg (by simp),if_pos ⟨rfl,h2.2.2.1⟩]
    have hm:=h2.2.2.2 (by omega)
    have := dec_len' 19 (numA s 0 0).2.2.toNat (by omega)
    dsimp only at h0 ⊢
    omega
   ·rename_i hq
    rw [if_neg hq] at he; simp at he
  ·rename_i hd
   rw [if_neg hd] at he h0
   split
   ·rename_i hq
    rw [if_pos hq] at he h0
    split
    ·rename_i hz; rw [if_pos hz] at he; simp at he
    ·rename_i hz
     rw [if_neg (by simp),if_pos rfl]
     have h3:=uGZ (s.length + 1) (s.drop 1) 1 [] hz
     have h4:=uDO (litE s).1
     have h5:=uER (litE s).1
     dsimp only
     have h6 : (litE s).1.length + 1 + 1≤0 + (litE s).2:=h3
     omega
   ·rename_i hq
    rw [if_neg hq] at he h0
    split
    ·rw [if_pos (.inr rfl)]
     dsimp only
     rw [List.length_take]; omega
    ·rename_i hz; rw [if_neg hz] at he; simp at he
theorem uN8 (t : Tk) (k : Int) : wl (t.onl k)=wl t:=rfl
theorem uFL : ∀ (n : Nat) (l : List UInt8) (k : Int) (out : List Tk),sumW (uBl n l k out).1≤sumW out + 21 * l.length
 | 0,l,k,out=>by simp [uBl]
 | n + 1,l,k,out=>by
  have h1:=uDq l
  rw [uBl]
  split
  ·simp
  ·rename_i hq
   have hne : 0 < (uBg l).length:=List.length_pos_iff.2 fun h=>hq (.inl h)
   split
   ·simp [sumW]
   ·rename_i he
    have he:=Decidable.not_not.1 he
    have h2:=uDi hne
    have h3:=uHh hne he
    have ih:=uFL n ((uBg l).drop (uBi (uBg l)).2.1) k (out++[(uBi (uBg l)).1.onl k])
    rw [uG0,List.length_drop] at ih
    have e : sumW [(uBi (uBg l)).1.onl k]=wl (uBi (uBg l)).1:=by simp [sumW,uN8]
    rw [e] at ih
    have h4:=h2.1
    omega
theorem uFW : ∀ (L : List (List UInt8)) (k : Nat) (out : List Tk),sumW (uBX L k out).1≤sumW out + 21 * sumL L
 | [],k,out=>by simp [uBX]
 | l :: L,k,out=>by
  rw [uBX]
  split
  ·simp [sumW]
  ·have h1:=uFL (l.length + 1) l (k : Nat) out
   have ih:=uFW L (k + 1) (uBl (l.length + 1) l (k : Nat) out).1
   simp only [sumL,List.map_cons,List.sum_cons] at ih ⊢
   omega
theorem uGs (s : List UInt8) : sumW (tokP s).1≤21 * s.length:=by
 unfold tokP
 split
 ·simp [sumW]
 ·have h1:=uFW (spl s) 1 []
  have h2:=uIj s
  simp only [sumW,List.map_nil,List.sum_nil] at h1 ⊢
  omega
def Apart (r : List UInt8) : Prop:=r=[]∨uBL (r.getD 0 0)=true
theorem uEU {c : UInt8} (h : uBL c=true) : uCc (c.toNat : Int)≠true∧uBh (c.toNat : Int)≠true:=by
 have : c.toNat=32∨c.toNat=9∨c.toNat=10∨c.toNat=13:=by simp [uBL] at h; omega
 rcases this with q | q | q | q <;> rw [q] <;> decide
theorem uKS : ∀ (l r : List UInt8),nmP l=l.length→Apart r→nmP (l++r)=l.length
 | [],r,_,hr=>by
  rcases hr with h | h
  ·subst h; rfl
  ·cases r with
   | nil=>rfl
   | cons c r =>
    rw [List.getD_cons_zero] at h
    show nmP (c :: r)=0
    rw [nmP,if_neg (fun q=>(uEU h).1 q.1)]
 | b :: l,r,h,hr=>by
  rw [nmP] at h
  split at h
  ·rename_i hq
   have ih:=uKS l r (by simpa using h) hr
   show nmP (b :: (l++r))=_
   rw [nmP,if_pos,ih]; rfl
   refine ⟨hq.1,fun q=>?_⟩
   cases l with
   | cons d l=>exact hq.2 q
   | nil =>
    obtain ⟨q1,q2⟩:=q
    rcases hr with z | z
    ·subst z; simp at q2
    ·have := (uEU z).1
     rw [List.nil_append] at q2
     rw [q2] at this
     exact this (by decide)
  ·simp at h
theorem uNa {l r : List UInt8} (h : nlE l=l.length) (hl : l≠[]) (hr : Apart r) : nlE (l++r)=l.length:=by
 cases l with
 | nil=>exact absurd rfl hl
 | cons c l =>
  have h1 : nmP l=l.length:=by simp [nlE] at h; omega
  have h2:=uKS l r h1 hr
  simp [nlE,h2]; omega
theorem uEM : ∀ (k u : Nat),u < 10 ^ (k + 1) → ∀ b ∈ Lib.decDigits u,uBh (b.toNat : Int)=true
 | 0,u,h,b,hb=>by
  rw [Lib.decDigits,dif_pos (by simpa using h)] at hb
  rw [List.mem_singleton] at hb; subst hb
  have : u < 10:=by simpa using h
  simp only [uBh,UInt8.toNat_ofNat',Bool.and_eq_true,decide_eq_true_eq]
  omega
 | k + 1,u,h,b,hb=>by
  rw [Lib.decDigits] at hb
  split at hb
  ·rw [List.mem_singleton] at hb; subst hb
   simp only [uBh,UInt8.toNat_ofNat',Bool.and_eq_true,decide_eq_true_eq]
   omega
  ·rcases List.mem_append.1 hb with q | q
   ·exact uEM k (u / 10) (by rw [Nat.pow_succ] at h; omega) b q
   ·rw [List.mem_singleton] at q; subst q
    simp only [uBh,UInt8.toNat_ofNat',Bool.and_eq_true,decide_eq_true_eq]
    omega
theorem uGX : ∀ (k u : Nat),u < 10 ^ (k + 1)→u≤9223372036854775807 → ∀ (r : List UInt8) (n : Nat),numA (Lib.decDigits u++r) n 0=numA r (n + (Lib.decDigits u).length) (u : Int)
 | 0,u,h,hu,r,n=>by
  have h10 : u < 10:=by simpa using h
  rw [Lib.decDigits,dif_pos h10]
  show numA (UInt8.ofNat (48 + u) :: r) n 0=_
  have e : ((UInt8.ofNat (48 + u)).toNat : Int)=48 + u:=by rw [UInt8.toNat_ofNat']; omega
  rw [numA,e,if_pos (by simp [uBh]; omega),if_neg (by omega)]
  congr 1; omega
 | k + 1,u,h,hu,r,n=>by
  by_cases h10 : u < 10
  ·exact uGX 0 u (by simpa using h10) hu r n
  ·have e0 : Lib.decDigits u=Lib.decDigits (u / 10)++[UInt8.ofNat (48 + u % 10)]:=by rw [Lib.decDigits,dif_neg h10]
   rw [e0,List.append_assoc,uGX k (u / 10) (by rw [Nat.pow_succ] at h; omega) (by omega)]
   show numA (UInt8.ofNat (48 + u % 10) :: r) _ _=_
   have e : ((UInt8.ofNat (48 + u % 10)).toNat : Int)=48 + (u % 10 : Nat):=by rw [UInt8.toNat_ofNat']; omega
   rw [numA,e,if_pos (by simp [uBh]; omega),if_neg (by omega)]
   simp only [List.length_append,List.length_singleton]
   congr 1; omega
theorem uNw (u : Nat) : Lib.decDigits u≠[]:=by
 rw [Lib.decDigits]
 split <;> simp
theorem uId {n : Int} (h : uBh n=true) : uBe n≠true:=by
 have : 48≤n∧n≤57:=by simpa [uBh] using h
 simp [uBe]; omega
theorem uLT {N : Nat} {t : Tk} (ht : GoodTk N t) {r : List UInt8} (hr : Apart r) : uBi (uBs t++r)=(t.onl 0,(uBs t).length,0) ∧ ∃ c l,uBs t=c :: l∧uBL c=false∧c.toNat≠35:=by
 obtain ⟨form,hs⟩:=ht
 obtain ⟨kind,text,int,str,line⟩:=t
 dsimp only at form hs
 rcases form with ⟨rfl,rfl,rfl,h4,h5,h6,h7⟩ | ⟨rfl,rfl,rfl,h4,h5⟩ | ⟨rfl,rfl,rfl⟩ | ⟨rfl,rfl,rfl,c,rfl,hc⟩
 ·have hw : uBs ⟨1,text,0,[],line⟩=text:=by unfold uBs; rw [if_pos (.inl rfl)]
  rw [hw]
  obtain ⟨c,l,rfl⟩ : ∃ c l,text=c :: l:=by
   cases text with
   | nil=>exact absurd rfl h6
   | cons c l=>exact ⟨c,l,rfl⟩
  rw [List.getD_cons_zero] at h4
  have e1:=uNa h5 h6 hr
  refine ⟨?_,c,l,rfl,?_,?_⟩
  ·unfold uBi
   have e2 : ((c :: l)++r).getD 0 0=c:=rfl
   rw [e2,if_pos h4,e1,if_neg (by omega),List.take_left' rfl]; rfl
  ·rw [Bool.eq_false_iff]; intro q
   have : c.toNat=32∨c.toNat=9∨c.toNat=10∨c.toNat=13:=by simp [uBL] at q; omega
   rcases this with q | q | q | q <;> rw [q] at h4 <;> revert h4 <;> decide
  ·intro q; rw [q] at h4; revert h4; decide
 ·have hw : uBs ⟨2,[],int,[],line⟩=Lib.decDigits int.toNat:=by unfold uBs; rw [if_neg (by simp),if_neg (by simp),if_pos ⟨rfl,h4⟩]
  rw [hw]
  have hbig : int.toNat < 10 ^ (19 + 1):=by omega
  obtain ⟨c,l,hcl⟩ : ∃ c l,Lib.decDigits int.toNat=c :: l:=by
   cases h : Lib.decDigits int.toNat with
   | nil=>exact absurd h (uNw _)
   | cons c l=>exact ⟨c,l,rfl⟩
  have hd:=uEM 19 int.toNat hbig c (by rw [hcl]; simp)
  have hstop : ∀ (n : Nat) (v : Int),numA r n v=(true,n,v):=by
   intro n v
   rcases hr with z | z
   ·subst z; rfl
   ·cases r with
    | nil=>rfl
    | cons d r =>
     rw [List.getD_cons_zero] at z
     rw [numA,if_neg (uEU z).2]
  have hnum:=uGX 19 int.toNat hbig (by omega) r 0
  rw [hstop,Nat.zero_add] at hnum
  have e0 : (Lib.decDigits int.toNat++r).getD 0 0=c:=by rw [hcl]; rfl
  refine ⟨?_,c,l,hcl,?_,?_⟩
  ·unfold uBi
   rw [e0,if_neg (uId hd),if_pos hd,hnum,if_pos rfl]
   have e3 : ((int.toNat : Nat) : Int)=int:=by omega
   dsimp only
   rw [e3]; rfl
  ·rw [Bool.eq_false_iff]; intro q; exact (uEU q).2 hd
  ·intro q; rw [q] at hd; revert hd; decide
 ·have hw : uBs ⟨3,[],0,str,line⟩=quoE str:=by unfold uBs; rw [if_neg (by simp),if_pos rfl]
  rw [hw]
  have e0 : (quoE str++r).getD 0 0=34:=by simp [quoE]
  refine ⟨?_,34,quoB str++[34],by simp [quoE],by decide,by decide⟩
  unfold uBi
  rw [e0,if_neg (by decide),if_neg (by decide),if_pos (by decide),uMi,if_neg (by rw [uER]; simp)]; rfl
 ·have hw : uBs ⟨4,[c],0,[],line⟩=[c]:=by unfold uBs; rw [if_pos (.inr rfl)]
  rw [hw]
  obtain ⟨s1,s2,s3,s4,s5,s6⟩:=uJX hc
  refine ⟨?_,c,[],rfl,s6,s4⟩
  unfold uBi
  have e0 : ([c]++r).getD 0 0=c:=rfl
  rw [e0,if_neg s1,if_neg s2,if_neg s3,if_pos hc]; rfl
end Go.Proofs.YtnjjdbapadkomaaGreatDoor
namespace Go.Proofs.YtnjjdbapadkomaaGreatDoor
open Go Go.Abs
def TT (s : List UInt8) (k : Nat) (out : List Tk) : List Tk × Nat × Int:=uBX (spl s) k out
theorem uEF {l : List UInt8} (h : ∀ b ∈ l,b.toNat≠10) {n m : Nat} (k : Int) (out : List Tk) (hn : l.length < n) (hm : l.length < m) : uBl n l k out=uBl m l k out:=by
 rw [← uCZ l.length l (Nat.le_refl _) h n ((uA5 l).length + 1) k out hn (by omega),← uCZ l.length l (Nat.le_refl _) h m ((uA5 l).length + 1) k out hm (by omega)]
theorem uE3 {b : UInt8} {l x : List UInt8} {r : List (List UInt8)} (hb : b.toNat≠10) (h : spl l=x :: r) : spl (b :: l)=(b :: x) :: r:=by
 rw [spl,if_neg hb,h]
theorem uIo {b : UInt8} {l : List UInt8} (hb : b.toNat=10) : spl (b :: l)=[] :: spl l:=by rw [spl,if_pos hb]
theorem uF9 : ∀ (w : List UInt8) {l x : List UInt8} {r : List (List UInt8)},(∀ b ∈ w,b.toNat≠10)→spl l=x :: r→spl (w++l)=(w++x) :: r
 | [],_,_,_,_,h=>h
 | b :: w,l,x,r,hw,h=>uE3 (hw b (by simp)) (uF9 w (fun c hc=>hw c (by simp [hc])) h)
theorem uDo (s : List UInt8) : ∃ x r,spl s=x :: r:=by
 cases h : spl s with
 | nil=>exact absurd h (uGR s)
 | cons x r=>exact ⟨x,r,rfl⟩
theorem uKs {n : Nat} {l l' : List UInt8} {k : Int} {out : List Tk} (h : uBg l=uBg l') : uBl (n + 1) l k out=uBl (n + 1) l' k out:=by simp only [uBl,h]
theorem uNt {s : List UInt8} (h : s.length≤65536) : tokP s=TT s 1 []:=by
 unfold tokP TT
 rw [if_neg (by omega)]
theorem uEL {l l' : List UInt8} {L : List (List UInt8)} {k : Nat} {out out' : List Tk} (h : uBl (l.length + 1) l (k : Int) out=uBl (l'.length + 1) l' (k : Int) out') : uBX (l :: L) k out=uBX (l' :: L) k out':=by
 rw [uBX,uBX,h]
theorem uDk {w : UInt8} (hw : w.toNat=32∨w.toNat=9∨w.toNat=13) (r : List UInt8) (k : Nat) (out : List Tk) : TT (w :: r) k out=TT r k out:=by
 obtain ⟨x,xs',h⟩:=uDo r
 have hin : wsp.contains w=true:=by
  rcases hw with q | q | q
  ·rw [show w=32 from UInt8.toNat_inj.1 q]; rfl
  ·rw [show w=9 from UInt8.toNat_inj.1 q]; rfl
  ·rw [show w=13 from UInt8.toNat_inj.1 q]; rfl
 have ht : uBg (w :: x)=uBg x:=by unfold uBg; rw [List.dropWhile_cons,if_pos hin]
 have hno : ∀ b ∈ x,b.toNat≠10:=uD1 r x (by rw [h]; simp)
 unfold TT
 rw [uE3 (by omega) h,h]
 refine uEL ?_
 rw [← uEF hno (n:=x.length + 1 + 1) (m:=x.length + 1) _ _ (by omega) (by omega)]
 exact uKs ht
theorem uNE {b : UInt8} (hb : b.toNat=10) (r : List UInt8) (k : Nat) (out : List Tk) : TT (b :: r) k out=TT r (k + 1) out:=by
 unfold TT
 rw [uIo hb,uBX,uHH,if_neg (by simp)]
theorem uIi (c : List UInt8) (n : Nat) (k : Int) (out : List Tk) : uBl n (35 :: 35 :: c) k out=(out,0):=by
 cases n with
 | zero=>rfl
 | succ n =>
  have ht : uBg (35 :: 35 :: c)=35 :: 35 :: c:=by unfold uBg; rw [List.dropWhile_cons,if_neg (by decide)]
  rw [uBl,ht,if_pos (.inr (by rw [uJI]; rfl))]
theorem uKg {c : List UInt8} (hc : ∀ b ∈ c,b.toNat≠10) {b : UInt8} (hb : b.toNat=10) (r : List UInt8) (k : Nat) (out : List Tk) : TT (35 :: 35 :: c++b :: r) k out=TT r (k + 1) out:=by
 unfold TT
 rw [uF9 (35 :: 35 :: c) (fun x hx=>by
  rcases List.mem_cons.1 hx with q | q
  ·subst q; decide
  ·rcases List.mem_cons.1 q with q | q
   ·subst q; decide
   ·exact hc x q) (uIo hb),List.append_nil,uBX,uIi,if_neg (by simp)]
theorem uN1 (k : Nat) (out : List Tk) : TT [] k out=(out,0,0):=by
 unfold TT
 rw [spl,uBX,uHH,if_neg (by simp)]; rfl
theorem uL0 (c : UInt8) : ∀ b ∈ quo1 c,b.toNat≠10:=by
 obtain ⟨x1,x2,x3,x4,x5⟩:=hexd c
 have hx : ∀ d : UInt8,hexB d=true→d.toNat≠10:=by intro d hd; simp [hexB] at hd; omega
 intro b hb
 unfold quo1 at hb
 split at hb
 ·simp at hb; rcases hb with rfl | rfl <;> decide
 split at hb
 ·simp at hb; rcases hb with rfl | rfl <;> decide
 split at hb
 ·rename_i h
  simp at hb
  rcases hb with rfl | rfl
  ·decide
  ·omega
 split at hb
 ·rename_i h
  simp at hb; subst hb; omega
 ·rw [x4,x5] at hb
  simp only [List.mem_append,List.mem_cons,List.not_mem_nil,or_false] at hb
  rcases hb with ((rfl | rfl) | rfl) | rfl
  ·decide
  ·decide
  ·exact hx _ x1
  ·exact hx _ x2
theorem uHQ : ∀ (s : List UInt8),∀ b ∈ quoB s,b.toNat≠10
 | [],b,hb=>by simp [quoB] at hb
 | c :: s,b,hb=>by
  rw [quoB] at hb
  rcases List.mem_append.1 hb with q | q
  ·exact uL0 c b q
  ·exact uHQ s b q
theorem uLS {N : Nat} {t : Tk} (ht : GoodTk N t) : ∀ b ∈ uBs t,b.toNat≠10:=by
 obtain ⟨form,hs⟩:=ht
 obtain ⟨kind,text,int,str,line⟩:=t
 dsimp only at form hs
 intro b hb
 rcases form with ⟨rfl,rfl,rfl,h4,h5,h6,h7⟩ | ⟨rfl,rfl,rfl,h4,h5⟩ | ⟨rfl,rfl,rfl⟩ | ⟨rfl,rfl,rfl,c,rfl,hc⟩
 ·have hw : uBs ⟨1,text,0,[],line⟩=text:=by unfold uBs; rw [if_pos (.inl rfl)]
  rw [hw] at hb
  cases text with
  | nil=>exact absurd rfl h6
  | cons c l =>
   rw [List.getD_cons_zero] at h4
   rcases List.mem_cons.1 hb with q | q
   ·subst q; intro z; rw [z] at h4; revert h4; decide
   ·have := uIt l (by simp [nlE] at h5; omega)
    exact uHZ (by have := List.all_eq_true.1 this b q; exact this)
 ·have hw : uBs ⟨2,[],int,[],line⟩=Lib.decDigits int.toNat:=by unfold uBs; rw [if_neg (by simp),if_neg (by simp),if_pos ⟨rfl,h4⟩]
  rw [hw] at hb
  have := uEM 19 int.toNat (by omega) b hb
  intro z; rw [z] at this; revert this; decide
 ·have hw : uBs ⟨3,[],0,str,line⟩=quoE str:=by unfold uBs; rw [if_neg (by simp),if_pos rfl]
  rw [hw] at hb
  unfold quoE at hb
  rcases List.mem_append.1 hb with q | q
  ·rcases List.mem_append.1 q with q | q
   ·simp at q; subst q; decide
   ·exact uHQ str b q
  ·simp at q; subst q; decide
 ·have hw : uBs ⟨4,[c],0,[],line⟩=[c]:=by unfold uBs; rw [if_pos (.inr rfl)]
  rw [hw] at hb
  simp at hb; subst hb
  exact (uJX hc).2.2.2.2.1
theorem uNm {N : Nat} {t : Tk} (ht : GoodTk N t) {r : List UInt8} (hr : Apart r) (k : Nat) (out : List Tk) : TT (uBs t++r) k out=TT r k (out++[t.onl k]):=by
 obtain ⟨x,xs',h⟩:=uDo r
 have hx : Apart x:=by
  rcases hr with q | q
  ·subst q
   simp only [spl,List.cons.injEq] at h
   exact .inl h.1.symm
  ·cases r with
   | nil=>simp only [spl,List.cons.injEq] at h; exact .inl h.1.symm
   | cons c r =>
    rw [List.getD_cons_zero] at q
    by_cases hc : c.toNat=10
    ·rw [uIo hc] at h
     simp only [List.cons.injEq] at h
     exact .inl h.1.symm
    ·obtain ⟨y,ys,hy⟩:=uDo r
     rw [uE3 hc hy] at h
     simp only [List.cons.injEq] at h
     rw [← h.1]
     exact .inr q
 have hno:=uD1 r x (by rw [h]; simp)
 obtain ⟨e1,c,l,e2,e3,e4⟩:=uLT ht hx
 have hin : ¬wsp.contains c=true:=by
  intro q
  have : c=32∨c=9∨c=13:=by simpa [wsp] using q
  rcases this with rfl | rfl | rfl <;> simp [uBL] at e3
 have ht2 : uBg (uBs t++x)=uBs t++x:=by
  rw [e2]
  unfold uBg
  show List.dropWhile _ (c :: (l++x))=_
  rw [List.dropWhile_cons,if_neg hin]; rfl
 have hcut : ¬(uBs t++x=[]∨[35,35].isPrefixOf (uBs t++x)=true):=by
  rw [e2]
  rintro (q | q)
  ·cases q
  ·have q : ([35,35] : List UInt8).isPrefixOf (c :: (l++x))=true:=q
   rw [uJI] at q
   simp only [Bool.and_eq_true,decide_eq_true_eq] at q
   exact e4 q.1
 unfold TT
 rw [uF9 (uBs t) (uLS ht) h,h]
 refine uEL ?_
 rw [uBl,ht2,if_neg hcut,e1,if_neg (by simp)]
 dsimp only
 rw [List.drop_left' rfl]
 refine uEF hno _ _ ?_ (by omega)
 rw [List.length_append,e2]; simp only [List.length_cons]; omega
theorem uLb (l : List Tk) (k : Nat) : sumW (l.take k)≤sumW l:=by
 have : sumW l=sumW (l.take k) + sumW (l.drop k):=by rw [← uG0,List.take_append_drop]
 omega
theorem uFF : ∀ (L : List (List UInt8)) (k : Nat) (out : List Tk),(uBX L k out).1.length≤out.length + sumL L
 | [],k,out=>by simp [uBX]
 | l :: L,k,out=>by
  rw [uBX]
  split
  ·simp
  ·have h1:=lineP_len' (l.length + 1) l (k : Nat) out
   have ih:=uFF L (k + 1) (uBl (l.length + 1) l (k : Nat) out).1
   simp only [sumL,List.map_cons,List.sum_cons] at ih ⊢
   omega
theorem uDD (s : List UInt8) : (tokP s).1.length≤s.length:=by
 unfold tokP
 split
 ·simp
 ·have h1:=uFF (spl s) 1 []
  have h2:=uIj s
  simp only [List.length_nil] at h1
  omega
end Go.Proofs.YtnjjdbapadkomaaGreatDoor
namespace Go.Proofs.YtnjjdbapadkomaaGreatDoor
open Go Go.Abs
def nmT (w : List UInt8) : Tk:=⟨1,w,0,[],0⟩
def syT (c : UInt8) : Tk:=⟨4,[c],0,[],0⟩
def uNQ : List (List Tk)→List Tk
 | []=>[]
 | x :: r=>x++(r.map fun y=>syT 44 :: y).flatten
def Apt (r : List UInt8) : Prop:=r=[]∨uCc ((r.getD 0 0).toNat : Int)≠true
theorem uKY : ∀ (l r : List UInt8),nmP l=l.length→Apt r→nmP (l++r)=l.length
 | [],r,_,hr=>by
  rcases hr with h | h
  ·subst h; rfl
  ·cases r with
   | nil=>rfl
   | cons c r =>
    rw [List.getD_cons_zero] at h
    show nmP (c :: r)=0
    rw [nmP,if_neg (fun q=>h q.1)]
 | b :: l,r,h,hr=>by
  rw [nmP] at h
  split at h
  ·rename_i hq
   have ih:=uKY l r (by simpa using h) hr
   show nmP (b :: (l++r))=_
   rw [nmP,if_pos,ih]; rfl
   refine ⟨hq.1,fun q=>?_⟩
   cases l with
   | cons d l=>exact hq.2 q
   | nil =>
    obtain ⟨q1,q2⟩:=q
    rcases hr with z | z
    ·subst z; simp at q2
    ·rw [List.nil_append] at q2
     rw [q2] at z
     exact z (by decide)
  ·simp at h
theorem uNd {l r : List UInt8} (h : nlE l=l.length) (hl : l≠[]) (hr : Apt r) : nlE (l++r)=l.length:=by
 cases l with
 | nil=>exact absurd rfl hl
 | cons c l =>
  have h1 : nmP l=l.length:=by simp [nlE] at h; omega
  have h2:=uKY l r h1 hr
  simp [nlE,h2]; omega
theorem uNe {r x : List UInt8} {xs' : List (List UInt8)} (hr : Apt r) (h : spl r=x :: xs') : Apt x:=by
 rcases hr with q | q
 ·subst q
  simp only [spl,List.cons.injEq] at h
  exact .inl h.1.symm
 ·cases r with
  | nil=>simp only [spl,List.cons.injEq] at h; exact .inl h.1.symm
  | cons c r =>
   rw [List.getD_cons_zero] at q
   by_cases hc : c.toNat=10
   ·rw [uIo hc] at h
    simp only [List.cons.injEq] at h
    exact .inl h.1.symm
   ·obtain ⟨y,ys,hy⟩:=uDo r
    rw [uE3 hc hy] at h
    simp only [List.cons.injEq] at h
    rw [← h.1]
    exact .inr q
theorem uK3 {w r x : List UInt8} {xs' : List (List UInt8)} {t : Tk} {c : UInt8} {l : List UInt8} (h : spl r=x :: xs') (e1 : uBi (w++x)=(t.onl 0,w.length,0)) (e2 : w=c :: l) (e3 : uBL c=false) (e4 : c.toNat≠35)
  (hw : ∀ b ∈ w,b.toNat≠10) (k : Nat) (out : List Tk) : TT (w++r) k out=TT r k (out++[t.onl k]):=by
 have hno:=uD1 r x (by rw [h]; simp)
 have hin : ¬wsp.contains c=true:=by
  intro q
  have : c=32∨c=9∨c=13:=by simpa [wsp] using q
  rcases this with rfl | rfl | rfl <;> simp [uBL] at e3
 have ht2 : uBg (w++x)=w++x:=by
  rw [e2]
  unfold uBg
  show List.dropWhile _ (c :: (l++x))=_
  rw [List.dropWhile_cons,if_neg hin]; rfl
 have hcut : ¬(w++x=[]∨[35,35].isPrefixOf (w++x)=true):=by
  rw [e2]
  rintro (q | q)
  ·cases q
  ·have q : ([35,35] : List UInt8).isPrefixOf (c :: (l++x))=true:=q
   rw [uJI] at q
   simp only [Bool.and_eq_true,decide_eq_true_eq] at q
   exact e4 q.1
 unfold TT
 rw [uF9 w hw h,h]
 refine uEL ?_
 rw [uBl,ht2,if_neg hcut,e1,if_neg (by simp)]
 dsimp only
 rw [List.drop_left' rfl]
 refine uEF hno _ _ ?_ (by omega)
 rw [List.length_append,e2]; simp only [List.length_cons]; omega
theorem uGE {w : List UInt8} (h : uAO w=true) : w≠[]∧uBe ((w.getD 0 0).toNat : Int)=true∧nlE w=w.length∧w.length≤24:=by
 simp only [uAO,Bool.and_eq_true,decide_eq_true_eq] at h
 exact ⟨h.1.1.1,h.1.1.2,h.1.2,h.2⟩
theorem uKV {w : List UInt8} (h : uAO w=true) : ∀ b ∈ w,b.toNat≠10:=by
 obtain ⟨h1,h2,h3,_⟩:=uGE h
 cases w with
 | nil=>exact absurd rfl h1
 | cons c r =>
  rw [List.getD_cons_zero] at h2
  intro b hb
  rcases List.mem_cons.1 hb with q | q
  ·subst q; intro z; rw [z] at h2; revert h2; decide
  ·have := uIt r (by unfold nlE at h3; simp at h3; omega)
   exact uHZ (by have := List.all_eq_true.1 this b q; exact this)
theorem uNx {w : List UInt8} (hn : uAO w=true) {r : List UInt8} (hr : Apt r) (k : Nat) (out : List Tk) : TT (w++r) k out=TT r k (out++[(nmT w).onl k]):=by
 obtain ⟨x,xs',h⟩:=uDo r
 obtain ⟨h1,h2,h3,h4⟩:=uGE hn
 obtain ⟨c,l,rfl⟩ : ∃ c l,w=c :: l:=by
  cases w with
  | nil=>exact absurd rfl h1
  | cons c l=>exact ⟨c,l,rfl⟩
 rw [List.getD_cons_zero] at h2
 refine uK3 h ?_ rfl ?_ ?_ (uKV hn) k out
 ·have e1:=uNd h3 h1 (uNe hr h)
  unfold uBi
  have e2 : ((c :: l)++x).getD 0 0=c:=rfl
  rw [e2,if_pos h2,e1,if_neg (by omega),List.take_left' rfl]; rfl
 ·rw [Bool.eq_false_iff]; intro q
  have : c.toNat=32∨c.toNat=9∨c.toNat=10∨c.toNat=13:=by simp [uBL] at q; omega
  rcases this with q | q | q | q <;> rw [q] at h2 <;> revert h2 <;> decide
 ·intro q; rw [q] at h2; revert h2; decide
theorem uN7 {c : UInt8} (hc : symB c=true) (r : List UInt8) (k : Nat) (out : List Tk) : TT (c :: r) k out=TT r k (out++[(syT c).onl k]):=by
 obtain ⟨x,xs',h⟩:=uDo r
 obtain ⟨s1,s2,s3,s4,s5,s6⟩:=uJX hc
 refine uK3 (w:=[c]) h ?_ rfl s6 s4 (by simpa using s5) k out
 unfold uBi
 have e2 : ([c]++x).getD 0 0=c:=rfl
 rw [e2,if_neg s1,if_neg s2,if_neg s3,if_pos hc]; rfl
def Toks (b : Bool) (s : List UInt8) (ts : List Tk) : Prop:=∀ (r : List UInt8) (k : Nat) (out : List Tk),b=true∨Apt r → ∃ d l',l'.map (·.nl false)=ts∧TT (s++r) k out=TT r (k + d) (out++l')
def Fr (s : List UInt8) : Prop:=s≠[]∧uCc ((s.getD 0 0).toNat : Int)≠true
theorem Fr.apt {s : List UInt8} (h : Fr s) (r : List UInt8) : Apt (s++r):=by
 cases s with
 | nil=>exact absurd rfl h.1
 | cons c s=>exact .inr h.2
theorem Toks.nil : Toks true [] []:=fun r k out _=>⟨0,[],rfl,by simp⟩
theorem Toks.weak {b : Bool} {s : List UInt8} {ts : List Tk} (h : Toks true s ts) : Toks b s ts:=fun r k out _=>h r k out (.inl rfl)
theorem Toks.app {b b' : Bool} {s s' : List UInt8} {ts ts' : List Tk} (h : Toks b s ts) (h' : Toks b' s' ts') (hb : b=true∨Fr s') : Toks b' (s++s') (ts++ts'):=fun r k out hr=>by
 obtain ⟨d,l1,e1,e2⟩:=h (s'++r) k out (hb.elim .inl fun q=>.inr (q.apt r))
 obtain ⟨d',l2,e3,e4⟩:=h' r (k + d) (out++l1) hr
 exact ⟨d + d',l1++l2,by rw [List.map_append,e1,e3],by rw [List.append_assoc,e2,e4,List.append_assoc,Nat.add_assoc]⟩
theorem Toks.name {w : List UInt8} (h : uAO w=true) : Toks false w [nmT w]:=fun r k out hr=>⟨0,[(nmT w).onl k],rfl,uNx h (hr.resolve_left (by simp)) k out⟩
theorem Toks.sym {c : UInt8} (h : symB c=true) : Toks true [c] [syT c]:=fun r k out _=>⟨0,[(syT c).onl k],rfl,uN7 h r k out⟩
theorem Toks.sp : Toks true [32] []:=fun r k out _=>⟨0,[],rfl,by rw [List.append_nil]; exact uDk (.inl rfl) r k out⟩
theorem Toks.nl : Toks true [10] []:=fun r k out _=>⟨1,[],rfl,by rw [List.append_nil]; exact uNE rfl r k out⟩
theorem Toks.join {α : Type} {f : α→List UInt8} {g : α→List Tk} : ∀ {l : List α},(∀ x ∈ l,Toks false (f x) (g x))→Toks false (Lib.join (l.map f) [44,32]) (uNQ (l.map g))
 | [],_=>Toks.nil.weak
 | x :: l,h=>by
  have tail : ∀ {l : List α},(∀ x ∈ l,Toks false (f x) (g x))→Toks false (Lib.joinTail [44,32] (l.map f)) ((l.map g).map fun y=>syT 44 :: y).flatten∧(l=[]∨Fr (Lib.joinTail [44,32] (l.map f))):=by
   intro l
   induction l with
   | nil=>exact fun _=>⟨Toks.nil.weak, .inl rfl⟩
   | cons y l ih =>
    intro h
    have e : Lib.joinTail [44,32] ((y :: l).map f)=([44]++[32])++(f y++Lib.joinTail [44,32] (l.map f)):=by simp [Lib.joinTail]
    have e2 : (((y :: l).map g).map fun y=>syT 44 :: y).flatten=([syT 44]++[])++(g y++((l.map g).map fun y=>syT 44 :: y).flatten):=by simp
    obtain ⟨i1,i2⟩:=ih fun z hz=>h z (by simp [hz])
    rw [e,e2]
    refine ⟨((Toks.sym (by decide)).app Toks.sp (.inl rfl)).app ?_ (.inl rfl), .inr ⟨by simp,by simp; decide⟩⟩
    rcases i2 with q | q
    ·subst q
     simp only [List.map_nil,List.flatten_nil,List.append_nil,Lib.joinTail,List.flatMap_nil]
     exact h y (by simp)
    ·exact (h y (by simp)).app i1 (.inr q)
  rw [List.map_cons,List.map_cons,Lib.join_cons]
  obtain ⟨i1,i2⟩:=tail (l:=l) fun z hz=>h z (by simp [hz])
  show Toks false _ (g x++_)
  rcases i2 with q | q
  ·subst q
   simp only [List.map_nil,List.flatten_nil,List.append_nil,Lib.joinTail,List.flatMap_nil]
   exact h x (by simp)
  ·exact (h x (by simp)).app i1 (.inr q)
mutual
def gdB : T→Bool
 | .mk k n s ks=>decide (s=0) && uAO n && ((decide (k=2) && ks.isEmpty) || decide (k=3)) && gdBs ks
def gdBs : List T→Bool
 | []=>true
 | t :: ts=>gdB t && gdBs ts
end
end Go.Proofs.YtnjjdbapadkomaaGreatDoor
namespace Go.Proofs.YtnjjdbapadkomaaGreatDoor
open Go Go.Abs
def At (l : List Tk) (p : PS) (ts : List Tk) : Prop:=p.bad=false∧p.at'≤l.length∧l.drop p.at'=ts
theorem At.cons {l : List Tk} {p : PS} {t : Tk} {ts : List Tk} (h : At l p (t :: ts)) : p.at' < l.length∧l.getD p.at' tk0=t∧At l p.go ts:=by
 obtain ⟨h1,h2,h3⟩:=h
 have hlt : p.at' < l.length:=by
  rcases Nat.lt_or_ge p.at' l.length with q | q
  ·exact q
  ·rw [List.drop_of_length_le q] at h3; cases h3
 rw [uJQ (d:=tk0) hlt] at h3
 simp only [List.cons.injEq] at h3
 exact ⟨hlt,h3.1,h1,hlt,h3.2⟩
theorem At.len {l : List Tk} {p : PS} {ts : List Tk} (h : At l p ts) : ts.length + p.at'=l.length:=by
 obtain ⟨h1,h2,h3⟩:=h
 rw [← h3,List.length_drop]; omega
theorem At.good {l : List Tk} {p : PS} {ts : List Tk} (h : At l p ts) : p.bad=false:=h.1
def Pln (ts : List Tk) : Prop:=∀ t ∈ ts,t.int=0∧t.str=[]∧t.line=0
theorem Pln.nil : Pln []:=by intro t h; simp at h
theorem Pln.app {a b : List Tk} (h : Pln a) (h' : Pln b) : Pln (a++b):=fun t ht=>(List.mem_append.1 ht).elim (h t) (h' t)
theorem Pln.nm (w : List UInt8) : Pln [nmT w]:=by intro t h; simp at h; subst h; exact ⟨rfl,rfl,rfl⟩
theorem Pln.cons {t : Tk} {ts : List Tk} (h : Pln [t]) (h' : Pln ts) : Pln (t :: ts):=h.app (a:=[t]) h'
theorem Pln.right {a b : List Tk} (h : Pln (a++b)) : Pln b:=fun t ht=>h t (by simp [ht])
theorem Pln.tail {a : Tk} {b : List Tk} (h : Pln (a :: b)) : Pln b:=fun t ht=>h t (by simp [ht])
end Go.Proofs.YtnjjdbapadkomaaGreatDoor
namespace Go.Proofs.YtnjjdbapadkomaaGreatDoor
open Go Go.Abs
def Sp.el (s : Sp) : Sp:={ s with line:=0 }
def Gl.el (g : Gl) : Gl:={ g with line:=0 }
def Nar.el (n : Nar) : Nar:={ n with steps:=n.steps.map Sp.el,goals:=n.goals.map Gl.el }
inductive Itm where
 | roles (l : List (List UInt8))
 | fresh (role : List UInt8) (l : List (List UInt8 × Int))
 | tags (l : List (List UInt8))
 | step (s : Sp)
 | goal (g : Gl)
def uHm (k : Int) : List UInt8:=sortW.getD (k - 2).toNat []
def uGg (k : Int) : List UInt8:=kindW.getD (k - 1).toNat []
def fsW (f : List UInt8 × Int) : List UInt8:=f.1++([32]++uHm f.2)
def Itm.text : Itm→List UInt8
 | .roles l=>hRole++(Lib.join l [44,32]++[59])
 | .fresh r l=>hFresh++(r++([58,32]++(Lib.join (l.map fsW) [44,32]++[59])))
 | .tags l=>hTag++(Lib.join l [44,32]++[59])
 | .step s=>hMsg++(s.frm++(arrow++(s.dst++([58,32]++(uCb s.msg++[59])))))
 | .goal g=>hGoal++(uGg g.kind++([32]++(g.role++((if uBA g.kind=true then [32]++g.wth else [])++([58,32]++(uCv g.data++[59]))))))
def Itm.ok : Itm→Prop
 | .roles l=>l≠[] ∧ ∀ w ∈ l,uAO w=true
 | .fresh r l=>uAO r=true∧l≠[] ∧ ∀ f ∈ l,uAO f.1=true∧2≤f.2∧f.2≤4
 | .tags l=>l≠[] ∧ ∀ w ∈ l,uAO w=true
 | .step s=>uAO s.frm=true∧uAO s.dst=true∧gdB s.msg=true
 | .goal g=>1≤g.kind∧g.kind≤5∧uAO g.role=true∧(uBA g.kind=true→uAO g.wth=true)∧(uBA g.kind=false→g.wth=[])∧g.data≠[] ∧ ∀ t ∈ g.data,gdB t=true
end Go.Proofs.YtnjjdbapadkomaaGreatDoor
namespace Go.Proofs.YtnjjdbapadkomaaGreatDoor
open Go Go.Abs
def Itm.more (f : List UInt8 × Int) : Itm→Itm
 | .fresh r l=>.fresh r (l++[f])
 | i=>i
def glue (f : List UInt8 × Int) : List Itm→List Itm
 | []=>[]
 | [i]=>[i.more f]
 | i :: j :: r=>i :: glue f (j :: r)
theorem uFg (f : List UInt8 × Int) (r : List UInt8) (l : List (List UInt8 × Int)) : ∀ I : List Itm,glue f (I++[.fresh r l])=I++[.fresh r (l++[f])]
 | []=>rfl
 | [i]=>rfl
 | i :: j :: I=>by
  have ih:=uFg f r l (j :: I)
  rw [List.cons_append,List.cons_append] at ih
  rw [List.cons_append,List.cons_append,glue,ih]
  rfl
def uDT (fs : List Fs) (k : Nat) : Prop:=0 < k∧(fs.getD (k - 1) default).role=(fs.getD k default).role
instance (fs : List Fs) (k : Nat) : Decidable (uDT fs k):=by unfold uDT; infer_instance
def Fs.pr (f : Fs) : List UInt8 × Int:=(f.name,f.sort)
def frI (fs : List Fs) : Nat→List Itm
 | 0=>[]
 | k + 1=>if uDT fs k then glue (fs.getD k default).pr (frI fs k) else frI fs k++[.fresh (fs.getD k default).role [(fs.getD k default).pr]]
theorem uJE (fs : List Fs) : ∀ k,0 < k → ∃ I l,l≠[]∧frI fs k=I++[.fresh (fs.getD (k - 1) default).role l]
 | 0,h=>by omega
 | k + 1,_=>by
  rw [frI,Nat.add_sub_cancel]
  split
  ·rename_i hs
   obtain ⟨I,l,h1,h2⟩:=uJE fs k hs.1
   rw [h2,uFg,hs.2]
   exact ⟨I,_,by simp,rfl⟩
  ·exact ⟨_,_,by simp,rfl⟩
theorem uGL {fs : List Fs} {k : Nat} (hs : uDT fs k) : ∃ I l,l≠[]∧frI fs k=I++[.fresh (fs.getD k default).role l]∧frI fs (k + 1)=I++[.fresh (fs.getD k default).role (l++[(fs.getD k default).pr])]:=by
 obtain ⟨I,l,h1,h2⟩:=uJE fs k hs.1
 rw [hs.2] at h2
 exact ⟨I,l,h1,h2,by rw [frI,if_pos hs,h2,uFg]⟩
theorem uIv {fs : List Fs} {k : Nat} (hs : ¬uDT fs k) : frI fs (k + 1)=frI fs k++[.fresh (fs.getD k default).role [(fs.getD k default).pr]]:=by rw [frI,if_neg hs]
theorem uE8 (fs : List Fs) : ∀ k,(frI fs k).length≤k
 | 0=>by simp [frI]
 | k + 1=>by
  have ih:=uE8 fs k
  by_cases hs : uDT fs k
  ·obtain ⟨I,l,_,h2,h3⟩:=uGL hs
   rw [h2] at ih
   rw [h3]
   simp only [List.length_append,List.length_singleton] at ih ⊢; omega
  ·rw [uIv hs]
   simp only [List.length_append,List.length_singleton]; omega
theorem uLp (sep x : List UInt8) : ∀ l : List (List UInt8),l≠[]→Lib.join (l++[x]) sep=Lib.join l sep++(sep++x)
 | [],h=>absurd rfl h
 | y :: l,_=>by
  rw [List.cons_append,Lib.join_cons,Lib.join_cons]
  have : ∀ l : List (List UInt8),Lib.joinTail sep (l++[x])=Lib.joinTail sep l++(sep++x):=by
   intro l
   simp [Lib.joinTail]
  rw [this,List.append_assoc]
theorem uIN (sep x : List UInt8) : Lib.join [x] sep=x:=by rw [Lib.join_cons]; simp [Lib.joinTail]
theorem uLD {r : List UInt8} {l : List (List UInt8 × Int)} (f : List UInt8 × Int) (h : l≠[]) : (Itm.fresh r (l++[f])).text=(Itm.fresh r l).text.dropLast++([44,32]++(fsW f++[59])):=by
 have e : (Itm.fresh r l).text=(hFresh++(r++([58,32]++Lib.join (l.map fsW) [44,32])))++[59]:=by simp [Itm.text]
 rw [e,List.dropLast_concat]
 simp only [Itm.text,List.map_append,List.map_cons,List.map_nil]
 rw [uLp _ _ _ (by simpa using h)]
 simp
theorem uLk (r : List UInt8) (l : List (List UInt8 × Int)) : ∃ s,(Itm.fresh r l).text=s++[59]:=⟨hFresh++(r++([58,32]++Lib.join (l.map fsW) [44,32])),by simp [Itm.text]⟩
def Nar.itms (n : Nar) : List Itm:=[.roles n.roles]++(frI n.fresh n.fresh.length++((if n.tags=[] then [] else [.tags n.tags])++(n.steps.map .step++n.goals.map .goal)))
def uGe (n : Nar) : List UInt8:=hProt++(n.name++[32,123])
def Nar.lines (n : Nar) : List (List UInt8):=[uGe n]++(n.itms.map Itm.text++[[125]])
def nl (L : List (List UInt8)) : List UInt8:=(L.map fun s=>s++[10]).flatten
theorem uN6 (a b : List (List UInt8)) : nl (a++b)=nl a++nl b:=by simp [nl]
theorem uKI : ∀ L : List (List UInt8),L≠[]→Lib.join L [10]++[10]=nl L
 | [],h=>absurd rfl h
 | [x],_=>by rw [uIN]; simp [nl]
 | x :: y :: L,_=>by
  have ih:=uKI (y :: L) (by simp)
  have e : Lib.join (x :: y :: L) [10]=x++([10]++Lib.join (y :: L) [10]):=by
   rw [Lib.join_cons,Lib.join_cons]; simp [Lib.joinTail]
  have e2 : nl (x :: y :: L)=x++([10]++nl (y :: L)):=by simp [nl]
  rw [e,e2,← ih]; simp
def Nar.text (n : Nar) : List UInt8:=Lib.join n.lines [10]++[10]
theorem Nar.text_eq (n : Nar) : n.text=nl n.lines:=uKI _ (by simp [Nar.lines])
structure MsgOk (t : T) : Prop where
 raw : uDN uAO t=0
 size : t.size≤40
structure GlOk (g : Gl) : Prop where
 k1 : 1≤g.kind
 k2 : g.kind≤5
 role : uAO g.role=true
 w1 : uBA g.kind=true→uAO g.wth=true
 w0 : uBA g.kind=false→g.wth=[]
 d1 : 1≤g.data.length
 d2 : g.data.length≤4
 data : ∀ t ∈ g.data,MsgOk t
structure NarOk (n : Nar) : Prop where
 name : uAO n.name=true
 r1 : 2≤n.roles.length
 r2 : n.roles.length≤4
 roles : ∀ w ∈ n.roles,uAO w=true
 f2 : n.fresh.length≤12
 fresh : ∀ f ∈ n.fresh,uAO f.role=true∧uAO f.name=true∧2≤f.sort∧f.sort≤4
 t2 : n.tags.length≤8
 tags : ∀ w ∈ n.tags,uAO w=true
 s1 : 1≤n.steps.length
 s2 : n.steps.length≤8
 steps : ∀ s ∈ n.steps,uAO s.frm=true∧uAO s.dst=true∧MsgOk s.msg
 g2 : n.goals.length≤8
 goals : ∀ g ∈ n.goals,GlOk g
theorem uMj {t : T} (h : msgE uAO t=0) : MsgOk t:=by
 unfold msgE at h
 split at h
 ·rename_i hz; exact absurd h hz
 ·rename_i hz
  split at h
  ·simp at h
  ·exact ⟨Decidable.not_not.1 hz,by omega⟩
theorem uNk {g : Gl} (h : uCL uAO g=0) : GlOk g:=by
 unfold uCL at h
 split at h
 ·simp at h
 rename_i h1
 split at h
 ·simp at h
 rename_i h2
 split at h
 ·simp at h
 rename_i h3
 split at h
 ·simp at h
 rename_i h4
 have h5:=errs_zero.1 h
 refine ⟨by omega,by omega,?_,fun ha=>?_,fun ha=>?_,?_,?_,fun t ht=>uMj (h5 t ht)⟩
 ·cases hz : uAO g.role with
  | true=>rfl
  | false=>exact absurd (.inl hz) h2
 ·cases hz : uAO g.wth with
  | true=>rfl
  | false=>exact absurd (.inr ⟨ha,hz⟩) h2
 ·exact Decidable.byContradiction fun q=>h3 ⟨ha,q⟩
 ·cases ha : uBA g.kind with
  | true=>exact Decidable.byContradiction fun q=>h4 (.inl ⟨ha,by omega⟩)
  | false=>exact Decidable.byContradiction fun q=>h4 (.inr ⟨ha,by omega⟩)
 ·cases ha : uBA g.kind with
  | true=>exact Decidable.byContradiction fun q=>h4 (.inl ⟨ha,by omega⟩)
  | false=>exact Decidable.byContradiction fun q=>h4 (.inr ⟨ha,by omega⟩)
theorem uNK {n : Nar} (h : cntE n=0) : 2≤n.roles.length∧n.roles.length≤4∧n.fresh.length≤12∧n.tags.length≤8∧1≤n.steps.length∧n.steps.length≤8∧n.goals.length≤8:=by
 unfold cntE at h
 repeat' split at h
 all_goals first
  | (simp at h; done)
  | omega
theorem uMO {n : Nar} (h : narE uAO n=0) : NarOk n:=by
 unfold narE at h
 split at h
 ·rename_i hz; exact absurd h hz
 rename_i h1
 split at h
 ·rename_i hz; exact absurd h hz
 rename_i h2
 have h1:=Decidable.not_not.1 h1
 have h2:=errs_zero.1 (Decidable.not_not.1 h2)
 have h3:=errs_zero.1 h
 unfold uEq at h1
 split at h1
 ·simp at h1
 rename_i a1
 split at h1
 ·rename_i hz; exact absurd h1 hz
 rename_i a2
 split at h1
 ·simp at h1
 rename_i a3
 split at h1
 ·rename_i hz; exact absurd h1 hz
 rename_i a4
 split at h1
 ·simp at h1
 rename_i a5
 obtain ⟨c1,c2,c3,c4,c5,c6,c7⟩:=uNK (Decidable.not_not.1 a2)
 have a4:=errs_zero.1 (Decidable.not_not.1 a4)
 refine ⟨by simpa using a1,c1,c2,fun w hw=>List.all_eq_true.1 (by simpa using a3) w hw,c3,fun f hf=>?_,c4,fun w hw=>List.all_eq_true.1 (by simpa using a5) w hw,c5,c6,fun s hs=>?_,c7,fun g hg=>uNk (h3 g hg)⟩
 ·have := a4 f hf
  unfold frE at this
  split at this
  ·simp at this
  rename_i q
  split at this
  ·simp at this
  ·refine ⟨?_,?_,by omega,by omega⟩
   ·cases hz : uAO f.role with
    | true=>rfl
    | false=>exact absurd (.inl hz) q
   ·cases hz : uAO f.name with
    | true=>rfl
    | false=>exact absurd (.inr hz) q
 ·have := h2 s hs
  unfold spE at this
  split at this
  ·simp at this
  rename_i q
  refine ⟨?_,?_,uMj this⟩
  ·cases hz : uAO s.frm with
   | true=>rfl
   | false=>exact absurd (.inl hz) q
  ·cases hz : uAO s.dst with
   | true=>rfl
   | false=>exact absurd (.inr hz) q
theorem uCm {w : List UInt8} (h : uAO w=true) : w.length≤24:=(uGE h).2.2.2
theorem MsgOk.ok {t : T} (h : MsgOk t) : okB t=true:=(uMZ h.raw).1
theorem MsgOk.len {t : T} (h : MsgOk t) : (uCb t).length≤1120 := by have := uIk h.ok; have := h.size; omega
theorem uJM : ∀ {l : List T} {M : Nat},(∀ t ∈ l,t.size≤M)→T.sizes l≤M * l.length
 | [],M,_=>by simp [T.sizes]
 | t :: l,M,h=>by
  have h1:=h t (by simp)
  have h2:=uJM (M:=M) fun x hx=>h x (List.mem_cons_of_mem t hx)
  rw [T.sizes,List.length_cons,Nat.mul_succ]; omega
theorem GlOk.sizes {g : Gl} (h : GlOk g) : T.sizes g.data≤160:=by
 have := uJM (M := 40) fun t ht=>(h.data t ht).size
 have := h.d2; omega
theorem GlOk.oks {g : Gl} (h : GlOk g) : ∀ t ∈ g.data,okB t=true:=fun t ht=>(h.data t ht).ok
theorem GlOk.len {g : Gl} (h : GlOk g) : (uCv g.data).length≤4480 := by have := uJo h.oks; have := h.sizes; omega
theorem GlOk.wth {g : Gl} (h : GlOk g) : g.wth.length≤24:=by
 cases ha : uBA g.kind with
 | true=>exact uCm (h.w1 ha)
 | false=>rw [h.w0 ha]; simp
theorem uH8 (fs : List Fs) : ∀ k,k≤fs.length → ∀ i ∈ frI fs k,∃ r l,i = .fresh r l∧l≠[]∧l.length≤k ∧ ∀ p ∈ l,∃ f ∈ fs,p=f.pr∧f.role=r
 | 0,_,i,h=>by simp [frI] at h
 | k + 1,hk,i,h=>by
  have ih:=uH8 fs k (by omega)
  have hm : fs.getD k default ∈ fs:=by
   rw [List.getD_eq_getElem?_getD,List.getElem?_eq_getElem (by omega)]; exact List.getElem_mem _
  by_cases hs : uDT fs k
  ·obtain ⟨I,l,_,h2,h3⟩:=uGL hs
   rw [h3] at h
   rw [h2] at ih
   rcases List.mem_append.1 h with q | q
   ·obtain ⟨r,l',e1,e2,e3,e4⟩:=ih i (by simp [q])
    exact ⟨r,l',e1,e2,by omega,e4⟩
   ·obtain ⟨r,l',e1,e2,e3,e4⟩:=ih _ (List.mem_append.2 (.inr (List.mem_singleton.2 rfl)))
    simp only [Itm.fresh.injEq] at e1
    obtain ⟨rfl,rfl⟩:=e1
    refine ⟨_,_,List.mem_singleton.1 q,by simp,by simp only [List.length_append,List.length_singleton]; omega,fun p hp=>?_⟩
    rcases List.mem_append.1 hp with z | z
    ·exact e4 p z
    ·exact ⟨_,hm,List.mem_singleton.1 z,rfl⟩
  ·rw [uIv hs] at h
   rcases List.mem_append.1 h with q | q
   ·obtain ⟨r,l',e1,e2,e3,e4⟩:=ih i q
    exact ⟨r,l',e1,e2,by omega,e4⟩
   ·refine ⟨_,_,List.mem_singleton.1 q,by simp,by simp,fun p hp=>⟨_,hm,List.mem_singleton.1 hp,rfl⟩⟩
def FsOk (fs : List Fs) : Prop:=∀ f ∈ fs,uAO f.role=true∧uAO f.name=true∧2≤f.sort∧f.sort≤4
theorem uNO {fs : List Fs} (h : FsOk fs) {k : Nat} (hk : k≤fs.length) : ∀ i ∈ frI fs k,i.ok:=by
 intro i hi
 obtain ⟨r,l,rfl,h2,h3,h4⟩:=uH8 fs k hk i hi
 refine ⟨?_,h2,fun p hp=>?_⟩
 ·obtain ⟨p,q,rfl⟩ : ∃ p q,l=p :: q:=by
   cases l with
   | nil=>exact absurd rfl h2
   | cons p q=>exact ⟨p,q,rfl⟩
  obtain ⟨f,hf,_,e⟩:=h4 p (by simp)
  rw [← e]; exact (h f hf).1
 ·obtain ⟨f,hf,e,_⟩:=h4 p hp
  subst e
  exact ⟨(h f hf).2.1,(h f hf).2.2.1,(h f hf).2.2.2⟩
theorem uMX {L : List (List UInt8)} {M : Nat} (h : ∀ x ∈ L,x.length≤M) : uD3 L≤(M + 2) * L.length:=by
 induction L with
 | nil=>simp [uD3]
 | cons x L ih =>
  have h1:=h x (by simp)
  have h2:=ih fun y hy=>h y (by simp [hy])
  simp only [uD3,List.map_cons,List.sum_cons,List.length_cons,Nat.mul_succ] at h2 ⊢
  omega
theorem uKQ {L : List (List UInt8)} {M : Nat} (h : ∀ x ∈ L,x.length≤M) : (Lib.join L [44,32]).length≤(M + 2) * L.length:=Nat.le_trans (uEl L).1 (uMX h)
theorem uLt (k : Int) : (uHm k).length≤5:=by
 unfold uHm
 have : ∀ j : Nat,(sortW.getD j []).length≤5:=by
  intro j
  match j with
  | 0=>decide
  | 1=>decide
  | 2=>decide
  | j + 3=>simp [sortW,List.getD_eq_getElem?_getD]
 exact this _
theorem uJn {fs : List Fs} (h : FsOk fs) {k : Nat} (hk : k≤fs.length) (h12 : fs.length≤12) : ∀ i ∈ frI fs k,i.text.length≤500:=by
 intro i hi
 have ho:=uNO h hk i hi
 obtain ⟨r,l,rfl,h2,h3,h4⟩:=uH8 fs k hk i hi
 obtain ⟨o1,o2,o3⟩:=ho
 have h5:=uCm o1
 have h6 : (Lib.join (l.map fsW) [44,32]).length≤(30 + 2) * l.length:=by
  have := uKQ (L := l.map fsW) (M := 30) fun x hx=>by
   obtain ⟨p,hp,rfl⟩:=List.mem_map.1 hx
   have := uCm (o3 p hp).1
   have := uLt p.2
   simp only [fsW,List.length_append,List.length_cons,List.length_nil]; omega
  rwa [List.length_map] at this
 have : hFresh.length=8:=rfl
 simp only [Itm.text,List.length_append,List.length_cons,List.length_nil]
 omega
theorem uDE {l : List (List UInt8)} (h : ∀ w ∈ l,uAO w=true) : (Lib.join l [44,32]).length≤26 * l.length:=uKQ fun x hx=>uCm (h x hx)
theorem uLx {s : Sp} (h1 : uAO s.frm=true) (h2 : uAO s.dst=true) (h3 : MsgOk s.msg) : (Itm.step s).text.length≤1300:=by
 have a:=uCm h1
 have b:=uCm h2
 have c:=h3.len
 have : hMsg.length=10:=rfl
 have : arrow.length=4:=rfl
 simp only [Itm.text,List.length_append,List.length_cons,List.length_nil]; omega
theorem uLK (k : Int) : (uGg k).length≤7:=by
 unfold uGg
 have : ∀ j : Nat,(kindW.getD j []).length≤7:=by
  intro j
  match j with
  | 0=>decide
  | 1=>decide
  | 2=>decide
  | 3=>decide
  | 4=>decide
  | j + 5=>simp [kindW,List.getD_eq_getElem?_getD]
 exact this _
theorem uGP (g : Gl) : (Itm.goal g).text=hGoal++(uG6 g++[59]):=by
 simp only [Itm.text,uG6,uGg]
 split <;> simp
theorem uFy {g : Gl} (h : GlOk g) : (Itm.goal g).text.length≤4600:=by
 have a:=uCm h.role
 have b:=h.wth
 have c:=h.len
 have d:=uLK g.kind
 have : hGoal.length=7:=rfl
 simp only [Itm.text,List.length_append,List.length_cons,List.length_nil]
 split <;> (simp only [List.length_append,List.length_cons,List.length_nil]; omega)
theorem NarOk.itm_len {n : Nar} (h : NarOk n) : n.itms.length≤30:=by
 have := uE8 n.fresh n.fresh.length
 have := h.f2
 have := h.s2
 have := h.g2
 unfold Nar.itms
 split <;> (simp only [List.length_append,List.length_map,List.length_singleton,List.length_nil]; omega)
theorem NarOk.lines_len {n : Nar} (h : NarOk n) : n.lines.length≤32:=by
 have := h.itm_len
 simp only [Nar.lines,List.length_append,List.length_map,List.length_singleton]; omega
theorem uN4 (L : List (List UInt8)) {M : Nat} (h : ∀ x ∈ L,x.length≤M) : (nl L).length≤(M + 1) * L.length:=by
 induction L with
 | nil=>simp [nl]
 | cons x L ih =>
  have h1:=h x (by simp)
  have h2:=ih fun y hy=>h y (by simp [hy])
  have e : nl (x :: L)=x++([10]++nl L):=by simp [nl]
  rw [e]
  simp only [List.length_append,List.length_cons,List.length_nil,Nat.mul_succ]
  omega
theorem uKv {α : Type} (f : α→List UInt8) (l : List α) {M : Nat} (h : ∀ x ∈ l,(f x).length≤M) : (nl (l.map f)).length≤(M + 1) * l.length:=by
 have := uN4 (l.map f) (M := M) fun x hx=>by
  obtain ⟨y,hy,rfl⟩:=List.mem_map.1 hx; exact h y hy
 rwa [List.length_map] at this
theorem NarOk.text_len {n : Nar} (h : NarOk n) : n.text.length≤60000:=by
 rw [n.text_eq]
 have e : n.lines=[uGe n]++([(Itm.roles n.roles).text]++((frI n.fresh n.fresh.length).map Itm.text++((if n.tags=[] then [] else [.tags n.tags]).map Itm.text++(n.steps.map (fun s=>(Itm.step s).text)++(n.goals.map (fun g=>(Itm.goal g).text)++[[125]]))))):=by
  unfold Nar.lines Nar.itms
  simp [List.map_map,Function.comp_def]
 rw [e]
 simp only [uN6,List.length_append]
 have h1 : (nl [uGe n]).length≤60:=by
  have := uCm h.name
  have : hProt.length=9:=rfl
  simp only [nl,uGe,List.map_cons,List.map_nil,List.flatten_cons,List.flatten_nil,List.length_append,List.length_cons,List.length_nil]; omega
 have h2 : (nl [(Itm.roles n.roles).text]).length≤200:=by
  have := uDE h.roles
  have := h.r2
  have : hRole.length=7:=rfl
  simp only [nl,Itm.text,List.map_cons,List.map_nil,List.flatten_cons,List.flatten_nil,List.length_append,List.length_cons,List.length_nil]; omega
 have h3:=uKv Itm.text (frI n.fresh n.fresh.length) (uJn h.fresh (Nat.le_refl _) h.f2)
 have h3':=uE8 n.fresh n.fresh.length
 have h4 : (nl ((if n.tags=[] then [] else [.tags n.tags]).map Itm.text)).length≤300:=by
  split
  ·simp [nl]
  ·have := uDE h.tags
   have := h.t2
   have : hTag.length=6:=rfl
   simp only [nl,Itm.text,List.map_cons,List.map_nil,List.flatten_cons,List.flatten_nil,List.length_append,List.length_cons,List.length_nil]; omega
 have h5:=uKv (fun s=>(Itm.step s).text) n.steps (M:=1300) fun s hs=>by
  obtain ⟨s1,s2,s3⟩:=h.steps s hs
  exact uLx s1 s2 s3
 have h6:=uKv (fun g=>(Itm.goal g).text) n.goals (M:=4600) fun g hg=>uFy (h.goals g hg)
 have h7 : (nl [[125]]).length=2:=rfl
 have := h.f2
 have := h.s2
 have := h.g2
 omega
end Go.Proofs.YtnjjdbapadkomaaGreatDoor
namespace Go.Proofs.YtnjjdbapadkomaaGreatDoor
open Go Go.Abs
def SmT (l l' : List Tk) : Prop:=l.length=l'.length ∧ ∀ k,(l.getD k tk0).kind=(l'.getD k tk0).kind∧(l.getD k tk0).text=(l'.getD k tk0).text
theorem uK2 (l : List Tk) (k : Nat) : (l.getD k tk0).nl false=(l.map (·.nl false)).getD k tk0:=by
 rw [List.getD_eq_getElem?_getD,List.getD_eq_getElem?_getD,List.getElem?_map]
 cases l[k]? <;> rfl
theorem SmT.of_nl {l l' : List Tk} (h : l.map (·.nl false)=l'.map (·.nl false)) : SmT l l':=by
 refine ⟨by have := congrArg List.length h; simpa using this,fun k=>?_⟩
 have e : (l.getD k tk0).nl false=(l'.getD k tk0).nl false:=by rw [uK2,uK2,h]
 have e1 : ((l.getD k tk0).nl false).kind=((l'.getD k tk0).nl false).kind:=by rw [e]
 have e2 : ((l.getD k tk0).nl false).text=((l'.getD k tk0).nl false).text:=by rw [e]
 exact ⟨e1,e2⟩
theorem uE4 {l l' : List Tk} (h : SmT l l') : symQ l=symQ l':=by
 funext p c
 unfold symQ
 rw [h.1,(h.2 _).1,(h.2 _).2]
theorem uM5 {l l' : List Tk} (h : SmT l l') : namQ l=namQ l':=by
 funext p ws
 unfold namQ
 rw [h.1,(h.2 _).1,(h.2 _).2]
theorem uDn {l l' : List Tk} (h : SmT l l') : uA4 l=uA4 l':=by
 funext c p
 unfold uA4
 rw [uE4 h]
theorem uCN {l l' : List Tk} (h : SmT l l') : uAw l=uAw l':=by
 funext ws p
 unfold uAw
 rw [uM5 h,(h.2 _).2]
theorem uI2 {α : Type} {l l' : List Tk} (h : SmT l l') (f : PS→α × PS) : ∀ (n : Nat) (p : PS) (out : List α),uBK l f n p out=uBK l' f n p out
 | 0,p,out=>rfl
 | n + 1,p,out=>by
  rw [uBK,uBK,uE4 h,uI2 h f n]
theorem uGV {α : Type} {l l' : List Tk} (h : SmT l l') (f : PS→α × PS) : uBj l f=uBj l' f:=by
 funext p
 unfold uBj
 rw [h.1,uI2 h]
theorem uGn {l l' : List Tk} (h : SmT l l') : ∀ n : Nat,uAQ l n=uAQ l' n
 | 0=>by funext p; rfl
 | n + 1=>by
  funext p
  rw [uAQ,uAQ,uE4 h,uCN h,uDn h,uGn h n,uGV h]
theorem uHV {l l' : List Tk} (h : SmT l l') (role : List UInt8) : ∀ (n : Nat) (p : PS) (out : List Fs),uBN l role n p out=uBN l' role n p out
 | 0,p,out=>rfl
 | n + 1,p,out=>by
  rw [uBN,uBN,uE4 h,uCN h]
  split
  ·rfl
  ·split
   ·exact uHV h role n _ _
   ·rfl
theorem uLN {l l' : List Tk} (h : SmT l l') : uBM l=uBM l':=by
 funext p out
 unfold uBM
 rw [uCN h,uDn h,h.1,uHV h]
theorem uMw {l l' : List Tk} (h : SmT l l') (k k' : Int) (p : PS) : (uCl l k p).1.el=(uCl l' k' p).1.el∧(uCl l k p).2=(uCl l' k' p).2:=by
 unfold uCl
 dsimp only
 rw [uCN h,uDn h,h.1,uGn h]
 exact ⟨rfl,rfl⟩
theorem uMq {l l' : List Tk} (h : SmT l l') (k k' : Int) (p : PS) : (uB0 l k p).1.el=(uB0 l' k' p).1.el∧(uB0 l k p).2=(uB0 l' k' p).2:=by
 unfold uB0
 dsimp only
 rw [uCN h,uDn h,h.1,uGn h,uGV h]
 exact ⟨rfl,rfl⟩
theorem el_inj {n n' : Nar} : n.el=n'.el ↔ n.name=n'.name∧n.roles=n'.roles∧n.fresh=n'.fresh∧n.tags=n'.tags∧n.steps.map Sp.el=n'.steps.map Sp.el∧n.goals.map Gl.el=n'.goals.map Gl.el:=by
 cases n; cases n'
 simp [Nar.el]
theorem uL9 {l l' : List Tk} (h : SmT l l') {n n' : Nar} (hn : n.el=n'.el) (k k' : Int) (w : List UInt8) (q : PS) : (uBH l n k w q).1.el=(uBH l' n' k' w q).1.el∧(uBH l n k w q).2=(uBH l' n' k' w q).2:=by
 obtain ⟨h1,h2,h3,h4,h5,h6⟩:=el_inj.1 hn
 have s1:=uMw h k k' q
 have s2:=uMq h k k' q
 unfold uBH uBI
 rw [uCN h,uGV h,uLN h,h3]
 split
 ·exact ⟨el_inj.2 ⟨h1,by dsimp only; rw [h2],rfl,h4,h5,h6⟩,rfl⟩
 split
 ·exact ⟨el_inj.2 ⟨h1,h2,rfl,h4,h5,h6⟩,rfl⟩
 split
 ·exact ⟨el_inj.2 ⟨h1,h2,rfl,by dsimp only; rw [h4],h5,h6⟩,rfl⟩
 split
 ·exact ⟨el_inj.2 ⟨h1,h2,rfl,h4,by dsimp only; rw [List.map_append,List.map_append,h5,List.map_cons,List.map_cons,s1.1],h6⟩,s1.2⟩
 split
 ·exact ⟨el_inj.2 ⟨h1,h2,rfl,h4,h5,by dsimp only; rw [List.map_append,List.map_append,h6,List.map_cons,List.map_cons,s2.1]⟩,s2.2⟩
 ·exact ⟨hn,rfl⟩
theorem itemP_sm' {l l' : List Tk} (h : SmT l l') {n n' : Nar} (hn : n.el=n'.el) (p : PS) : (uBU l n p).1.el=(uBU l' n' p).1.el∧(uBU l n p).2=(uBU l' n' p).2:=by
 unfold uBU
 rw [uCN h,uDn h]
 obtain ⟨e1,e2⟩:=uL9 h hn (uCt l p) (uCt l' p) (uAw l' uBS p).1 (uAw l' uBS p).2
 exact ⟨e1,by dsimp only; rw [e2]⟩
theorem uHS {l l' : List Tk} (h : SmT l l') : ∀ (m : Nat) {n n' : Nar} (hn : n.el=n'.el) (p : PS),(uCn l m n p).1.el=(uCn l' m n' p).1.el∧(uCn l m n p).2=(uCn l' m n' p).2
 | 0,n,n',hn,p=>⟨hn,rfl⟩
 | m + 1,n,n',hn,p=>by
  rw [uCn,uCn,uE4 h]
  split
  ·exact ⟨hn,rfl⟩
  split
  ·exact ⟨hn,rfl⟩
  ·obtain ⟨e1,e2⟩:=itemP_sm' h hn p
   rw [e2]
   exact uHS h m e1 _
theorem uJS {l l' : List Tk} (h : SmT l l') : (uCp l).1.el=(uCp l').1.el∧(uCp l).2=(uCp l').2:=by
 unfold uCp
 dsimp only
 rw [uCN h,uDn h,h.1]
 exact uHS h _ rfl _
theorem uNi {l l' : List Tk} (h : SmT l l') (p : PS) : (endE l p).2=(endE l' p).2∧((endE l p).2=0→endE l p=(0,0)):=by
 unfold endE
 rw [h.1]
 split
 ·exact ⟨rfl,fun q=>by simp at q⟩
 ·exact ⟨rfl,fun _=>rfl⟩
theorem uG9 {α β : Type} (f : β→Int) (g : α→β) : ∀ l : List α,errs f (l.map g)=errs (fun x=>f (g x)) l
 | []=>rfl
 | x :: r=>by rw [List.map_cons,errs,errs,uG9 f g r]
theorem uKD (nm : NmB) (n : Nar) : narE nm n.el=narE nm n:=by
 have h1 : uEq nm n.el=uEq nm n:=by
  unfold uEq
  have : cntE n.el=cntE n:=by
   unfold cntE
   have e1 : n.el.steps.length=n.steps.length:=by simp [Nar.el]
   have e2 : n.el.goals.length=n.goals.length:=by simp [Nar.el]
   rw [e1,e2]; rfl
  rw [this]; rfl
 have h2 : errs (spE nm) n.el.steps=errs (spE nm) n.steps:=by
  show errs (spE nm) (n.steps.map Sp.el)=_
  rw [uG9]; rfl
 have h3 : errs (uCL nm) n.el.goals=errs (uCL nm) n.goals:=by
  show errs (uCL nm) (n.goals.map Gl.el)=_
  rw [uG9]; rfl
 unfold narE
 rw [h1,h2,h3]
def errL (l : List Tk) : Int:=if (endE l (uCp l).2).2≠0 then (endE l (uCp l).2).2 else narE uAO (uCp l).1
theorem uNb {l l' : List Tk} (h : SmT l l') : errL l=errL l':=by
 obtain ⟨e1,e2⟩:=uJS h
 unfold errL
 rw [e2,(uNi h _).1,← uKD,e1,uKD]
theorem map_none {α β : Type} (f : Itm→List β) (g : α→Itm) (hf : ∀ x,f (g x)=[]) (l : List α) : (l.map g).flatMap f=[]:=by
 rw [List.flatMap_eq_nil_iff]
 intro i hi
 obtain ⟨x,_,rfl⟩:=List.mem_map.1 hi
 exact hf x
end Go.Proofs.YtnjjdbapadkomaaGreatDoor
namespace Go.Proofs.YtnjjdbapadkomaaGreatDoor
open Go Go.Abs
theorem uFT : ∀ (l : List UInt8),Op.bytesLess l l=false
 | []=>rfl
 | x :: xs=>by
  have := uFT xs
  simp [Op.bytesLess,this]
theorem uJs (a : Int) : uBJ a a=0:=by simp [uBJ]
mutual
theorem T.cmp_self : ∀ a : T,a.cmp a=0
 | .mk k n s ks=>by
  have h0 : T.cmp0 (.mk k n s ks) (.mk k n s ks)=0:=by simp [T.cmp0,uJs,uFT]
  rw [T.cmp,if_neg (by simp [h0])]
  exact T.cmps_self ks
theorem T.cmps_self : ∀ l : List T,T.cmps l l=0
 | []=>rfl
 | x :: xs=>by
  rw [T.cmps,if_neg (by simp [T.cmp_self x])]
  exact T.cmps_self xs
end
theorem uKR {α : Type} {f : α→α} {d : α} {a b : List α} (h : a.map f=b.map f) {k : Nat} (hk : k < a.length) : f (a.getD k d)=f (b.getD k d):=by
 have hl : a.length=b.length:=by simpa using congrArg List.length h
 have := congrArg (fun l=>l[k]?) h
 rw [List.getElem?_map,List.getElem?_map,List.getElem?_eq_getElem hk,List.getElem?_eq_getElem (hl ▸ hk)] at this
 rw [List.getD_eq_getElem?_getD,List.getD_eq_getElem?_getD,List.getElem?_eq_getElem hk,List.getElem?_eq_getElem (hl ▸ hk)]
 simpa using this
theorem uJ1 (a : List T) : uFs a a=true:=by simp [uFs,T.cmps_self]
theorem uML {l : List Gl} (h : ∀ g ∈ l,T.sizes g.data≤900000) {k : Nat} (hk : k < l.length) : T.sizes (l.getD k default).data≤900000:=by
 apply h
 rw [List.getD_eq_getElem?_getD,List.getElem?_eq_getElem hk]; exact List.getElem_mem _
theorem uMs {l : List Sp} (h : ∀ s ∈ l,s.msg.size≤900000) {k : Nat} (hk : k < l.length) : (l.getD k default).msg.size≤900000:=by
 apply h
 rw [List.getD_eq_getElem?_getD,List.getElem?_eq_getElem hk]; exact List.getElem_mem _
theorem uHa (a b : List Gl) (h : a.map Gl.el=b.map Gl.el) (ha : ∀ g ∈ a,T.sizes g.data≤900000) : Ctr sys 65 [.v (.c (.sl 5 (Gl.rows a))), .v (.c (.sl 5 (Gl.rows b)))] [] (xb true) none []:=by
 have la:=Gl.rows_len a
 have lb:=Gl.rows_len b
 have hl : a.length=b.length:=by simpa using congrArg List.length h
 refine uAz Tryz.func65 rfl rfl rfl rfl rfl rfl ?_;refine uAe (uAb ?_);refine uAa rfl rfl rfl (uAd rfl gU) ?_;refine uAf ?_;refine uAe ?_;refine uAe (uAb ?_);refine uAa rfl rfl rfl (uAc rfl gU) ?_;refine uAR rfl rfl rfl rfl rfl gU rfl rfl ?_ (fun hh=>by simp at hh); intro hlen;refine uAa rfl rfl rfl (uAc rfl gU) ?_;refine uAR rfl rfl rfl rfl rfl gU rfl rfl ?_ (fun hh=>by simp at hh); intro hlen;refine uAa rfl rfl rfl (uAk rfl rfl gU gU rfl) ?_;refine uAf ?_;refine uAm (s:=⟨[(0,_,_),(1,_,_),(10,_,_)],[],[],[]⟩) (uAj (⟨sx rfl,sx rfl,sx rfl,trivial⟩) trivial trivial) ?_;refine uAl rfl (fun hc=>?_) (fun hc=>?_)
 ·try simp only [nn,uAi,T.rows_len,Gl.rows_len,Fs.rows_len,Sp.rows_len] at hc
  exact absurd (by omega) hc
 ·try simp only [nn,uAi,T.rows_len,Gl.rows_len,Fs.rows_len,Sp.rows_len] at hc
  refine uAp ?_;refine uAe ?_;refine uAe (uAb ?_);refine uAa rfl rfl rfl (uAd rfl gU) ?_;refine uAf ?_;refine uAs ?_;refine uAZ (ι:=Nat) { t:=[(0,_,_),(1,_,_)],bx:=[],ow:=[] } (fun k=>[(5,true,xi (k : Int))]) (fun k=>[]) (fun k=>k≤a.length) (fun k=>a.length - k) (0) (by simp) (uAj (⟨sx rfl,sx rfl,sx rfl,trivial⟩) trivial trivial) ?_
  intro k hok
  dsimp only [List.cons_append,List.nil_append]
  refine uAe ?_;refine uAe (uAb ?_);refine uAa rfl rfl rfl (uAc rfl gU) ?_;refine uAa rfl rfl rfl (uAc rfl gU) ?_;refine uAR rfl rfl rfl rfl rfl gU rfl rfl ?_ (fun hh=>by simp at hh); intro hlen;refine uAa rfl rfl rfl (uAk rfl rfl gU gU rfl) ?_;refine uAf ?_;refine uAl rfl (fun hc2=>?_) (fun hc2=>?_)
  ·try simp only [nn,uAi,T.rows_len,Gl.rows_len,Fs.rows_len,Sp.rows_len] at hc2
   have hlt : k < a.length:=by omega
   have e:=uKR (d:=default) h hlt
   have e1 : (a.getD k default).kind=(b.getD k default).kind:=(by have q:=congrArg Gl.kind e; exact q)
   have e2 : (a.getD k default).role=(b.getD k default).role:=(by have q:=congrArg Gl.role e; exact q)
   have e3 : (a.getD k default).wth=(b.getD k default).wth:=(by have q:=congrArg Gl.wth e; exact q)
   have e4 : (a.getD k default).data=(b.getD k default).data:=(by have q:=congrArg Gl.data e; exact q)
   have z1:=uML ha hlt
   have z2 : T.sizes (b.getD k default).data≤900000:=by rw [← e4]; exact z1
   refine uAp ?_;refine uAe ?_;refine uAs ?_;refine uAe ?_;refine awp_drawn' (by kernel_rfl) ?_;refine uAg rfl rfl rfl rfl (uAc rfl gU) ?_;refine uAg rfl rfl rfl rfl (uAc rfl gU) ?_;refine uAg rfl rfl rfl rfl (uAu rfl rfl gU gU rfl rfl rfl (fun hh=>Gl.rows_at (by first | omega | (simp at hh ⊢; omega)))) ?_;refine uAg rfl rfl rfl rfl (uAV rfl gU rfl rfl) ?_;refine uAg rfl rfl rfl rfl (uAP rfl gU rfl rfl rfl) ?_;refine uAg rfl rfl rfl rfl (uAc rfl gU) ?_;refine uAg rfl rfl rfl rfl (uAc rfl gU) ?_;refine uAg rfl rfl rfl rfl (uAu rfl rfl gU gU rfl rfl rfl (fun hh=>Gl.rows_at (by first | omega | (simp at hh ⊢; omega)))) ?_;refine uAg rfl rfl rfl rfl (uAV rfl gU rfl rfl) ?_;refine uAg rfl rfl rfl rfl (uAP rfl gU rfl rfl rfl) ?_;refine uAg rfl rfl rfl rfl (uAk rfl rfl gU gU rfl) ?_;refine uAg rfl rfl rfl rfl (uAc rfl gU) ?_;refine uAg rfl rfl rfl rfl (uAc rfl gU) ?_;refine uAg rfl rfl rfl rfl (uAc rfl gU) ?_;refine uAg rfl rfl rfl rfl (uAu rfl rfl (fun hh=>hh) (fun hh=>hh) rfl rfl rfl (fun hh=>Gl.rows_at (by first | omega | (simp at hh ⊢; omega)))) ?_;refine uAg rfl rfl rfl rfl (uAV rfl (fun hh=>hh) rfl rfl) ?_;refine uAg rfl rfl rfl rfl (uAP rfl (fun hh=>hh) rfl rfl rfl) ?_;refine uAg rfl rfl rfl rfl (uAc rfl gU) ?_;refine uAg rfl rfl rfl rfl (uAc rfl gU) ?_
   refine uAg rfl rfl rfl rfl (uAu rfl rfl (fun hh=>hh) (fun hh=>hh) rfl rfl rfl (fun hh=>Gl.rows_at (by first | omega | (simp at hh ⊢; omega)))) ?_;refine uAg rfl rfl rfl rfl (uAV rfl (fun hh=>hh) rfl rfl) ?_;refine uAg rfl rfl rfl rfl (uAP rfl (fun hh=>hh) rfl rfl rfl) ?_;refine uAg rfl rfl rfl rfl (uAW rfl rfl (fun hh=>hh) (fun hh=>hh) rfl) ?_;refine uAg rfl rfl rfl rfl (uAJ rfl rfl gU (fun _ hi=>gP rfl hi)) ?_;refine uAg rfl rfl rfl rfl (uAc rfl gU) ?_;refine uAg rfl rfl rfl rfl (uAc rfl gU) ?_;refine uAg rfl rfl rfl rfl (uAc rfl gU) ?_;refine uAg rfl rfl rfl rfl (uAu rfl rfl (fun hh=>hh) (fun hh=>hh) rfl rfl rfl (fun hh=>Gl.rows_at (by first | omega | (simp at hh ⊢; omega)))) ?_;refine uAg rfl rfl rfl rfl (uAV rfl (fun hh=>hh) rfl rfl) ?_;refine uAg rfl rfl rfl rfl (uAP rfl (fun hh=>hh) rfl rfl rfl) ?_;refine uAg rfl rfl rfl rfl (uAc rfl gU) ?_;refine uAg rfl rfl rfl rfl (uAc rfl gU) ?_;refine uAg rfl rfl rfl rfl (uAu rfl rfl (fun hh=>hh) (fun hh=>hh) rfl rfl rfl (fun hh=>Gl.rows_at (by first | omega | (simp at hh ⊢; omega)))) ?_;refine uAg rfl rfl rfl rfl (uAV rfl (fun hh=>hh) rfl rfl) ?_;refine uAg rfl rfl rfl rfl (uAP rfl (fun hh=>hh) rfl rfl rfl) ?_;refine uAg rfl rfl rfl rfl (uAW rfl rfl (fun hh=>hh) (fun hh=>hh) rfl) ?_;refine uAg rfl rfl rfl rfl (uAJ rfl rfl gU (fun _ hi=>gP rfl hi)) ?_
   refine uAg rfl rfl rfl rfl (uAc rfl gU) ?_;refine uAg rfl rfl rfl rfl (uAc rfl gU) ?_;refine uAg rfl rfl rfl rfl (uAc rfl gU) ?_;refine uAg rfl rfl rfl rfl (uAu rfl rfl (fun hh=>hh) (fun hh=>hh) rfl rfl rfl (fun hh=>Gl.rows_at (by first | omega | (simp at hh ⊢; omega)))) ?_;refine uAg rfl rfl rfl rfl (uAV rfl (fun hh=>hh) rfl rfl) ?_;refine uAg rfl rfl rfl rfl (uAP rfl (fun hh=>hh) rfl rfl rfl) ?_;refine uAg rfl rfl rfl rfl (uAc rfl gU) ?_;refine uAg rfl rfl rfl rfl (uAc rfl gU) ?_;refine uAg rfl rfl rfl rfl (uAu rfl rfl (fun hh=>hh) (fun hh=>hh) rfl rfl rfl (fun hh=>Gl.rows_at (by first | omega | (simp at hh ⊢; omega)))) ?_;refine uAg rfl rfl rfl rfl (uAV rfl (fun hh=>hh) rfl rfl) ?_;refine uAg rfl rfl rfl rfl (uAP rfl (fun hh=>hh) rfl rfl rfl) ?_;refine uBd rfl rfl rfl rfl rfl rfl rfl gU (fun hh=>gA ((fun hh=>hh) hh) (gA ((fun hh=>hh) hh) (rfl))) (uKa _ _ (by omega) (by omega)) rfl ?_;refine uAg rfl rfl rfl rfl (uA8 rfl (fun hh=>hh)) ?_;refine uAg rfl rfl rfl rfl (uAJ rfl rfl gU (fun _ hi=>gP rfl hi)) ?_;refine uBf (by kernel_rfl) ?_;refine uAm (s:=⟨[(0,_,_),(1,_,_),(5,_,_),(67,_,_)],[],[],[]⟩) (uAj (⟨sx rfl,sx rfl,sx rfl,sx rfl,trivial⟩) trivial trivial) ?_;refine uAl rfl (fun hc3=>?_) (fun hc3=>?_)
   ·exfalso
    simp only [List.getD_eq_getElem?_getD] at e1 e2 e3 e4
    simp [Gl.cells,e1,e2,e3,e4,uJ1] at hc3
   ·refine uAp ?_
    refine uAb ?_;refine uAa rfl rfl rfl (uAc rfl gU) ?_;refine uAa rfl rfl rfl (uAq rfl rfl gU gU rfl (IntWalk.i64_in _ (by omega))) ?_;refine uAa rfl rfl rfl (uAd rfl gU) ?_;refine uAf ?_;refine ⟨k + 1,?_,?_,uAj (⟨⟨_,rfl,?_⟩,⟨sx rfl,sx rfl,trivial⟩⟩) trivial trivial⟩
    all_goals (first | rfl | omega)
  ·try simp only [nn,uAi,T.rows_len,Gl.rows_len,Fs.rows_len,Sp.rows_len] at hc2
   refine uAL ?_
   repeat (first | refine uAF ?_ | refine uAG ?_ | refine uAC rfl ?_)
   refine uAe (uAb ?_);refine uAa rfl rfl rfl (uAd rfl gU) ?_;refine uAf ?_;refine uAo ?_
   repeat (first | refine tR ?_ | refine bR ?_)
   refine uAr rfl ?_ trivial
   rfl
set_option maxHeartbeats 4000000 in
theorem uIO (n m : Nar) (h : n.el=m.el) (hs : ∀ s ∈ n.steps,s.msg.size≤900000) (hg : ∀ g ∈ n.goals,T.sizes g.data≤900000) : Ctr sys 17 [xn n,xn m] [] (xb true) none []:=by
 obtain ⟨e1,e2,e3,e4,e5,e6⟩:=el_inj.1 h
 have l1:=uAi n.roles
 have l2:=uAi m.roles
 have l3:=Fs.rows_len n.fresh
 have l4:=Fs.rows_len m.fresh
 have l5:=Sp.rows_len n.steps
 have l6:=Sp.rows_len m.steps
 have h5 : n.steps.length=m.steps.length:=by simpa using congrArg List.length e5
 have h3 : n.fresh.length=m.fresh.length:=by rw [e3]
 refine uAz Tryz.func17 rfl rfl rfl rfl rfl rfl ?_;refine uAe (uAb ?_);refine uAt rfl (uBa rfl rfl rfl rfl) ?_;refine uAt rfl (uBa rfl rfl rfl rfl) ?_;refine uAa rfl rfl rfl (uAd rfl gU) ?_;refine uAf ?_;refine uAe ?_;refine uAe (uAb ?_);refine uAa rfl rfl rfl (uAh rfl gU rfl rfl) ?_;refine uAa rfl rfl rfl (uAn rfl gU rfl rfl rfl rfl) ?_;refine uAa rfl rfl rfl (uAh rfl gU rfl rfl) ?_;refine uAa rfl rfl rfl (uAn rfl gU rfl rfl rfl rfl) ?_;refine uAa rfl rfl rfl (uAW rfl rfl gU gU rfl) ?_;refine uAa rfl rfl rfl (uAc rfl gU) ?_;refine uAa rfl rfl rfl (uAh rfl gU rfl rfl) ?_;refine uAa rfl rfl rfl (uAn rfl (fun hh=>hh) rfl rfl rfl rfl) ?_;refine uAa rfl rfl rfl (uAh rfl gU rfl rfl) ?_;refine uBB (s:=⟨[(2,_,_),(3,_,_),(12,_,_),(14,_,_),(15,_,_)],[(.l 2,_),(.l 3,_)],[],[]⟩) (uAj (⟨sx rfl,sx rfl,sx rfl,sx rfl,sx rfl,trivial⟩) (⟨sx rfl,sx rfl,trivial⟩) trivial) ?_;refine uAa rfl rfl rfl (uAn rfl (fun hh=>hh) rfl rfl rfl rfl) ?_;refine uAA rfl rfl rfl rfl rfl rfl gU (fun hh=>gA ((fun hh=>hh) hh) (gA ((fun hh=>hh) hh) (rfl))) (uEp _ _) rfl ?_;refine uAa rfl rfl rfl (uA8 rfl (fun hh=>hh)) ?_;refine uAa rfl rfl rfl (uAJ rfl rfl gU (fun _ hi=>gP rfl hi)) ?_;refine uAa rfl rfl rfl (uAc rfl gU) ?_
 refine uAa rfl rfl rfl (uAh rfl gU rfl rfl) ?_;refine uAa rfl rfl rfl (uAn rfl (fun hh=>hh) rfl rfl rfl rfl) ?_;refine uAa rfl rfl rfl (uAh rfl gU rfl rfl) ?_;refine uAa rfl rfl rfl (uAn rfl (fun hh=>hh) rfl rfl rfl rfl) ?_;refine uAA rfl rfl rfl rfl rfl rfl gU (fun hh=>gA ((fun hh=>hh) hh) (gA ((fun hh=>hh) hh) (rfl))) (uEp _ _) rfl ?_;refine uAa rfl rfl rfl (uA8 rfl (fun hh=>hh)) ?_;refine uAa rfl rfl rfl (uAJ rfl rfl gU (fun _ hi=>gP rfl hi)) ?_;refine uBB (s:=⟨[(2,_,_),(3,_,_),(27,_,_)],[(.l 2,_),(.l 3,_)],[],[]⟩) (uAj (⟨sx rfl,sx rfl,sx rfl,trivial⟩) (⟨sx rfl,sx rfl,trivial⟩) trivial) ?_;refine uAa rfl rfl rfl (uAc rfl gU) ?_;refine uAa rfl rfl rfl (uAh rfl gU rfl rfl) ?_;refine uAa rfl rfl rfl (uAn rfl (fun hh=>hh) rfl rfl rfl rfl) ?_;refine uAa rfl rfl rfl (uA9 rfl (fun hh=>hh) rfl rfl) ?_;refine uAa rfl rfl rfl (uAh rfl gU rfl rfl) ?_;refine uAa rfl rfl rfl (uAn rfl (fun hh=>hh) rfl rfl rfl rfl) ?_;refine uAa rfl rfl rfl (uA9 rfl (fun hh=>hh) rfl rfl) ?_;refine uAa rfl rfl rfl (uAk rfl rfl (fun hh=>hh) (fun hh=>hh) rfl) ?_;refine uAa rfl rfl rfl (uAJ rfl rfl gU (fun _ hi=>gP rfl hi)) ?_;refine uAa rfl rfl rfl (uAc rfl gU) ?_;refine uAa rfl rfl rfl (uAh rfl gU rfl rfl) ?_;refine uAa rfl rfl rfl (uAn rfl (fun hh=>hh) rfl rfl rfl rfl) ?_
 refine uBB (s:=⟨[(2,_,_),(3,_,_),(37,_,_),(39,_,_)],[(.l 2,_),(.l 3,_)],[],[]⟩) (uAj (⟨sx rfl,sx rfl,sx rfl,sx rfl,trivial⟩) (⟨sx rfl,sx rfl,trivial⟩) trivial) ?_;refine uAa rfl rfl rfl (uA9 rfl (fun hh=>hh) rfl rfl) ?_;refine uAa rfl rfl rfl (uAh rfl gU rfl rfl) ?_;refine uAa rfl rfl rfl (uAn rfl (fun hh=>hh) rfl rfl rfl rfl) ?_;refine uAa rfl rfl rfl (uA9 rfl (fun hh=>hh) rfl rfl) ?_;refine uAa rfl rfl rfl (uAk rfl rfl (fun hh=>hh) (fun hh=>hh) rfl) ?_;refine uAa rfl rfl rfl (uAJ rfl rfl gU (fun _ hi=>gP rfl hi)) ?_;refine uAf ?_;refine uAm (s:=⟨[(2,_,_),(3,_,_),(45,_,_)],[(.l 2,_),(.l 3,_)],[],[]⟩) (uAj (⟨sx rfl,sx rfl,sx rfl,trivial⟩) (⟨sx rfl,sx rfl,trivial⟩) trivial) ?_;refine uAl rfl (fun hc=>?_) (fun hc=>?_)
 ·exfalso
  simp [uNF,e1,e2,e4,l3,l4,l5,l6,h5,h3] at hc
 ·refine uAp ?_
  refine uAe ?_;refine uAe (uAb ?_);refine uAa rfl rfl rfl (uAd rfl gU) ?_;refine uAf ?_;refine uAs ?_;refine uAZ (ι:=Nat) { t:=[(2,_,_),(3,_,_)],bx:=[(.l 2,_),(.l 3,_)],ow:=[] } (fun k=>[(5,true,xi (k : Int))]) (fun k=>[]) (fun k=>k≤n.fresh.length) (fun k=>n.fresh.length - k) (0) (by simp) (uAj (⟨sx rfl,sx rfl,sx rfl,trivial⟩) (⟨sx rfl,sx rfl,trivial⟩) trivial) ?_
  intro k hoka
  dsimp only [List.cons_append,List.nil_append]
  refine uAe ?_;refine uAe (uAb ?_);refine uAa rfl rfl rfl (uAc rfl gU) ?_;refine uAa rfl rfl rfl (uAh rfl gU rfl rfl) ?_;refine uAa rfl rfl rfl (uAn rfl gU rfl rfl rfl rfl) ?_;refine uAR rfl rfl rfl rfl rfl gU rfl rfl ?_ (fun hh=>by simp at hh); intro hlen;refine uAa rfl rfl rfl (uAk rfl rfl gU gU rfl) ?_;refine uAf ?_;refine uAm (s:=⟨[(2,_,_),(3,_,_),(5,_,_),(50,_,_)],[(.l 2,_),(.l 3,_)],[],[]⟩) (uAj (⟨sx rfl,sx rfl,sx rfl,sx rfl,trivial⟩) (⟨sx rfl,sx rfl,trivial⟩) trivial) ?_;refine uAl rfl (fun hc2=>?_) (fun hc2=>?_)
  ·try simp only [nn,uAi,T.rows_len,Gl.rows_len,Fs.rows_len,Sp.rows_len] at hc2
   refine uAp ?_;refine uAe ?_;refine uAs ?_;refine uAe ?_;refine awp_drawn' (by kernel_rfl) ?_;refine uAg rfl rfl rfl rfl (uAh rfl gU rfl rfl) ?_;refine uAS rfl rfl rfl rfl rfl rfl rfl gU rfl rfl rfl rfl ?_;refine uAg rfl rfl rfl rfl (uAc rfl gU) ?_;refine uAg rfl rfl rfl rfl (uAu rfl rfl gU gU rfl rfl rfl (fun hh=>Fs.rows_at (by first | omega | (simp at hh ⊢; omega)))) ?_;refine uAg rfl rfl rfl rfl (uAK rfl gU rfl rfl rfl rfl) ?_;refine uAg rfl rfl rfl rfl (uAh rfl gU rfl rfl) ?_;refine uAS rfl rfl rfl rfl rfl rfl rfl gU rfl rfl rfl rfl ?_;refine uAg rfl rfl rfl rfl (uAc rfl gU) ?_;refine uAg rfl rfl rfl rfl (uAu rfl rfl gU gU rfl rfl rfl (fun hh=>Fs.rows_at (by first | omega | (simp at hh ⊢; omega)))) ?_;refine uAg rfl rfl rfl rfl (uAK rfl gU rfl rfl rfl rfl) ?_;refine uAg rfl rfl rfl rfl (uHf (ks:=[2,2,1]) (.inr ⟨rfl,rfl⟩) rfl rfl gU gU Tryz.underlying73 (by kernel_rfl) (by kernel_rfl) (by kernel_rfl) rfl) ?_;refine uBf (by kernel_rfl) ?_;refine uAm (s:=⟨[(2,_,_),(3,_,_),(5,_,_),(63,_,_)],[(.l 2,_),(.l 3,_)],[],[]⟩) (uAj (⟨sx rfl,sx rfl,sx rfl,sx rfl,trivial⟩) (⟨sx rfl,sx rfl,trivial⟩) trivial) ?_;refine uAl rfl (fun hc3=>?_) (fun hc3=>?_)
   ·exfalso
    simp [e3] at hc3
   ·refine uAp ?_
    refine uAb ?_;refine uAa rfl rfl rfl (uAc rfl gU) ?_;refine uAa rfl rfl rfl (uAq rfl rfl gU gU rfl (IntWalk.i64_in _ (by omega))) ?_;refine uAa rfl rfl rfl (uAd rfl gU) ?_;refine uAf ?_;refine ⟨k + 1,?_,?_,uAj (⟨⟨_,rfl,?_⟩,⟨sx rfl,sx rfl,trivial⟩⟩) (⟨sx rfl,sx rfl,trivial⟩) trivial⟩
    all_goals (first | rfl | omega)
  ·try simp only [nn,uAi,T.rows_len,Gl.rows_len,Fs.rows_len,Sp.rows_len] at hc2
   refine uAL ?_
   repeat (first | refine uAF ?_ | refine uAG ?_ | refine uAC rfl ?_)
   refine uAe ?_;refine uAe (uAb ?_);refine uAa rfl rfl rfl (uAd rfl gU) ?_;refine uAf ?_;refine uAs ?_;refine uAZ (ι:=Nat) { t:=[(2,_,_),(3,_,_)],bx:=[(.l 2,_),(.l 3,_)],ow:=[] } (fun k=>[(6,true,xi (k : Int))]) (fun k=>[]) (fun k=>k≤n.steps.length) (fun k=>n.steps.length - k) (0) (by simp) (uAj (⟨sx rfl,sx rfl,sx rfl,trivial⟩) (⟨sx rfl,sx rfl,trivial⟩) trivial) ?_
   intro k hokb
   dsimp only [List.cons_append,List.nil_append]
   refine uAe ?_;refine uAe (uAb ?_);refine uAa rfl rfl rfl (uAc rfl gU) ?_;refine uAa rfl rfl rfl (uAh rfl gU rfl rfl) ?_;refine uAa rfl rfl rfl (uAn rfl gU rfl rfl rfl rfl) ?_;refine uAR rfl rfl rfl rfl rfl gU rfl rfl ?_ (fun hh=>by simp at hh); intro hlen;refine uAa rfl rfl rfl (uAk rfl rfl gU gU rfl) ?_;refine uAf ?_;refine uAm (s:=⟨[(2,_,_),(3,_,_),(6,_,_),(68,_,_)],[(.l 2,_),(.l 3,_)],[],[]⟩) (uAj (⟨sx rfl,sx rfl,sx rfl,sx rfl,trivial⟩) (⟨sx rfl,sx rfl,trivial⟩) trivial) ?_;refine uAl rfl (fun hc4=>?_) (fun hc4=>?_)
   ·try simp only [nn,uAi,T.rows_len,Gl.rows_len,Fs.rows_len,Sp.rows_len] at hc4
    have hlt : k < n.steps.length:=by omega
    have e:=uKR (d:=default) e5 hlt
    have f1 : (n.steps.getD k default).frm=(m.steps.getD k default).frm:=(by have q:=congrArg Sp.frm e; exact q)
    have f2 : (n.steps.getD k default).dst=(m.steps.getD k default).dst:=(by have q:=congrArg Sp.dst e; exact q)
    have f3 : (n.steps.getD k default).msg=(m.steps.getD k default).msg:=(by have q:=congrArg Sp.msg e; exact q)
    have z1:=uMs hs hlt
    have z2 : (m.steps.getD k default).msg.size≤900000:=by rw [← f3]; exact z1
    refine uAp ?_;refine uAe ?_;refine uAs ?_;refine uAe ?_;refine awp_drawn' (by kernel_rfl) ?_;refine uAg rfl rfl rfl rfl (uAh rfl gU rfl rfl) ?_;refine uAS rfl rfl rfl rfl rfl rfl rfl gU rfl rfl rfl rfl ?_;refine uAg rfl rfl rfl rfl (uAc rfl gU) ?_;refine uAg rfl rfl rfl rfl (uAu rfl rfl gU gU rfl rfl rfl (fun hh=>Sp.rows_at (by first | omega | (simp at hh ⊢; omega)))) ?_;refine uAg rfl rfl rfl rfl (uAV rfl gU rfl rfl) ?_;refine uAg rfl rfl rfl rfl (uAP rfl gU rfl rfl rfl) ?_;refine uAg rfl rfl rfl rfl (uAh rfl gU rfl rfl) ?_;refine uAS rfl rfl rfl rfl rfl rfl rfl gU rfl rfl rfl rfl ?_;refine uAg rfl rfl rfl rfl (uAc rfl gU) ?_;refine uAg rfl rfl rfl rfl (uAu rfl rfl gU gU rfl rfl rfl (fun hh=>Sp.rows_at (by first | omega | (simp at hh ⊢; omega)))) ?_;refine uAg rfl rfl rfl rfl (uAV rfl gU rfl rfl) ?_;refine uAg rfl rfl rfl rfl (uAP rfl gU rfl rfl rfl) ?_;refine uAg rfl rfl rfl rfl (uAW rfl rfl gU gU rfl) ?_;refine uAg rfl rfl rfl rfl (uAc rfl gU) ?_;refine uAg rfl rfl rfl rfl (uAh rfl gU rfl rfl) ?_;refine uAS rfl rfl rfl rfl rfl rfl rfl (fun hh=>hh) rfl rfl rfl rfl ?_;refine uAg rfl rfl rfl rfl (uAc rfl gU) ?_;refine uAg rfl rfl rfl rfl (uAu rfl rfl (fun hh=>hh) (fun hh=>hh) rfl rfl rfl (fun hh=>Sp.rows_at (by first | omega | (simp at hh ⊢; omega)))) ?_
    refine uAg rfl rfl rfl rfl (uAV rfl (fun hh=>hh) rfl rfl) ?_;refine uAg rfl rfl rfl rfl (uAP rfl (fun hh=>hh) rfl rfl rfl) ?_;refine uAg rfl rfl rfl rfl (uAh rfl gU rfl rfl) ?_;refine uAS rfl rfl rfl rfl rfl rfl rfl (fun hh=>hh) rfl rfl rfl rfl ?_;refine uAg rfl rfl rfl rfl (uAc rfl gU) ?_;refine uAg rfl rfl rfl rfl (uAu rfl rfl (fun hh=>hh) (fun hh=>hh) rfl rfl rfl (fun hh=>Sp.rows_at (by first | omega | (simp at hh ⊢; omega)))) ?_;refine uAg rfl rfl rfl rfl (uAV rfl (fun hh=>hh) rfl rfl) ?_;refine uAg rfl rfl rfl rfl (uAP rfl (fun hh=>hh) rfl rfl rfl) ?_;refine uAg rfl rfl rfl rfl (uAW rfl rfl (fun hh=>hh) (fun hh=>hh) rfl) ?_;refine uAg rfl rfl rfl rfl (uAJ rfl rfl gU (fun _ hi=>gP rfl hi)) ?_;refine uAg rfl rfl rfl rfl (uAc rfl gU) ?_;refine uAg rfl rfl rfl rfl (uAh rfl gU rfl rfl) ?_;refine uAS rfl rfl rfl rfl rfl rfl rfl (fun hh=>hh) rfl rfl rfl rfl ?_;refine uAg rfl rfl rfl rfl (uAc rfl gU) ?_;refine uAg rfl rfl rfl rfl (uAu rfl rfl (fun hh=>hh) (fun hh=>hh) rfl rfl rfl (fun hh=>Sp.rows_at (by first | omega | (simp at hh ⊢; omega)))) ?_;refine uAg rfl rfl rfl rfl (uAV rfl (fun hh=>hh) rfl rfl) ?_;refine uAg rfl rfl rfl rfl (uAK rfl (fun hh=>hh) rfl rfl rfl rfl) ?_;refine uAg rfl rfl rfl rfl (uAh rfl gU rfl rfl) ?_;refine uAS rfl rfl rfl rfl rfl rfl rfl (fun hh=>hh) rfl rfl rfl rfl ?_
    refine uAg rfl rfl rfl rfl (uAc rfl gU) ?_;refine uAg rfl rfl rfl rfl (uAu rfl rfl (fun hh=>hh) (fun hh=>hh) rfl rfl rfl (fun hh=>Sp.rows_at (by first | omega | (simp at hh ⊢; omega)))) ?_;refine uAg rfl rfl rfl rfl (uAV rfl (fun hh=>hh) rfl rfl) ?_;refine uAg rfl rfl rfl rfl (uAK rfl (fun hh=>hh) rfl rfl rfl rfl) ?_;refine uBd rfl rfl rfl rfl rfl rfl rfl gU (fun hh=>gA ((fun hh=>hh) hh) (gA ((fun hh=>hh) hh) (rfl))) (uFl _ _ (by omega) (by omega)) rfl ?_;refine uAg rfl rfl rfl rfl (uA8 rfl (fun hh=>hh)) ?_;refine uAg rfl rfl rfl rfl (uAJ rfl rfl gU (fun _ hi=>gP rfl hi)) ?_;refine uBf (by kernel_rfl) ?_;refine uAm (s:=⟨[(2,_,_),(3,_,_),(6,_,_),(114,_,_)],[(.l 2,_),(.l 3,_)],[],[]⟩) (uAj (⟨sx rfl,sx rfl,sx rfl,sx rfl,trivial⟩) (⟨sx rfl,sx rfl,trivial⟩) trivial) ?_;refine uAl rfl (fun hc5=>?_) (fun hc5=>?_)
    ·exfalso
     simp only [List.getD_eq_getElem?_getD] at f1 f2 f3
     simp [Sp.cells,f1,f2,f3,T.cmp_self] at hc5
    ·refine uAp ?_
     refine uAb ?_;refine uAa rfl rfl rfl (uAc rfl gU) ?_;refine uAa rfl rfl rfl (uAq rfl rfl gU gU rfl (IntWalk.i64_in _ (by omega))) ?_;refine uAa rfl rfl rfl (uAd rfl gU) ?_;refine uAf ?_;refine ⟨k + 1,?_,?_,uAj (⟨⟨_,rfl,?_⟩,⟨sx rfl,sx rfl,trivial⟩⟩) (⟨sx rfl,sx rfl,trivial⟩) trivial⟩
     all_goals (first | rfl | omega)
   ·try simp only [nn,uAi,T.rows_len,Gl.rows_len,Fs.rows_len,Sp.rows_len] at hc4
    refine uAL ?_
    repeat (first | refine uAF ?_ | refine uAG ?_ | refine uAC rfl ?_)
    refine uAe (uAb ?_);refine uAa rfl rfl rfl (uAh rfl gU rfl rfl) ?_;refine uAa rfl rfl rfl (uAn rfl gU rfl rfl rfl rfl) ?_;refine uAa rfl rfl rfl (uAh rfl gU rfl rfl) ?_;refine uAa rfl rfl rfl (uAn rfl gU rfl rfl rfl rfl) ?_;refine uAA rfl rfl rfl rfl rfl rfl gU gU (uHa _ _ e6 hg) rfl ?_;refine uAa rfl rfl rfl (uAd rfl gU) ?_;refine uAf ?_;refine uAo ?_
    repeat (first | refine tR ?_ | refine bR ?_)
    refine uAr rfl ?_ trivial
    rfl
end Go.Proofs.YtnjjdbapadkomaaGreatDoor
