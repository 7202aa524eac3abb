/- Our abstract program logic and contracts of this seat's functions, part 4: no statement of its own (long names of ours are shortened by a program). -/
import Derived.Test.YtnjjdbapadkomaaGreatDoorM3
import Derived.Lib.Join
set_option linter.unusedVariables false
set_option linter.unusedSimpArgs false
namespace Go.Proofs.YtnjjdbapadkomaaGreatDoor
open Go Go.Abs
abbrev xnum (s : List UInt8) (r : Bool × Nat × Int) : X:=.tup [.c (.s (s.take r.2.1)), .c (.i .i64 r.2.2), .c (.b r.1)]
theorem uJi (s : List UInt8) (hs : s.length≤2000000) : Ctr sys 125 [xs s] [] (xnum s (numA s 0 0)) none []:=by
 refine uAy Tryz.func125 rfl rfl rfl rfl rfl rfl ?_;refine uAe (uAb ?_);refine uAa rfl rfl rfl (uAd rfl gU) ?_;refine uAa rfl rfl rfl (uAd rfl gU) ?_;refine uAa rfl rfl rfl (uAd rfl gU) ?_;refine uAf ?_;refine uAe (uAb ?_);refine uAa rfl rfl rfl (uAd rfl gU) ?_;refine uAa rfl rfl rfl (uAd rfl gU) ?_;refine uAf ?_;refine uAn (s:=⟨[(0,_,_),(5,_,_),(6,_,_)],[],[],[]⟩) (uAj (⟨sx rfl,sx rfl,sx rfl,trivial⟩) trivial trivial) ?_;refine uAe ?_;refine uAt ?_;refine uAW (ι:=Nat × Int) { t:=[(0,_,_)],bx:=[],ow:=[] } (fun p=>[(5,true,xi (p.1 : Int)),(6,true,xi p.2)]) (fun p=>[]) (fun p=>p.1≤s.length∧0≤p.2∧p.2≤9223372036854775807∧numA (s.drop p.1) p.1 p.2=numA s 0 0) (fun p=>s.length - p.1) ((0,0)) (⟨by simp,by simp,by simp,rfl⟩) (uAj (⟨sx rfl,sx rfl,sx rfl,trivial⟩) trivial trivial) ?_
 intro p hok
 dsimp only [List.cons_append,List.nil_append] at *
 obtain ⟨k,v⟩:=p
 dsimp only at hok ⊢
 obtain ⟨hk,hv0,hv1,hi⟩:=hok
 refine uAe ?_;refine uAe (uAb ?_);refine uAa rfl rfl rfl (uAc rfl gU) ?_;refine uAa rfl rfl rfl (uAc rfl gU) ?_;refine uBm rfl rfl rfl rfl rfl gU (Tryz.underlying9) ?_ (fun hh=>by simp at hh); intro hlen;refine uAa rfl rfl rfl (uAk rfl rfl gU gU rfl) ?_;refine uAa rfl rfl rfl (uAc rfl gU) ?_;refine uAa rfl rfl rfl (uAc rfl gU) ?_;refine uAa rfl rfl rfl (uAc rfl gU) ?_;refine uAa rfl rfl rfl (uAG (j:=k) rfl rfl (fun hh=>hh) (fun hh=>hh) Tryz.underlying9 (by first | omega | (simp at hh ⊢; omega)) (fun hh=>by first | omega | (simp at hh ⊢; omega))) ?_;refine uAx rfl rfl rfl rfl rfl rfl gU (fun hh=>gA ((fun hh=>hh) hh) (rfl)) (uDv _ _ rfl) rfl ?_;refine uAa rfl rfl rfl (uAk rfl rfl (fun hh=>hh) gU rfl) ?_;refine uAa rfl rfl rfl (uAR rfl rfl gU (fun _ hi=>gP rfl hi)) ?_;refine uAf ?_;refine uAn (s:=⟨[(0,_,_),(5,_,_),(6,_,_),(18,_,_)],[],[],[]⟩) (uAj (⟨sx rfl,sx rfl,sx rfl,sx rfl,trivial⟩) trivial trivial) ?_;refine uAm rfl (fun hc=>?_) (fun hc=>?_)
 ·try simp only [nn,uAi,Tk.rows_len] at hc
  have hd:=(uD1 (s.getD k 0)).2.1.1 hc.2
  have hd2:=uI5 hd
  rw [uBa (by omega),numA,if_pos hd] at hi
  refine uAo ?_;refine uAt ?_;refine uAe (uAb ?_);refine uAa rfl rfl rfl (uAc rfl gU) ?_;refine uAa rfl rfl rfl (uAc rfl gU) ?_;refine uAa rfl rfl rfl (uAG (j:=k) rfl rfl gU gU Tryz.underlying9 (by first | omega | (simp at hh ⊢; omega)) (fun hh=>by first | omega | (simp at hh ⊢; omega))) ?_;refine uAa rfl rfl rfl (uAr rfl rfl gU gU rfl (IntWalk.u8_in _ (by omega))) ?_;refine uAa rfl rfl rfl (uDi rfl gU ⟨_,Tryz.underlying5⟩ (Tryz.underlying2) (IntWalk.i64_in _ (by omega))) ?_;refine uAa rfl rfl rfl (uAd rfl gU) ?_;refine uAf ?_;refine uAn (s:=⟨[(0,_,_),(5,_,_),(6,_,_),(7,_,_)],[],[],[]⟩) (uAj (⟨sx rfl,sx rfl,sx rfl,sx rfl,trivial⟩) trivial trivial) ?_;refine uAe ?_;refine uAe (uAb ?_);refine uAa rfl rfl rfl (uAc rfl gU) ?_;refine uAa rfl rfl rfl (uAc rfl gU) ?_;refine uAa rfl rfl rfl (uAr rfl rfl gU gU rfl (IntWalk.i64_in _ (by omega))) ?_;refine uAa rfl rfl rfl (uIC rfl rfl gU gU (fun hh=>by first | omega | (simp at hh ⊢; omega)) (fun hh=>(congrArg IntKind.i64.wrap (Int.tdiv_eq_ediv_of_nonneg (by first | omega | (simp at hh ⊢; omega)))).trans (IntWalk.i64_in _ (by omega)))) ?_;refine uAa rfl rfl rfl (uAk rfl rfl gU gU rfl) ?_;refine uAf ?_;refine uAn (s:=⟨[(0,_,_),(5,_,_),(6,_,_),(7,_,_),(28,_,_)],[],[],[]⟩) (uAj (⟨sx rfl,sx rfl,sx rfl,sx rfl,sx rfl,trivial⟩) trivial trivial) ?_
  refine uAm rfl (fun hc2=>?_) (fun hc2=>?_)
  ·try simp only [nn,uAi,Tk.rows_len] at hc2
   rw [if_pos (by omega)] at hi
   refine uAe (uAb ?_);refine uAa rfl rfl rfl (uAd rfl gU) ?_;refine uAa rfl rfl rfl (uAd rfl gU) ?_;refine uAa rfl rfl rfl (uAd rfl gU) ?_;refine uAf ?_;refine uAp ?_
   repeat (first | refine tR ?_ | refine bR ?_)
   refine uAs rfl ?_ trivial
   (rw [← hi]; rfl)
  ·try simp only [nn,uAi,Tk.rows_len] at hc2
   rw [if_neg (by omega)] at hi
   refine uAo ?_;refine uAe (uAb ?_);refine uAa rfl rfl rfl (uAc rfl gU) ?_;refine uAa rfl rfl rfl (uAr rfl rfl gU gU rfl (IntWalk.i64_in _ (by omega))) ?_;refine uAa rfl rfl rfl (uAc rfl gU) ?_;refine uAa rfl rfl rfl (uAr rfl rfl gU gU rfl (IntWalk.i64_in _ (by omega))) ?_;refine uAa rfl rfl rfl (uAd rfl gU) ?_;refine uAf ?_;refine uAn (s:=⟨[(0,_,_),(5,_,_),(6,_,_)],[],[],[]⟩) (uAj (⟨sx rfl,sx rfl,sx rfl,trivial⟩) trivial trivial) ?_;refine uAb ?_;refine uAa rfl rfl rfl (uAc rfl gU) ?_;refine uAa rfl rfl rfl (uAr rfl rfl gU gU rfl (IntWalk.i64_in _ (by omega))) ?_;refine uAa rfl rfl rfl (uAd rfl gU) ?_;refine uAf ?_;refine ⟨(k + 1,10 * v + (((s.getD k 0).toNat : Int) - 48)),?_,?_,uAj (⟨⟨_,rfl,?_⟩,⟨⟨_,rfl,?_⟩,⟨sx rfl,trivial⟩⟩⟩) trivial trivial⟩
   all_goals (first | rfl | omega | exact ⟨by omega,by omega,by omega,hi⟩)
 ·try simp only [nn,uAi,Tk.rows_len] at hc
  have hn : numA (s.drop k) k v=(true,k,v):=by
   by_cases hlt : k < s.length
   ·rw [uBa hlt,numA,if_neg]
    intro q
    have := (uD1 (s.getD k 0)).2.1.2 q
    omega
   ·rw [List.drop_of_length_le (by omega)]; rfl
  rw [hn] at hi
  refine uAM ?_
  repeat (first | refine uAD ?_ | refine uAE ?_ | refine uAC rfl ?_)
  refine uAe (uAb ?_);refine uAa rfl rfl rfl (uAc rfl gU) ?_;refine uAa rfl rfl rfl (uAc rfl gU) ?_;refine uAa rfl rfl rfl (uBh (h':=k) rfl gU Tryz.underlying9 (fun _=>rfl) (fun _=>⟨_,_,_,rfl,gU,by first | omega | (simp at hh ⊢; omega)⟩) (fun hh=>by first | omega | (simp at hh ⊢; omega)) (fun hh=>by first | omega | (simp at hh ⊢; omega))) ?_;refine uAa rfl rfl rfl (uAc rfl gU) ?_;refine uAa rfl rfl rfl (uAd rfl gU) ?_;refine uAa rfl rfl rfl (uAd rfl gU) ?_;refine uAa rfl rfl rfl (uAd rfl gU) ?_;refine uAf ?_;refine uAp ?_
  repeat (first | refine tR ?_ | refine bR ?_)
  refine uAs rfl ?_ trivial
  (rw [← hi]; rfl)
theorem uO4 (c : UInt8) : (uBf (c.toNat : Int)=true→clsE c=2)∧(uBu (c.toNat : Int)=true→clsE c=3)∧(c.toNat=34→clsE c=5)∧(uBf (c.toNat : Int)≠true→uBu (c.toNat : Int)≠true→c.toNat≠34→(symB c=true→clsE c=4∨clsE c=1)∧(symB c≠true→clsE c=0∨clsE c=1)):=by
 refine ⟨(uD1 c).1.2,(uD1 c).2.1.2,fun h=>?_,fun h1 h2 h3=>⟨fun h4=>?_,fun h4=>?_⟩⟩
 ·unfold clsE
  rw [if_neg (by simp [uCu]; omega),if_neg (by simp [uBf]; omega),if_neg (by simp [uBu]; omega),if_pos h]
 ·unfold clsE
  rw [if_neg h1,if_neg h2,if_neg h3,if_pos h4]
  split <;> simp
 ·unfold clsE
  rw [if_neg h1,if_neg h2,if_neg h3,if_neg h4]
  split <;> simp
theorem uPr {t u : Tk} {a b e : Int} (h : t=u) (h2 : a=b) : X.tup [.agg t.cells, .c (.i .i64 a), .c (.i .i64 e)]=X.tup [.agg u.cells, .c (.i .i64 b), .c (.i .i64 e)]:=by rw [h,h2]
theorem uK8 (s : List UInt8) (k ki : Int) (h : 0 < s.length) (hs : s.length≤2000000) (hk : ki=k) (hw : clsE (s.getD 0 0)≠1) : Ctr sys 74 [xs s,xi ki] [] (xnx (uBx s k)) none []:=by
 subst hk
 have h1:=uLJ s
 have h2 : (s.take (wdN s)).length=wdN s:=by rw [List.length_take]; omega
 have h3:=uJl s h
 have h4:=uGY s 0 0 (by omega)
 have h5 : (s.take (numA s 0 0).2.1).length=(numA s 0 0).2.1:=by rw [List.length_take]; omega
 obtain ⟨c1,c2,c3,c4⟩:=uO4 (s.getD 0 0)
 obtain ⟨d1,d2,-⟩:=uD1 (s.getD 0 0)
 refine uAy Tryz.func74 rfl rfl rfl rfl rfl rfl ?_;refine uAe (uAb ?_);refine uAw rfl (uAT rfl rfl rfl) ?_;refine uAa rfl rfl rfl (uAd rfl gU) ?_;refine uAa rfl rfl rfl (uAd rfl gU) ?_;refine uAf ?_;refine uAe ?_;refine uAe (uAb ?_);refine uAa rfl rfl rfl (uAc rfl gU) ?_;refine uAa rfl rfl rfl (uAG (j:=0) rfl rfl gU gU Tryz.underlying9 (by first | omega | (simp at hh ⊢; omega)) (fun hh=>by first | omega | (simp at hh ⊢; omega))) ?_;refine uAx rfl rfl rfl rfl rfl rfl gU gU (uDv _ _ rfl) rfl ?_;refine uAf ?_;refine uAn (s:=⟨[(0,_,_),(1,_,_),(4,_,_),(15,_,_)],[(.l 4,_)],[],[]⟩) (uAj (⟨sx rfl,sx rfl,sx rfl,sx rfl,trivial⟩) (⟨sx rfl,trivial⟩) trivial) ?_;refine uAt ?_;refine uAe (uAb ?_);refine uAa rfl rfl rfl (uAk rfl rfl gU gU rfl) ?_;refine uAa rfl rfl rfl (uAd rfl gU) ?_;refine uAf ?_;refine uAm rfl (fun hc=>?_) (fun hc=>?_)
 ·try simp only [nn,uAi,Tk.rows_len] at hc
  rw [uBx,if_pos (d1.1 hc)]
  refine uAe (uAb ?_);refine uAa rfl rfl rfl (uAc rfl gU) ?_;refine uAx rfl rfl rfl rfl rfl rfl gU gU (uM8 _ (by omega)) rfl ?_;refine uAa rfl rfl rfl (uAd rfl gU) ?_;refine uAf ?_;refine uAn (s:=⟨[(1,_,_),(4,_,_),(7,_,_)],[(.l 4,_)],[],[]⟩) (uAj (⟨sx rfl,sx rfl,sx rfl,trivial⟩) (⟨sx rfl,trivial⟩) trivial) ?_;refine uAe ?_;refine uAe (uAb ?_);refine uAa rfl rfl rfl (uAc rfl gU) ?_;refine uBm rfl rfl rfl rfl rfl gU (Tryz.underlying9) ?_ (fun hh=>by simp at hh); intro hlen;refine uAa rfl rfl rfl (uAk rfl rfl gU gU rfl) ?_;refine uAf ?_;refine uAm rfl (fun hc2=>?_) (fun hc2=>?_)
  ·try simp only [nn,uAi,Tk.rows_len] at hc2
   refine uAe (uAb ?_);refine uAa rfl rfl rfl (uA1 rfl Tryz.underlying50 rfl gU) ?_;refine uAw rfl (uAB rfl rfl rfl rfl rfl rfl rfl) ?_;refine uAa rfl rfl rfl (uAd rfl gU) ?_;refine uAa rfl rfl rfl (uAd rfl gU) ?_;refine uAf ?_;refine uAp ?_
   repeat (first | refine tR ?_ | refine bR ?_)
   refine uAs rfl ?_ trivial
   (rw [if_pos (by omega)]; rfl)
  ·try simp only [nn,uAi,Tk.rows_len] at hc2
   refine uAo ?_;refine uAe (uAb ?_);refine uAa rfl rfl rfl (uAc rfl gU) ?_;refine uAa rfl rfl rfl (uAc rfl gU) ?_;refine uAa rfl rfl rfl (uA1 rfl Tryz.underlying50 rfl gU) ?_;refine uAa rfl rfl rfl (uAc rfl gU) ?_;refine uBm rfl rfl rfl rfl rfl gU (Tryz.underlying9) ?_ (fun hh=>by simp at hh); intro hlen;refine uAw rfl (uAB rfl rfl rfl rfl rfl rfl rfl) ?_;refine uAa rfl rfl rfl (uAd rfl gU) ?_;refine uAa rfl rfl rfl (uAd rfl gU) ?_;refine uAf ?_;refine uAp ?_
   repeat (first | refine tR ?_ | refine bR ?_)
   refine uAs rfl ?_ trivial
   (rw [if_neg (by omega)]; exact uPr (t:=⟨1,s.take (wdN s),0,[],ki⟩) (u:=⟨1,s.take (wdN s),0,[],ki⟩) rfl (by dsimp only; omega))
 ·try simp only [nn,uAi,Tk.rows_len] at hc
  have e1 : ¬uBf ((s.getD 0 0).toNat : Int)=true:=fun q=>hc (c1 q)
  rw [uBx,if_neg e1]
  refine uAe (uAb ?_);refine uAa rfl rfl rfl (uAk rfl rfl gU gU rfl) ?_;refine uAa rfl rfl rfl (uAd rfl gU) ?_;refine uAf ?_;refine uAm rfl (fun hc2=>?_) (fun hc2=>?_)
  ·try simp only [nn,uAi,Tk.rows_len] at hc2
   rw [if_pos (d2.1 hc2)]
   refine uAe (uAb ?_);refine uAa rfl rfl rfl (uAc rfl gU) ?_;refine uAx rfl rfl rfl rfl rfl rfl gU gU (uJi _ (by omega)) rfl ?_;refine uAa rfl rfl rfl (uAc rfl gU) ?_;refine uAa rfl rfl rfl (uAJ rfl gU rfl) ?_;refine uAa rfl rfl rfl (uAJ rfl gU rfl) ?_;refine uAa rfl rfl rfl (uAJ rfl gU rfl) ?_;refine uAa rfl rfl rfl (uAd rfl gU) ?_;refine uAa rfl rfl rfl (uAd rfl gU) ?_;refine uBk (s:=⟨[(1,_,_),(4,_,_),(8,_,_),(9,_,_),(36,_,_)],[(.l 4,_)],[],[]⟩) (uAj (⟨sx rfl,sx rfl,sx rfl,sx rfl,sx rfl,trivial⟩) (⟨sx rfl,trivial⟩) trivial) ?_;refine uAa rfl rfl rfl (uAd rfl gU) ?_;refine uAf ?_;refine uAe ?_;refine uAe (uAb ?_);refine uAa rfl rfl rfl (uAc rfl gU) ?_;refine uAa rfl rfl rfl (uAV rfl gU) ?_;refine uAf ?_;refine uAm rfl (fun hc3=>?_) (fun hc3=>?_)
   ·try simp only [nn,uAi,Tk.rows_len] at hc3
    refine uAe (uAb ?_);refine uAa rfl rfl rfl (uA1 rfl Tryz.underlying50 rfl gU) ?_;refine uAw rfl (uAB rfl rfl rfl rfl rfl rfl rfl) ?_;refine uAa rfl rfl rfl (uAd rfl gU) ?_;refine uAa rfl rfl rfl (uAd rfl gU) ?_;refine uAf ?_;refine uAp ?_
    repeat (first | refine tR ?_ | refine bR ?_)
    refine uAs rfl ?_ trivial
    (rw [if_neg (by rw [hc3]; exact Bool.false_ne_true)]; rfl)
   ·try simp only [nn,uAi,Tk.rows_len] at hc3
    refine uAo ?_;refine uAe (uAb ?_);refine uAa rfl rfl rfl (uAc rfl gU) ?_;refine uAa rfl rfl rfl (uAc rfl gU) ?_;refine uAa rfl rfl rfl (uA1 rfl Tryz.underlying50 rfl gU) ?_;refine uAa rfl rfl rfl (uAc rfl gU) ?_;refine uBm rfl rfl rfl rfl rfl gU (Tryz.underlying9) ?_ (fun hh=>by simp at hh); intro hlen;refine uAw rfl (uAB rfl rfl rfl rfl rfl rfl rfl) ?_;refine uAa rfl rfl rfl (uAd rfl gU) ?_;refine uAa rfl rfl rfl (uAd rfl gU) ?_;refine uAf ?_;refine uAp ?_
    repeat (first | refine tR ?_ | refine bR ?_)
    refine uAs rfl ?_ trivial
    (rw [if_pos hc3]; exact uPr (t:=⟨2,[],(numA s 0 0).2.2,[],ki⟩) (u:=⟨2,[],(numA s 0 0).2.2,[],ki⟩) rfl (by dsimp only; omega))
  ·try simp only [nn,uAi,Tk.rows_len] at hc2
   have e2 : ¬uBu ((s.getD 0 0).toNat : Int)=true:=fun q=>hc2 (c2 q)
   rw [if_neg e2]
   refine uAe (uAb ?_);refine uAa rfl rfl rfl (uAk rfl rfl gU gU rfl) ?_;refine uAa rfl rfl rfl (uAd rfl gU) ?_;refine uAf ?_;refine uAn (s:=⟨[(0,_,_),(1,_,_),(4,_,_),(15,_,_),(45,_,_)],[(.l 4,_)],[],[]⟩) (uAj (⟨sx rfl,sx rfl,sx rfl,sx rfl,sx rfl,trivial⟩) (⟨sx rfl,trivial⟩) trivial) ?_;refine uAm rfl (fun hc3=>?_) (fun hc3=>?_)
   ·try simp only [nn,uAi,Tk.rows_len] at hc3
    have e3 : (s.getD 0 0).toNat=34:=by
     by_cases q : (s.getD 0 0).toNat=34
     ·exact q
     ·have := c4 e1 e2 q
      by_cases q2 : symB (s.getD 0 0)=true
      ·have := this.1 q2; omega
      ·have := this.2 q2; omega
    rw [if_pos e3]
    refine uAe (uAb ?_);refine uAa rfl rfl rfl (uAc rfl gU) ?_;refine uAx rfl rfl rfl rfl rfl rfl gU gU (uMT _ (by omega) (by omega)) rfl ?_;refine uAa rfl rfl rfl (uAc rfl gU) ?_;refine uAa rfl rfl rfl (uAJ rfl gU rfl) ?_;refine uAa rfl rfl rfl (uAJ rfl gU rfl) ?_;refine uAa rfl rfl rfl (uAd rfl gU) ?_;refine uAa rfl rfl rfl (uAd rfl gU) ?_;refine uAf ?_;refine uAn (s:=⟨[(1,_,_),(4,_,_),(11,_,_),(12,_,_)],[(.l 4,_)],[],[]⟩) (uAj (⟨sx rfl,sx rfl,sx rfl,sx rfl,trivial⟩) (⟨sx rfl,trivial⟩) trivial) ?_;refine uAe (uAb ?_);refine uAa rfl rfl rfl (uAc rfl gU) ?_;refine uAa rfl rfl rfl (uAk rfl rfl gU gU rfl) ?_;refine uAf ?_;refine uAm rfl (fun hc4=>?_) (fun hc4=>?_)
    ·try simp only [nn,uAi,Tk.rows_len] at hc4
     refine uAe (uAb ?_);refine uAa rfl rfl rfl (uAc rfl gU) ?_;refine uAa rfl rfl rfl (uAc rfl gU) ?_;refine uAa rfl rfl rfl (uA1 rfl Tryz.underlying50 rfl gU) ?_;refine uAa rfl rfl rfl (uAc rfl gU) ?_;refine uAw rfl (uAB rfl rfl rfl rfl rfl rfl rfl) ?_;refine uAa rfl rfl rfl (uAd rfl gU) ?_;refine uAa rfl rfl rfl (uAd rfl gU) ?_;refine uAf ?_;refine uAp ?_
     repeat (first | refine tR ?_ | refine bR ?_)
     refine uAs rfl ?_ trivial
     (rw [if_neg (by omega)]; rfl)
    ·try simp only [nn,uAi,Tk.rows_len] at hc4
     refine uAo ?_;refine uAe (uAb ?_);refine uAa rfl rfl rfl (uA1 rfl Tryz.underlying50 rfl gU) ?_;refine uAw rfl (uAB rfl rfl rfl rfl rfl rfl rfl) ?_;refine uAa rfl rfl rfl (uAd rfl gU) ?_;refine uAa rfl rfl rfl (uAd rfl gU) ?_;refine uAf ?_;refine uAp ?_
     repeat (first | refine tR ?_ | refine bR ?_)
     refine uAs rfl ?_ trivial
     (rw [if_pos (by omega)]; rfl)
   ·try simp only [nn,uAi,Tk.rows_len] at hc3
    have e3 : ¬(s.getD 0 0).toNat=34:=fun q=>hc3 (c3 q)
    rw [if_neg e3]
    refine uAe (uAb ?_);refine uAa rfl rfl rfl (uAk rfl rfl gU gU rfl) ?_;refine uAa rfl rfl rfl (uAd rfl gU) ?_;refine uAf ?_;refine uAm rfl (fun hc4=>?_) (fun hc4=>?_)
    ·try simp only [nn,uAi,Tk.rows_len] at hc4
     have e4 : symB (s.getD 0 0)=true:=by
      by_cases q2 : symB (s.getD 0 0)=true
      ·exact q2
      ·have := (c4 e1 e2 e3).2 q2; omega
     refine uAe (uAb ?_);refine uAa rfl rfl rfl (uAc rfl gU) ?_;refine uAa rfl rfl rfl (uBh (h':=1) rfl gU Tryz.underlying9 (fun _=>rfl) (fun _=>⟨_,_,_,rfl,gU,by first | omega | (simp at hh ⊢; omega)⟩) (fun hh=>by first | omega | (simp at hh ⊢; omega)) (fun hh=>by first | omega | (simp at hh ⊢; omega))) ?_;refine uAa rfl rfl rfl (uAc rfl gU) ?_;refine uAa rfl rfl rfl (uA1 rfl Tryz.underlying50 rfl gU) ?_;refine uAw rfl (uAB rfl rfl rfl rfl rfl rfl rfl) ?_;refine uAa rfl rfl rfl (uAd rfl gU) ?_;refine uAa rfl rfl rfl (uAd rfl gU) ?_;refine uAf ?_;refine uAp ?_
     repeat (first | refine tR ?_ | refine bR ?_)
     refine uAs rfl ?_ trivial
     (rw [if_pos e4]; rfl)
    ·try simp only [nn,uAi,Tk.rows_len] at hc4
     have e4 : ¬symB (s.getD 0 0)=true:=by
      intro q2
      have := (c4 e1 e2 e3).1 q2
      omega
     refine uAo ?_;refine uAe (uAb ?_);refine uAa rfl rfl rfl (uA1 rfl Tryz.underlying50 rfl gU) ?_;refine uAw rfl (uAB rfl rfl rfl rfl rfl rfl rfl) ?_;refine uAa rfl rfl rfl (uAd rfl gU) ?_;refine uAa rfl rfl rfl (uAd rfl gU) ?_;refine uAf ?_;refine uAp ?_
     repeat (first | refine tR ?_ | refine bR ?_)
     refine uAs rfl ?_ trivial
     (rw [if_neg e4]; rfl)
theorem uGC (s : List UInt8) (hs : s.length≤2000000) : Ctr sys 24 [xs s] [] (xss (lnsR s)) none []:=by
 refine uAy Tryz.func24 rfl rfl rfl rfl rfl rfl ?_;refine uAe (uAb ?_);refine uAw rfl (uBq (.inr rfl) rfl rfl) ?_;refine uAf ?_;refine uAe (uAb ?_);refine uAw rfl (uBq (.inr rfl) rfl rfl) ?_;refine uAf ?_;refine uAe (uAb ?_);refine uAa rfl rfl rfl (uAd rfl gU) ?_;refine uAf ?_;refine uAe ?_;refine uAe (uAb ?_);refine uAa rfl rfl rfl (uAd rfl gU) ?_;refine uAf ?_;refine uAt ?_;refine uAW (ι:=Nat × List UInt8 × List (List UInt8)) { t:=[(0,_,_)],bx:=[],ow:=[(.t 3,_)] } (fun p=>[(5,true,xi (p.1 : Int)),(4,true,xs p.2.1),(3,true,xss p.2.2)]) (fun p=>[]) (fun p=>p.1≤s.length∧p.2.1.length≤p.1∧p.2.2.length≤p.1∧lnsA (s.drop p.1) p.2.1 p.2.2=lnsR s) (fun p=>s.length - p.1) ((0,[],[])) (⟨by simp,by simp,by simp,rfl⟩) (uAj (⟨sx rfl,sx rfl,sx rfl,sx rfl,trivial⟩) trivial (⟨rfl,trivial⟩)) ?_
 intro p hok
 dsimp only [List.cons_append,List.nil_append] at *
 obtain ⟨k,line,out⟩:=p
 dsimp only at hok ⊢
 obtain ⟨hk,hl,ho,hi⟩:=hok
 refine uAe ?_;refine uAe (uAb ?_);refine uAa rfl rfl rfl (uAc rfl gU) ?_;refine uAa rfl rfl rfl (uAc rfl gU) ?_;refine uBm rfl rfl rfl rfl rfl gU (Tryz.underlying9) ?_ (fun hh=>by simp at hh); intro hlen;refine uAa rfl rfl rfl (uAk rfl rfl gU gU rfl) ?_;refine uAf ?_;refine uAm rfl (fun hc=>?_) (fun hc=>?_)
 ·try simp only [nn,uAi,Tk.rows_len] at hc
  rw [uBa (by omega),lnsA] at hi
  refine uAo ?_;refine uAe ?_;refine uAt ?_;refine uAe ?_;refine uAe (uAb ?_);refine uAa rfl rfl rfl (uAc rfl gU) ?_;refine uAa rfl rfl rfl (uAc rfl gU) ?_;refine uAa rfl rfl rfl (uAG (j:=k) rfl rfl gU gU Tryz.underlying9 (by first | omega | (simp at hh ⊢; omega)) (fun hh=>by first | omega | (simp at hh ⊢; omega))) ?_;refine uAa rfl rfl rfl (uAk rfl rfl gU gU rfl) ?_;refine uAf ?_;refine uAn (s:=⟨[(0,_,_),(3,_,_),(4,_,_),(5,_,_),(15,_,_)],[],[(.t 3,_)],[]⟩) (uAj (⟨sx rfl,sx rfl,sx rfl,sx rfl,sx rfl,trivial⟩) trivial (⟨rfl,trivial⟩)) ?_;refine uAm rfl (fun hc2=>?_) (fun hc2=>?_)
  ·try simp only [nn,uAi,Tk.rows_len] at hc2
   rw [if_pos (by omega)] at hi
   refine uAe (uAb ?_);refine uAw rfl (uAN (.inl rfl) rfl rfl rfl) ?_;refine uAa rfl rfl rfl (uAc rfl gU) ?_;refine uAQ (xs:=[_]) rfl rfl rfl rfl rfl rfl rfl rfl rfl gU rfl ?_;refine uAw rfl (uA2 rfl rfl rfl rfl rfl rfl rfl (by first | omega | (simp only [List.length_append,List.length_singleton,Tk.rows_len,uAi]; omega)) (by first | omega | (simp only [List.length_append,List.length_singleton,Tk.rows_len,uAi]; omega))) ?_;refine uAw rfl (uAN (.inr rfl) rfl rfl rfl) ?_;refine uAf ?_;refine uAn (s:=⟨[(0,_,_),(3,_,_),(5,_,_)],[],[(.t 3,_)],[]⟩) (uAj (⟨sx rfl,sx rfl,sx rfl,trivial⟩) trivial (⟨rfl,trivial⟩)) ?_;refine uAe (uAb ?_);refine uAa rfl rfl rfl (uAd rfl gU) ?_;refine uAf ?_;refine uAM ?_
   repeat (first | refine uAD ?_ | refine uAE ?_ | refine uAC rfl ?_)
   refine uAb ?_;refine uAa rfl rfl rfl (uAc rfl gU) ?_;refine uAa rfl rfl rfl (uAr rfl rfl gU gU rfl (IntWalk.i64_in _ (by omega))) ?_;refine uAa rfl rfl rfl (uAd rfl gU) ?_;refine uAf ?_;refine ⟨(k + 1,[],out++[line]),?_,?_,uAj (⟨⟨_,rfl,?_⟩,⟨⟨_,rfl,?_⟩,⟨⟨_,rfl,?_⟩,⟨sx rfl,trivial⟩⟩⟩⟩) trivial (⟨rfl,trivial⟩)⟩
   all_goals (first | rfl | omega | exact tx (uCb out line) | (refine ⟨?_,?_,?_,hi⟩ <;> (simp <;> omega)))
  ·try simp only [nn,uAi,Tk.rows_len] at hc2
   rw [if_neg (by omega)] at hi
   have e1 : (s.take (k + 1)).drop k=[s.getD k 0]:=by
    rw [uBa (by simp; omega),List.drop_of_length_le (by simp; omega),uGa _ _ (by omega)]
   refine uAo ?_;refine uAb ?_;refine uAa rfl rfl rfl (uAc rfl gU) ?_;refine uAa rfl rfl rfl (uAc rfl gU) ?_;refine uAa rfl rfl rfl (uAc rfl gU) ?_;refine uAa rfl rfl rfl (uAc rfl gU) ?_;refine uAa rfl rfl rfl (uAr rfl rfl gU gU rfl (IntWalk.i64_in _ (by omega))) ?_;refine uAa rfl rfl rfl (uBh (l:=k) (h':=(k + 1)) rfl gU Tryz.underlying9 (fun _=>⟨_,_,_,rfl,gU,by first | omega | (simp at hh ⊢; omega)⟩) (fun _=>⟨_,_,_,rfl,gU,by first | omega | (simp at hh ⊢; omega)⟩) (fun hh=>by first | omega | (simp at hh ⊢; omega)) (fun hh=>by first | omega | (simp at hh ⊢; omega))) ?_;refine uAa rfl rfl rfl (uAu rfl rfl gU gU (by first | omega | (simp only [List.length_append,List.length_drop,List.length_take]; omega))) ?_;refine uAa rfl rfl rfl (uAd rfl gU) ?_;refine uAf ?_;refine uAn (s:=⟨[(0,_,_),(3,_,_),(4,_,_),(5,_,_)],[],[(.t 3,_)],[]⟩) (uAj (⟨sx rfl,sx rfl,sx rfl,sx rfl,trivial⟩) trivial (⟨rfl,trivial⟩)) ?_;refine uAb ?_;refine uAa rfl rfl rfl (uAc rfl gU) ?_;refine uAa rfl rfl rfl (uAr rfl rfl gU gU rfl (IntWalk.i64_in _ (by omega))) ?_;refine uAa rfl rfl rfl (uAd rfl gU) ?_;refine uAf ?_;refine ⟨(k + 1,line++[s.getD k 0],out),?_,?_,uAj (⟨⟨_,rfl,?_⟩,⟨⟨_,rfl,?_⟩,⟨⟨_,rfl,?_⟩,⟨sx rfl,trivial⟩⟩⟩⟩) trivial (⟨rfl,trivial⟩)⟩
   all_goals (first | rfl | omega | exact tx (congrArg xs (by rw [e1])) | (refine ⟨?_,?_,?_,hi⟩ <;> (simp <;> omega)))
 ·try simp only [nn,uAi,Tk.rows_len] at hc
  rw [List.drop_of_length_le (by omega),lnsA] at hi
  refine uAM ?_
  repeat (first | refine uAD ?_ | refine uAE ?_ | refine uAC rfl ?_)
  refine uAe ?_;refine uAe (uAb ?_);refine uAa rfl rfl rfl (uAc rfl gU) ?_;refine uAa rfl rfl rfl (uAZ rfl rfl gU gU rfl) ?_;refine uAf ?_;refine uAn (s:=⟨[(3,_,_),(4,_,_),(28,_,_)],[],[(.t 3,_)],[]⟩) (uAj (⟨sx rfl,sx rfl,sx rfl,trivial⟩) trivial (⟨rfl,trivial⟩)) ?_;refine uAm rfl (fun hc2=>?_) (fun hc2=>?_)
  ·try simp only [nn,uAi,Tk.rows_len] at hc2
   rw [if_neg hc2] at hi
   refine uAb ?_;refine uAw rfl (uAN (.inl rfl) rfl rfl rfl) ?_;refine uAa rfl rfl rfl (uAc rfl gU) ?_;refine uAQ (xs:=[_]) rfl rfl rfl rfl rfl rfl rfl rfl rfl gU rfl ?_;refine uAw rfl (uA2 rfl rfl rfl rfl rfl rfl rfl (by first | omega | (simp only [List.length_append,List.length_singleton,Tk.rows_len,uAi]; omega)) (by first | omega | (simp only [List.length_append,List.length_singleton,Tk.rows_len,uAi]; omega))) ?_;refine uAw rfl (uAN (.inr rfl) rfl rfl rfl) ?_;refine uAf ?_;refine uAn (s:=⟨[(3,_,_)],[],[(.t 3,_)],[]⟩) (uAj (⟨sx rfl,trivial⟩) trivial (⟨rfl,trivial⟩)) ?_;refine uAe (uAb ?_);refine uAw rfl (uAN (.inl rfl) rfl rfl rfl) ?_;refine uAw rfl (uAN (.inr rfl) rfl rfl rfl) ?_;refine uAf ?_;refine uAp ?_
   repeat (first | refine tR ?_ | refine bR ?_)
   refine uAs rfl ?_ trivial
   (rw [← hi]; exact uCb out line)
  ·try simp only [nn,uAi,Tk.rows_len] at hc2
   rw [if_pos hc2] at hi
   refine uAo ?_;refine uAe (uAb ?_);refine uAw rfl (uAN (.inl rfl) rfl rfl rfl) ?_;refine uAw rfl (uAN (.inr rfl) rfl rfl rfl) ?_;refine uAf ?_;refine uAp ?_
   repeat (first | refine tR ?_ | refine bR ?_)
   refine uAs rfl ?_ trivial
   (rw [← hi]; rfl)
theorem uNi (s : List UInt8) : (uA9 s).length≤s.length:=by unfold uA9; rw [List.length_take]; omega
theorem uJm (s : List UInt8) (hs : s.length≤9223372036854775807) : Ctr sys 22 [xs s] [] (uPu (tokR s)) none []:=by
 have hsl:=uNQ s
 refine uAy Tryz.func22 rfl rfl rfl rfl rfl rfl ?_;refine uAe (uAb ?_);refine uAw rfl (uBq (.inr rfl) rfl rfl) ?_;refine uAa rfl rfl rfl (uAd rfl gU) ?_;refine uAa rfl rfl rfl (uAd rfl gU) ?_;refine uAf ?_;refine uAe ?_;refine uAe (uAb ?_);refine uAa rfl rfl rfl (uAc rfl gU) ?_;refine uBm rfl rfl rfl rfl rfl gU (Tryz.underlying9) ?_ (fun hh=>by simp at hh); intro hlen;refine uAa rfl rfl rfl (uAk rfl rfl gU gU rfl) ?_;refine uAf ?_;refine uAn (s:=⟨[(0,_,_),(14,_,_)],[],[],[]⟩) (uAj (⟨sx rfl,sx rfl,trivial⟩) trivial trivial) ?_;refine uAm rfl (fun hc=>?_) (fun hc=>?_)
 ·try simp only [nn,uAi,Tk.rows_len] at hc
  refine uAe (uAb ?_);refine uAw rfl (uBq (.inr rfl) rfl rfl) ?_;refine uAa rfl rfl rfl (uAd rfl gU) ?_;refine uAa rfl rfl rfl (uAd rfl gU) ?_;refine uAf ?_;refine uAp ?_
  repeat (first | refine tR ?_ | refine bR ?_)
  refine uAs rfl ?_ trivial
  (rw [tokR,if_pos (by omega)]; rfl)
 ·try simp only [nn,uAi,Tk.rows_len] at hc
  rw [tokR,if_neg (by omega)]
  refine uAo ?_;refine uAe (uAb ?_);refine uAw rfl (uBq (.inr rfl) rfl rfl) ?_;refine uAf ?_;refine uAe (uAb ?_);refine uAa rfl rfl rfl (uAc rfl gU) ?_;refine uAx rfl rfl rfl rfl rfl rfl gU gU (uGC _ (by omega)) rfl ?_;refine uAa rfl rfl rfl (uAd rfl gU) ?_;refine uAf ?_;refine uAe ?_;refine uAe (uAb ?_);refine uAa rfl rfl rfl (uAd rfl gU) ?_;refine uAf ?_;refine uAn (s:=⟨[(5,_,_),(6,_,_),(7,_,_)],[],[(.t 5,_)],[]⟩) (uAj (⟨sx rfl,sx rfl,sx rfl,trivial⟩) trivial (⟨rfl,trivial⟩)) ?_;refine uAt ?_;refine uAW (ι:=Nat × List Tk) { t:=[(6,_,_)],bx:=[],ow:=[(.t 5,_)] } (fun p=>[(7,true,xi (p.1 : Int)),(5,true,xts p.2)]) (fun p=>[]) (fun p=>p.1≤(lnsR s).length∧p.2.length≤70000 * p.1∧uFM ((lnsR s).drop p.1) (p.1 + 1) p.2=uFM (lnsR s) 1 []) (fun p=>(lnsR s).length - p.1) ((0,[])) (⟨by simp,by simp,rfl⟩) (uAj (⟨sx rfl,sx rfl,sx rfl,trivial⟩) trivial (⟨rfl,trivial⟩)) ?_
  intro p hok
  dsimp only [List.cons_append,List.nil_append] at *
  obtain ⟨k,out⟩:=p
  dsimp only at hok ⊢
  obtain ⟨hk,ho,hi⟩:=hok
  have hL:=uNC s k
  have hB:=uNi ((lnsR s).getD k [])
  refine uAe ?_;refine uAe (uAb ?_);refine uAa rfl rfl rfl (uAc rfl gU) ?_;refine uAa rfl rfl rfl (uAc rfl gU) ?_;refine uAL rfl rfl rfl rfl rfl gU rfl rfl ?_ (fun hh=>by simp at hh); intro hlen;refine uAa rfl rfl rfl (uAk rfl rfl gU gU rfl) ?_;refine uAf ?_;refine uAm rfl (fun hc2=>?_) (fun hc2=>?_)
  ·try simp only [nn,uAi,Tk.rows_len] at hc2
   rw [uHQ (d:=[]) (by omega),uFM] at hi
   refine uAo ?_;refine uAe ?_;refine uAt ?_;refine uAe (uAb ?_);refine uAa rfl rfl rfl (uAc rfl gU) ?_;refine uAa rfl rfl rfl (uAc rfl gU) ?_;refine uAa rfl rfl rfl (uAq rfl rfl gU gU rfl rfl rfl (fun hh=>uBW (by first | omega | (simp at hh ⊢; omega)))) ?_;refine uAa rfl rfl rfl (uAI rfl gU rfl rfl rfl) ?_;refine uAx rfl rfl rfl rfl rfl rfl gU gU (uME _ (by omega)) rfl ?_;refine uAa rfl rfl rfl (uAd rfl gU) ?_;refine uAf ?_;refine uAn (s:=⟨[(5,_,_),(6,_,_),(7,_,_),(8,_,_)],[],[(.t 5,_)],[]⟩) (uAj (⟨sx rfl,sx rfl,sx rfl,sx rfl,trivial⟩) trivial (⟨rfl,trivial⟩)) ?_;refine uAt ?_;refine uAW (ι:=List UInt8 × List Tk) { t:=[(6,_,_),(7,_,_)],bx:=[],ow:=[(.t 5,_)] } (fun q=>[(8,true,xs q.1),(5,true,xts q.2)]) (fun q=>[]) (fun q=>q.1.length≤(uA9 ((lnsR s).getD k [])).length∧q.2.length + q.1.length≤out.length + (uA9 ((lnsR s).getD k [])).length ∧ ∃ n,q.1.length < n∧uCO n q.1 ((k + 1 : Nat) : Int) q.2=uCO ((uA9 ((lnsR s).getD k [])).length + 1) (uA9 ((lnsR s).getD k [])) ((k + 1 : Nat) : Int) out) (fun q=>q.1.length) ((uA9 ((lnsR s).getD k []),out)) (⟨by simp,by simp,_,by dsimp only; omega,rfl⟩) (uAj (⟨sx rfl,sx rfl,sx rfl,sx rfl,trivial⟩) trivial (⟨rfl,trivial⟩)) ?_
   intro q hokq
   dsimp only [List.cons_append,List.nil_append] at *
   obtain ⟨l,o2⟩:=q
   dsimp only at hokq ⊢
   obtain ⟨hl,ho2,n,hn,hi2⟩:=hokq
   obtain ⟨n,rfl⟩ : ∃ m,n=m + 1:=⟨n - 1,by omega⟩
   refine uAe ?_;refine uAe (uAb ?_);refine uAa rfl rfl rfl (uAc rfl gU) ?_;refine uBm rfl rfl rfl rfl rfl gU (Tryz.underlying9) ?_ (fun hh=>by simp at hh); intro hlen;refine uAa rfl rfl rfl (uAk rfl rfl gU gU rfl) ?_;refine uAf ?_;refine uAm rfl (fun hc3=>?_) (fun hc3=>?_)
   ·try simp only [nn,uAi,Tk.rows_len] at hc3
    have hne : 0 < l.length:=by omega
    have hcons : l=l.getD 0 0 :: l.drop 1 := by have := uBa hne; rwa [List.drop_zero] at this
    have hx : uCO (n + 1) l ((k + 1 : Nat) : Int) o2=if uCu (l.getD 0 0)=true then uCO n (l.drop 1) ((k + 1 : Nat) : Int) o2 else if (uBx l ((k + 1 : Nat) : Int)).2.2≠0 then ([],(uBx l ((k + 1 : Nat) : Int)).2.2)
      else uCO n (l.drop (uBx l ((k + 1 : Nat) : Int)).2.1) ((k + 1 : Nat) : Int) (o2++[(uBx l ((k + 1 : Nat) : Int)).1]):=by
     generalize hg : l.getD 0 0=c at hcons ⊢
     generalize hg2 : l.drop 1=r at hcons ⊢
     subst hcons
     rw [uCO]
    rw [hx] at hi2
    refine uAo ?_;refine uAt ?_;refine uAe ?_;refine uAe (uAb ?_);refine uAa rfl rfl rfl (uAc rfl gU) ?_;refine uAa rfl rfl rfl (uAG (j:=0) rfl rfl gU gU Tryz.underlying9 (by first | omega | (simp at hh ⊢; omega)) (fun hh=>by first | omega | (simp at hh ⊢; omega))) ?_;refine uAx rfl rfl rfl rfl rfl rfl gU gU (uDv _ _ rfl) rfl ?_;refine uAa rfl rfl rfl (uAk rfl rfl gU gU rfl) ?_;refine uAf ?_;refine uAn (s:=⟨[(5,_,_),(6,_,_),(7,_,_),(8,_,_),(34,_,_)],[],[(.t 5,_)],[]⟩) (uAj (⟨sx rfl,sx rfl,sx rfl,sx rfl,sx rfl,trivial⟩) trivial (⟨rfl,trivial⟩)) ?_;refine uAm rfl (fun hc4=>?_) (fun hc4=>?_)
    ·try simp only [nn,uAi,Tk.rows_len] at hc4
     rw [if_pos ((uD1 _).2.2.1 hc4)] at hi2
     refine uAe (uAb ?_);refine uAa rfl rfl rfl (uAc rfl gU) ?_;refine uAa rfl rfl rfl (uBh (l:=1) rfl gU Tryz.underlying9 (fun _=>⟨_,_,_,rfl,gU,by first | omega | (simp at hh ⊢; omega)⟩) (fun _=>rfl) (fun hh=>by first | omega | (simp at hh ⊢; omega)) (fun hh=>by first | omega | (simp at hh ⊢; omega))) ?_;refine uAa rfl rfl rfl (uAd rfl gU) ?_;refine uAf ?_;refine uAM ?_
     repeat (first | refine uAD ?_ | refine uAE ?_ | refine uAC rfl ?_)
     refine ⟨(l.drop 1,o2),?_,?_,uAj (⟨⟨_,rfl,?_⟩,⟨⟨_,rfl,?_⟩,⟨sx rfl,sx rfl,trivial⟩⟩⟩) trivial (⟨rfl,trivial⟩)⟩
     all_goals first | rfl | exact tx (congrArg xs (by rw [List.take_length])) | (simp only [List.take_length,List.length_drop]; omega) | (refine ⟨?_,?_,n,?_,hi2⟩ <;> (simp only [List.length_drop]; omega))
    ·try simp only [nn,uAi,Tk.rows_len] at hc4
     rw [if_neg (fun q=>hc4 ((uD1 _).2.2.2 q))] at hi2
     have hfl:=uMz (s:=l) (k:=((k + 1 : Nat) : Int)) hne
     refine uAo ?_;refine uAe (uAb ?_);refine uAa rfl rfl rfl (uAc rfl gU) ?_;refine uAa rfl rfl rfl (uAc rfl gU) ?_;refine uAa rfl rfl rfl (uAr rfl rfl gU gU rfl (IntWalk.i64_in _ (by omega))) ?_;refine uAx rfl rfl rfl rfl rfl rfl gU gU (uK8 _ ((k + 1 : Nat) : Int) _ hne (by omega) (by omega) hc4) rfl ?_;refine uAa rfl rfl rfl (uAc rfl gU) ?_;refine uAa rfl rfl rfl (uAJ rfl gU rfl) ?_;refine uAa rfl rfl rfl (uAJ rfl gU rfl) ?_;refine uAa rfl rfl rfl (uAJ rfl gU rfl) ?_;refine uAw rfl (uAT rfl rfl rfl) ?_;refine uAw rfl (uAB rfl rfl rfl rfl rfl rfl rfl) ?_;refine uAa rfl rfl rfl (uAd rfl gU) ?_;refine uAa rfl rfl rfl (uAd rfl gU) ?_;refine uAf ?_;refine uAn (s:=⟨[(5,_,_),(6,_,_),(7,_,_),(8,_,_),(9,_,_),(10,_,_),(11,_,_)],[(.l 9,_)],[(.t 5,_)],[]⟩) (uAj (⟨sx rfl,sx rfl,sx rfl,sx rfl,sx rfl,sx rfl,sx rfl,trivial⟩) (⟨sx rfl,trivial⟩) (⟨rfl,trivial⟩)) ?_;refine uAe ?_;refine uAe (uAb ?_);refine uAa rfl rfl rfl (uAc rfl gU) ?_;refine uAa rfl rfl rfl (uAk rfl rfl gU gU rfl) ?_;refine uAf ?_;refine uAm rfl (fun hc5=>?_) (fun hc5=>?_)
     ·try simp only [nn,uAi,Tk.rows_len] at hc5
      rw [if_pos hc5] at hi2
      rw [← hi2,if_pos hc5] at hi
      refine uAe (uAb ?_);refine uAa rfl rfl rfl (uAc rfl gU) ?_;refine uAa rfl rfl rfl (uAr rfl rfl gU gU rfl (IntWalk.i64_in _ (by omega))) ?_;refine uAa rfl rfl rfl (uAc rfl gU) ?_;refine uAw rfl (uBq (.inr rfl) rfl rfl) ?_;refine uAa rfl rfl rfl (uAd rfl gU) ?_;refine uAa rfl rfl rfl (uAd rfl gU) ?_;refine uAf ?_;refine uAp ?_
      repeat (first | refine tR ?_ | refine bR ?_)
      refine uAs rfl ?_ trivial
      (rw [← hi]; rfl)
     ·try simp only [nn,uAi,Tk.rows_len] at hc5
      have h4:=hfl.2 hc5
      rw [if_neg (fun q=>q hc5)] at hi2
      refine uAo ?_;refine uAe (uAb ?_);refine uAw rfl (uAN (.inl rfl) rfl rfl rfl) ?_;refine uAa rfl rfl rfl (uAv rfl gU rfl rfl rfl rfl rfl) ?_;refine uAQ (xs:=[_]) rfl rfl rfl rfl rfl rfl rfl rfl rfl gU rfl ?_;refine uAw rfl (uA2 rfl rfl rfl rfl rfl rfl rfl (by first | omega | (simp only [List.length_append,List.length_singleton,Tk.rows_len,uAi]; omega)) (by first | omega | (simp only [List.length_append,List.length_singleton,Tk.rows_len,uAi]; omega))) ?_;refine uAw rfl (uAN (.inr rfl) rfl rfl rfl) ?_;refine uAf ?_;refine uAn (s:=⟨[(5,_,_),(6,_,_),(7,_,_),(8,_,_),(10,_,_)],[],[(.t 5,_)],[]⟩) (uAj (⟨sx rfl,sx rfl,sx rfl,sx rfl,sx rfl,trivial⟩) trivial (⟨rfl,trivial⟩)) ?_;refine uAb ?_;refine uAa rfl rfl rfl (uAc rfl gU) ?_;refine uAa rfl rfl rfl (uAc rfl gU) ?_;refine uAa rfl rfl rfl (uBh (l:=(uBx l ((k + 1 : Nat) : Int)).2.1) rfl gU Tryz.underlying9 (fun _=>⟨_,_,_,rfl,gU,by first | omega | (simp at hh ⊢; omega)⟩) (fun _=>rfl) (fun hh=>by first | omega | (simp at hh ⊢; omega)) (fun hh=>by first | omega | (simp at hh ⊢; omega))) ?_;refine uAa rfl rfl rfl (uAd rfl gU) ?_;refine uAf ?_;refine ⟨(l.drop (uBx l ((k + 1 : Nat) : Int)).2.1,o2++[(uBx l ((k + 1 : Nat) : Int)).1]),?_,?_,uAj (⟨⟨_,rfl,?_⟩,⟨⟨_,rfl,?_⟩,⟨sx rfl,sx rfl,trivial⟩⟩⟩) trivial (⟨rfl,trivial⟩)⟩
      all_goals first | rfl | exact tx (uKR o2 (uBx l ((k + 1 : Nat) : Int)).1) | exact tx (congrArg xs (by rw [List.take_length])) | (simp only [List.take_length,List.length_drop,List.length_append,List.length_singleton]; omega) | (refine ⟨?_,?_,n,?_,hi2⟩ <;> (simp only [List.length_drop,List.length_append,List.length_singleton]; omega))
   ·try simp only [nn,uAi,Tk.rows_len] at hc3
    have hnil : l=[]:=List.eq_nil_of_length_eq_zero (by omega)
    subst hnil
    rw [uCO] at hi2
    rw [← hi2] at hi
    refine uAM ?_
    repeat (first | refine uAD ?_ | refine uAE ?_ | refine uAC rfl ?_)
    refine uAb ?_;refine uAa rfl rfl rfl (uAc rfl gU) ?_;refine uAa rfl rfl rfl (uAr rfl rfl gU gU rfl (IntWalk.i64_in _ (by omega))) ?_;refine uAa rfl rfl rfl (uAd rfl gU) ?_;refine uAf ?_;refine ⟨(k + 1,o2),?_,?_,uAj (⟨⟨_,rfl,?_⟩,⟨⟨_,rfl,?_⟩,⟨sx rfl,trivial⟩⟩⟩) trivial (⟨rfl,trivial⟩)⟩
    all_goals first | rfl | omega | (refine ⟨by dsimp only; omega,by dsimp only; omega,?_⟩; exact hi)
  ·try simp only [nn,uAi,Tk.rows_len] at hc2
   rw [List.drop_of_length_le (by omega),uFM] at hi
   refine uAM ?_
   repeat (first | refine uAD ?_ | refine uAE ?_ | refine uAC rfl ?_)
   refine uAe (uAb ?_);refine uAw rfl (uAN (.inl rfl) rfl rfl rfl) ?_;refine uAw rfl (uAN (.inr rfl) rfl rfl rfl) ?_;refine uAa rfl rfl rfl (uAd rfl gU) ?_;refine uAa rfl rfl rfl (uAd rfl gU) ?_;refine uAf ?_;refine uAp ?_
   repeat (first | refine tR ?_ | refine bR ?_)
   refine uAs rfl ?_ trivial
   (rw [← hi]; rfl)
end Go.Proofs.YtnjjdbapadkomaaGreatDoor
namespace Go.Proofs.YtnjjdbapadkomaaGreatDoor
open Go Go.Abs
theorem uFK (s : List UInt8) (hs : s.length≤9223372036854775807) : Ctr sys 103 [xs s] [] (xb (uAH s)) none []:=by
 refine uAy Tryz.func103 rfl rfl rfl rfl rfl rfl ?_;refine uAe (uAb ?_);refine uAa rfl rfl rfl (uAd rfl gU) ?_;refine uAf ?_;refine uAe (uAb ?_);refine uAa rfl rfl rfl (uAc rfl gU) ?_;refine uAa rfl rfl rfl (uAZ rfl rfl gU gU rfl) ?_;refine uAa rfl rfl rfl (uAc rfl gU) ?_;refine uAa rfl rfl rfl (uAc rfl gU) ?_;refine uAa rfl rfl rfl (uAG (j:=0) rfl rfl (fun hh=>hh) gU Tryz.underlying9 (by first | omega | (simp at hh ⊢; exact List.length_pos_iff.2 hh) | (simp at hh ⊢; omega)) (fun hh=>by first | omega | (simp at hh ⊢; exact List.length_pos_iff.2 hh) | (simp at hh ⊢; omega))) ?_;refine uAx rfl rfl rfl rfl rfl rfl gU (fun hh=>gA ((fun hh=>hh) hh) (rfl)) (uEg _) rfl ?_;refine uAa rfl rfl rfl (uAR rfl rfl gU (fun _ hi=>gP rfl hi)) ?_;refine uAa rfl rfl rfl (uAc rfl gU) ?_;refine uAa rfl rfl rfl (uAc rfl gU) ?_;refine uAx rfl rfl rfl rfl rfl rfl gU (fun hh=>gA ((fun hh=>hh) hh) (rfl)) (uEk _ (by omega)) rfl ?_;refine uAa rfl rfl rfl (uAc rfl gU) ?_;refine uBk (s:=⟨[(0,_,_),(10,_,_),(12,_,_),(13,_,_)],[],[],[]⟩) (uAj (⟨sx rfl,sx rfl,sx rfl,sx rfl,trivial⟩) trivial trivial) ?_;refine uAa rfl rfl rfl (uBY rfl (fun hh=>hh) (Tryz.underlying9)) ?_;refine uAa rfl rfl rfl (uAk rfl rfl (fun hh=>hh) (fun hh=>hh) rfl) ?_;refine uAa rfl rfl rfl (uAR rfl rfl gU (fun _ hi=>gP rfl hi)) ?_
 refine uAa rfl rfl rfl (uAc rfl gU) ?_;refine uAa rfl rfl rfl (uAc rfl gU) ?_;refine uAa rfl rfl rfl (uBY rfl (fun hh=>hh) (Tryz.underlying9)) ?_;refine uAa rfl rfl rfl (uAk rfl rfl (fun hh=>hh) gU rfl) ?_;refine uAa rfl rfl rfl (uAR rfl rfl gU (fun _ hi=>gP rfl hi)) ?_;refine uAa rfl rfl rfl (uAd rfl gU) ?_;refine uAf ?_;refine uAp ?_
 repeat (first | refine tR ?_ | refine bR ?_)
 refine uAs rfl ?_ trivial;refine uCa ?_
 unfold uAH
 rw [Bool.eq_iff_iff]
 simp only [Bool.and_eq_true,decide_eq_true_eq,bne_iff_ne,ne_eq]
 constructor
 ·rintro ⟨⟨⟨a,b⟩,c⟩,d⟩
  refine ⟨⟨⟨?_,b⟩,?_⟩,?_⟩
  ·simpa using a
  ·have c':=c; simp at c'; omega
  ·omega
 ·rintro ⟨⟨⟨a,b⟩,c⟩,d⟩
  refine ⟨⟨⟨?_,b⟩,?_⟩,?_⟩
  ·simpa using a
  ·simp; omega
  ·omega
def lnsP (s : List UInt8) : List (List UInt8):=if (spl s).getD ((spl s).length - 1) []=[] then (spl s).take ((spl s).length - 1) else spl s
theorem uNy (l : List (List UInt8)) (k : Nat) : (strR l).take k=strR (l.take k):=by simp [strR,List.map_take]
theorem uKf (s : List UInt8) (hs : s.length≤2000000) : Ctr sys 36 [xs s] [] (xss (lnsP s)) none []:=by
 have h1:=uGX s
 have h2 : 0 < (spl s).length:=List.length_pos_iff.2 (uHZ s)
 refine uAy Tryz.func36 rfl rfl rfl rfl rfl rfl ?_;refine uAe (uAb ?_);refine uAa rfl rfl rfl (uAd rfl gU) ?_;refine uAf ?_;refine uAe (uAb ?_);refine uAa rfl rfl rfl (uAc rfl gU) ?_;refine uAx rfl rfl rfl rfl rfl rfl gU gU (uHz _ (by omega)) rfl ?_;refine uAa rfl rfl rfl (uAd rfl gU) ?_;refine uAf ?_;refine uAe ?_;refine uAe (uAb ?_);refine uAa rfl rfl rfl (uAc rfl gU) ?_;refine uAa rfl rfl rfl (uAc rfl gU) ?_;refine uAL rfl rfl rfl rfl rfl gU rfl rfl ?_ (fun hh=>by simp at hh); intro hlen;refine uAa rfl rfl rfl (uAr rfl rfl gU gU rfl (IntWalk.i64_in _ (by omega))) ?_;refine uAa rfl rfl rfl (uAq (j:=((spl s).length - 1)) rfl rfl gU gU rfl rfl (by first | omega | (rw [uAi]; omega) | (simp only [uAi]; omega) | (simp at hh ⊢; omega)) (fun hh=>uBW (by first | omega | (rw [uAi]; omega) | (simp only [uAi]; omega) | (simp at hh ⊢; omega)))) ?_;refine uAa rfl rfl rfl (uAI rfl gU rfl rfl rfl) ?_;refine uAa rfl rfl rfl (uAZ rfl rfl gU gU rfl) ?_;refine uAf ?_;refine uAn (s:=⟨[(3,_,_),(12,_,_)],[],[],[]⟩) (uAj (⟨sx rfl,sx rfl,trivial⟩) trivial trivial) ?_;refine uAm rfl (fun hc=>?_) (fun hc=>?_)
 ·try simp only [nn,uAi,Tk.rows_len] at hc
  refine uAb ?_;refine uAa rfl rfl rfl (uAc rfl gU) ?_;refine uAa rfl rfl rfl (uAc rfl gU) ?_;refine uAL rfl rfl rfl rfl rfl gU rfl rfl ?_ (fun hh=>by simp at hh); intro hlen;refine uAa rfl rfl rfl (uAr rfl rfl gU gU rfl (IntWalk.i64_in _ (by omega))) ?_;refine uAa rfl rfl rfl (uHh (h':=((spl s).length - 1)) rfl gU rfl rfl (fun _=>rfl) (fun _=>⟨_,_,_,rfl,gU,by first | omega | (rw [uAi]; omega) | (simp only [uAi]; omega) | (simp at hh ⊢; omega)⟩) (fun hh=>by first | omega | (rw [uAi]; omega) | (simp only [uAi]; omega) | (simp at hh ⊢; omega)) (fun hh=>by first | omega | (rw [uAi]; omega) | (simp only [uAi]; omega) | (simp at hh ⊢; omega))) ?_;refine uAa rfl rfl rfl (uAd rfl gU) ?_;refine uAf ?_;refine uAn (s:=⟨[(3,_,_)],[],[],[]⟩) (uAj (⟨sx rfl,trivial⟩) trivial trivial) ?_;refine uAe (uAb ?_);refine uAa rfl rfl rfl (uAc rfl gU) ?_;refine uAa rfl rfl rfl (uAd rfl gU) ?_;refine uAf ?_;refine uAp ?_
  repeat (first | refine tR ?_ | refine bR ?_)
  refine uAs rfl ?_ trivial
  (rw [lnsP,if_pos (by simpa using hc),xss,← uNy]; rfl)
 ·try simp only [nn,uAi,Tk.rows_len] at hc
  refine uAo ?_;refine uAe (uAb ?_);refine uAa rfl rfl rfl (uAc rfl gU) ?_;refine uAa rfl rfl rfl (uAd rfl gU) ?_;refine uAf ?_;refine uAp ?_
  repeat (first | refine tR ?_ | refine bR ?_)
  refine uAs rfl ?_ trivial
  (rw [lnsP,if_neg (by simpa using hc)]; rfl)
def uPo (a b : List (List UInt8)) : Bool:=decide (a=b)
theorem uFb (a b : List (List UInt8)) : Ctr sys 64 [xss a,xss b] [] (xb (uPo a b)) none []:=by
 have la:=uAi a
 have lb:=uAi b
 refine uAy Tryz.func64 rfl rfl rfl rfl rfl rfl ?_;refine uAe (uAb ?_);refine uAa rfl rfl rfl (uAd rfl gU) ?_;refine uAf ?_;refine uAe ?_;refine uAe (uAb ?_);refine uAa rfl rfl rfl (uAc rfl gU) ?_;refine uAL rfl rfl rfl rfl rfl gU rfl rfl ?_ (fun hh=>by simp at hh); intro hlen;refine uAa rfl rfl rfl (uAc rfl gU) ?_;refine uAL rfl rfl rfl rfl rfl gU rfl rfl ?_ (fun hh=>by simp at hh); intro hlen;refine uAa rfl rfl rfl (uAk rfl rfl gU gU rfl) ?_;refine uAf ?_;refine uAn (s:=⟨[(0,_,_),(1,_,_),(10,_,_)],[],[],[]⟩) (uAj (⟨sx rfl,sx rfl,sx rfl,trivial⟩) trivial trivial) ?_;refine uAm rfl (fun hc=>?_) (fun hc=>?_)
 ·try simp only [nn,uAi,Tk.rows_len] at hc
  refine uAe (uAb ?_);refine uAa rfl rfl rfl (uAd rfl gU) ?_;refine uAf ?_;refine uAp ?_
  repeat (first | refine tR ?_ | refine bR ?_)
  refine uAs rfl ?_ trivial;exact uCa (by symm; exact decide_eq_false (by intro e; rw [e] at hc; exact hc rfl))
 ·try simp only [nn,uAi,Tk.rows_len] at hc
  have hl : a.length=b.length:=by omega
  refine uAo ?_;refine uAe ?_;refine uAe (uAb ?_);refine uAa rfl rfl rfl (uAd rfl gU) ?_;refine uAf ?_;refine uAt ?_;refine uAW (ι:=Nat) { t:=[(0,_,_),(1,_,_)],bx:=[],ow:=[] } (fun k=>[(5,true,xi (k : Int))]) (fun k=>[]) (fun k=>k≤a.length ∧ ∀ j,j < k→a.getD j []=b.getD j []) (fun k=>a.length - k) (0) (by simp) (uAj (⟨sx rfl,sx rfl,sx rfl,trivial⟩) trivial trivial) ?_
  intro k hok
  dsimp only [List.cons_append,List.nil_append]
  obtain ⟨hk,hi⟩:=hok
  refine uAe ?_;refine uAe (uAb ?_);refine uAa rfl rfl rfl (uAc rfl gU) ?_;refine uAa rfl rfl rfl (uAc rfl gU) ?_;refine uAL rfl rfl rfl rfl rfl gU rfl rfl ?_ (fun hh=>by simp at hh); intro hlen;refine uAa rfl rfl rfl (uAk rfl rfl gU gU rfl) ?_;refine uAf ?_;refine uAm rfl (fun hc2=>?_) (fun hc2=>?_)
  ·try simp only [nn,uAi,Tk.rows_len] at hc2
   refine uAo ?_;refine uAe ?_;refine uAt ?_;refine uAe ?_;refine awp_drawn' (by kernel_rfl) ?_;refine uAh rfl rfl rfl rfl (uAc rfl gU) ?_;refine uAh rfl rfl rfl rfl (uAc rfl gU) ?_;refine uAh rfl rfl rfl rfl (uAq rfl rfl gU gU rfl rfl rfl (fun hh=>uBW (by first | omega | (rw [uAi]; omega) | (simp only [uAi]; omega) | (simp at hh ⊢; omega)))) ?_;refine uAh rfl rfl rfl rfl (uAI rfl gU rfl rfl rfl) ?_;refine uAh rfl rfl rfl rfl (uAc rfl gU) ?_;refine uAh rfl rfl rfl rfl (uAc rfl gU) ?_;refine uAh rfl rfl rfl rfl (uAq rfl rfl gU gU rfl rfl rfl (fun hh=>uBW (by first | omega | (rw [uAi]; omega) | (simp only [uAi]; omega) | (simp at hh ⊢; omega)))) ?_;refine uAh rfl rfl rfl rfl (uAI rfl gU rfl rfl rfl) ?_;refine uAh rfl rfl rfl rfl (uAZ rfl rfl gU gU rfl) ?_;refine uA8 (by kernel_rfl) ?_;refine uAn (s:=⟨[(0,_,_),(1,_,_),(5,_,_),(25,_,_)],[],[],[]⟩) (uAj (⟨sx rfl,sx rfl,sx rfl,sx rfl,trivial⟩) trivial trivial) ?_;refine uAm rfl (fun hc3=>?_) (fun hc3=>?_)
   ·try simp only [nn,uAi,Tk.rows_len] at hc3
    refine uAe (uAb ?_);refine uAa rfl rfl rfl (uAd rfl gU) ?_;refine uAf ?_;refine uAp ?_
    repeat (first | refine tR ?_ | refine bR ?_)
    refine uAs rfl ?_ trivial;exact uCa (by symm; exact decide_eq_false (by intro e; rw [e] at hc3; exact hc3 rfl))
   ·try simp only [nn,uAi,Tk.rows_len] at hc3
    refine uAo ?_;refine uAb ?_;refine uAa rfl rfl rfl (uAc rfl gU) ?_;refine uAa rfl rfl rfl (uAr rfl rfl gU gU rfl (IntWalk.i64_in _ (by omega))) ?_;refine uAa rfl rfl rfl (uAd rfl gU) ?_;refine uAf ?_;refine ⟨k + 1,?_,?_,uAj (⟨⟨_,rfl,?_⟩,⟨sx rfl,sx rfl,trivial⟩⟩) trivial trivial⟩
    all_goals (first | rfl | omega | (refine ⟨by omega,fun j hj=>?_⟩; by_cases q : j=k; { subst q; exact hc3 }; { exact hi j (by omega) }))
  ·try simp only [nn,uAi,Tk.rows_len] at hc2
   have he : a=b:=by
    apply List.ext_getElem?
    intro i
    by_cases hlt : i < a.length
    ·have := hi i (by omega)
     rw [List.getD_eq_getElem?_getD,List.getD_eq_getElem?_getD,List.getElem?_eq_getElem hlt,List.getElem?_eq_getElem (hl ▸ hlt)] at this
     rw [List.getElem?_eq_getElem hlt,List.getElem?_eq_getElem (hl ▸ hlt)]
     exact congrArg some this
    ·rw [List.getElem?_eq_none (by omega),List.getElem?_eq_none (by omega)]
   refine uAM ?_
   repeat (first | refine uAD ?_ | refine uAE ?_ | refine uAC rfl ?_)
   refine uAe (uAb ?_);refine uAa rfl rfl rfl (uAd rfl gU) ?_;refine uAf ?_;refine uAp ?_
   repeat (first | refine tR ?_ | refine bR ?_)
   refine uAs rfl ?_ trivial;exact uCa (by symm; exact decide_eq_true he)
theorem uFO (s : List UInt8) (hs : s.length≤9223372036854775807) : Ctr sys 53 [xs s] [] (xb (rnmE s)) none []:=by
 have hr:=Tk.rows_len (tokR s).1
 refine uAy Tryz.func53 rfl rfl rfl rfl rfl rfl ?_;refine uAe (uAb ?_);refine uAa rfl rfl rfl (uAd rfl gU) ?_;refine uAf ?_;refine uAe (uAb ?_);refine uAa rfl rfl rfl (uAc rfl gU) ?_;refine uAx rfl rfl rfl rfl rfl rfl gU gU (uJm _ (by omega)) rfl ?_;refine uAa rfl rfl rfl (uAc rfl gU) ?_;refine uAa rfl rfl rfl (uAJ rfl gU rfl) ?_;refine uAa rfl rfl rfl (uAJ rfl gU rfl) ?_;refine uAa rfl rfl rfl (uAJ rfl gU rfl) ?_;refine uAa rfl rfl rfl (uAd rfl gU) ?_;refine uAa rfl rfl rfl (uAd rfl gU) ?_;refine uAa rfl rfl rfl (uAd rfl gU) ?_;refine uAf ?_;refine uAn (s:=⟨[(0,_,_),(3,_,_),(5,_,_)],[],[],[]⟩) (uAj (⟨sx rfl,sx rfl,sx rfl,trivial⟩) trivial trivial) ?_;refine uAe (uAb ?_);refine uAa rfl rfl rfl (uAc rfl gU) ?_;refine uAa rfl rfl rfl (uAk rfl rfl gU gU rfl) ?_;refine uAa rfl rfl rfl (uAc rfl gU) ?_;refine uAa rfl rfl rfl (uAc rfl gU) ?_;refine uAa rfl rfl rfl (uAY rfl (fun hh=>hh) rfl rfl) ?_;refine uAa rfl rfl rfl (uAk rfl rfl (fun hh=>hh) gU rfl) ?_;refine uAa rfl rfl rfl (uAR rfl rfl gU (fun _ hi=>gP rfl hi)) ?_;refine uAa rfl rfl rfl (uAc rfl gU) ?_;refine uAa rfl rfl rfl (uAc rfl gU) ?_;refine uAa rfl rfl rfl (uAq (j:=0) rfl rfl (fun hh=>hh) gU rfl rfl (by first | omega | (simp at hh ⊢; omega) | (simp at hh; omega)) (fun hh=>Tk.rows_at (by first | omega | (simp at hh ⊢; omega) | (simp at hh; omega)))) ?_
 refine uAa rfl rfl rfl (uAP rfl (fun hh=>hh) rfl rfl) ?_;refine uAa rfl rfl rfl (uAI rfl (fun hh=>hh) rfl rfl rfl) ?_;refine uBk (s:=⟨[(0,_,_),(3,_,_),(19,_,_),(23,_,_)],[],[],[]⟩) (uAj (⟨sx rfl,sx rfl,sx rfl,sx rfl,trivial⟩) trivial trivial) ?_;refine uAa rfl rfl rfl (uAk rfl rfl (fun hh=>hh) gU rfl) ?_;refine uAa rfl rfl rfl (uAR rfl rfl gU (fun _ hi=>gP rfl hi)) ?_;refine uAa rfl rfl rfl (uAc rfl gU) ?_;refine uAa rfl rfl rfl (uAc rfl gU) ?_;refine uAa rfl rfl rfl (uAq (j:=0) rfl rfl (fun hh=>hh) gU rfl rfl (by first | omega | (simp at hh ⊢; omega) | (simp at hh; omega)) (fun hh=>Tk.rows_at (by first | omega | (simp at hh ⊢; omega) | (simp at hh; omega)))) ?_;refine uAa rfl rfl rfl (uAP rfl (fun hh=>hh) rfl rfl) ?_;refine uAa rfl rfl rfl (uAI rfl (fun hh=>hh) rfl rfl rfl) ?_;refine uAa rfl rfl rfl (uAc rfl gU) ?_;refine uAa rfl rfl rfl (uAZ rfl rfl (fun hh=>hh) (fun hh=>hh) rfl) ?_;refine uAa rfl rfl rfl (uAR rfl rfl gU (fun _ hi=>gP rfl hi)) ?_;refine uAa rfl rfl rfl (uAc rfl gU) ?_;refine uAa rfl rfl rfl (uAc rfl gU) ?_;refine uBk (s:=⟨[(34,_,_),(35,_,_)],[],[],[]⟩) (uAj (⟨sx rfl,sx rfl,trivial⟩) trivial trivial) ?_;refine uAx rfl rfl rfl rfl rfl rfl gU (fun hh=>gA ((fun hh=>hh) hh) (rfl)) (uGA _) rfl ?_
 refine uAa rfl rfl rfl (uAR rfl rfl gU (fun _ hi=>gP rfl hi)) ?_;refine uAa rfl rfl rfl (uAd rfl gU) ?_;refine uAf ?_;refine uAp ?_
 repeat (first | refine tR ?_ | refine bR ?_)
 refine uAs rfl ?_ trivial;refine uCa ?_
 unfold rnmE
 rw [Bool.eq_iff_iff]
 simp only [Bool.and_eq_true,decide_eq_true_eq,beq_iff_eq]
 constructor
 ·rintro ⟨⟨⟨⟨a,b⟩,c⟩,d⟩,e⟩
  exact ⟨⟨⟨⟨by simpa using a,by have := b; simp [Tk.rows_len] at this; omega⟩,by simpa using c⟩,by simpa using d⟩,e⟩
 ·rintro ⟨⟨⟨⟨a,b⟩,c⟩,d⟩,e⟩
  exact ⟨⟨⟨⟨by simpa using a,by simp [Tk.rows_len]; omega⟩,by simpa using c⟩,by simpa using d⟩,e⟩
theorem uEa (s : List UInt8) : Ctr sys 103 [xs s] [] (xb (uAH s)) none []:=uHi (uHV (uFK [] (by simp))) fun h=>uFK s h
theorem uLG (s : List UInt8) : Ctr sys 53 [xs s] [] (xb (rnmE s)) none []:=uHi (uHV (uFO [] (by simp))) fun h=>uFO s h
theorem uP7 (s : List UInt8) : rnmE s=uAH s:=by
 by_cases h : s.length≤65536
 ·exact (uNK s h).symm
 ·have h1 : uAH s=false:=by
   unfold uAH
   have : decide (s.length≤24)=false:=decide_eq_false (by omega)
   rw [this,Bool.and_false]
  have h2 : uCS s=false:=by
   unfold uCS
   have : decide (s.length≤24)=false:=decide_eq_false (by omega)
   simp only [this,Bool.and_false,Bool.false_and]
  rw [h1]
  unfold rnmE
  rw [h2,Bool.and_false]
end Go.Proofs.YtnjjdbapadkomaaGreatDoor
namespace Go.Proofs.YtnjjdbapadkomaaGreatDoor
open Go Go.Abs
theorem uCn {α : Type} {f : α→Int} {l : List α} {d : α} {k : Nat} {e : Int} (h : k < l.length) (hi : errs f (l.drop k)=e) : (f (l.getD k d)≠0→e=f (l.getD k d))∧(f (l.getD k d)=0→errs f (l.drop (k + 1))=e):=by
 rw [uHQ (d:=d) h,errs] at hi
 refine ⟨fun q=>?_,fun q=>?_⟩
 ·rw [if_pos q] at hi; exact hi.symm
 ·rw [if_neg (by rw [q]; simp)] at hi; exact hi
theorem uDs {α : Type} {f : α→Int} {l : List α} {k : Nat} {e : Int} (h : l.length≤k) (hi : errs f (l.drop k)=e) : e=0:=by
 rw [List.drop_of_length_le h] at hi; exact hi.symm
theorem uOL : ∀ (n : Nat) (t : T),t.size≤n→n≤2000000→Ctr sys 118 [xm t] [] (xi (rawE uAH t)) none []:=by
 intro n
 induction n with
 | zero=>intro t h; have := t.size_pos; omega
 | succ n ih =>
  intro t ht hn
  have hse:=t.size_eq
  have hrl:=T.rows_len t.kids
  have hls:=T.len_sizes t.kids
  have he:=uLV uAH t
  rw [uFq] at he
  refine uAy Tryz.func118 rfl rfl rfl rfl rfl rfl ?_;refine uAe (uAb ?_);refine uAw rfl (uAX rfl rfl rfl rfl) ?_;refine uAa rfl rfl rfl (uAd rfl gU) ?_;refine uAf ?_;refine uAe ?_;refine uAe (uAb ?_);refine uAa rfl rfl rfl (uAg rfl gU rfl rfl) ?_;refine uAa rfl rfl rfl (uAl rfl gU rfl rfl rfl rfl) ?_;refine uAa rfl rfl rfl (uAk rfl rfl gU gU rfl) ?_;refine uAa rfl rfl rfl (uAc rfl gU) ?_;refine uAa rfl rfl rfl (uAg rfl gU rfl rfl) ?_;refine uAa rfl rfl rfl (uAl rfl (fun hh=>hh) rfl rfl rfl rfl) ?_;refine uAa rfl rfl rfl (uAk rfl rfl (fun hh=>hh) gU rfl) ?_;refine uAa rfl rfl rfl (uAK rfl rfl gU (fun _ hi=>gP rfl hi)) ?_;refine uAf ?_;refine uAn (s:=⟨[(1,_,_),(13,_,_)],[(.l 1,_)],[],[]⟩) (uAj (⟨sx rfl,sx rfl,trivial⟩) (⟨sx rfl,trivial⟩) trivial) ?_;refine uAm rfl (fun hc=>?_) (fun hc=>?_)
  ·try simp only [nn,uAi,T.rows_len,Fs.rows_len,Sp.rows_len,Gl.rows_len] at hc
   refine uAe (uAb ?_);refine uAa rfl rfl rfl (uAd rfl gU) ?_;refine uAf ?_;refine uAp ?_
   repeat (first | refine tR ?_ | refine bR ?_)
   refine uAs rfl ?_ trivial
   (rw [he,if_pos (by grind)]; rfl)
  ·try simp only [nn,uAi,T.rows_len,Fs.rows_len,Sp.rows_len,Gl.rows_len] at hc
   rw [if_neg (by grind)] at he
   refine uAo ?_;refine uAe ?_;refine uAe (uAb ?_);refine uAa rfl rfl rfl (uAg rfl gU rfl rfl) ?_;refine uAa rfl rfl rfl (uAl rfl gU rfl rfl rfl rfl) ?_;refine uAx rfl rfl rfl rfl rfl rfl gU gU (uEa _) rfl ?_;refine uAa rfl rfl rfl (uAV rfl gU) ?_;refine uAf ?_;refine uAm rfl (fun hc2=>?_) (fun hc2=>?_)
   ·try simp only [nn,uAi,T.rows_len,Fs.rows_len,Sp.rows_len,Gl.rows_len] at hc2
    refine uAe (uAb ?_);refine uAa rfl rfl rfl (uAd rfl gU) ?_;refine uAf ?_;refine uAp ?_
    repeat (first | refine tR ?_ | refine bR ?_)
    refine uAs rfl ?_ trivial
    (rw [he,if_pos hc2]; rfl)
   ·try simp only [nn,uAi,T.rows_len,Fs.rows_len,Sp.rows_len,Gl.rows_len] at hc2
    rw [if_neg (by rw [hc2]; simp)] at he
    refine uAo ?_;refine uAe ?_;refine uAe (uAb ?_);refine uAa rfl rfl rfl (uAg rfl gU rfl rfl) ?_;refine uAa rfl rfl rfl (uAl rfl gU rfl rfl rfl rfl) ?_;refine uAL rfl rfl rfl rfl rfl gU rfl rfl ?_ (fun hh=>by simp at hh); intro hlen;refine uAa rfl rfl rfl (uAc rfl gU) ?_;refine uAf ?_;refine uAn (s:=⟨[(19,_,_),(20,_,_),(21,_,_)],[],[],[]⟩) (uAj (⟨sx rfl,sx rfl,sx rfl,trivial⟩) trivial trivial) ?_;refine uAt ?_;refine uAW (ι:=Nat) { t:=[(19,_,_),(20,_,_)],bx:=[],ow:=[] } (fun k=>[(21,true,xi (k : Int))]) (fun k=>[]) (fun k=>k≤t.kids.length∧errs (rawE uAH) (t.kids.drop k)=rawE uAH t) (fun k=>t.kids.length - k) (0) (⟨by simp,by rw [he]; rfl⟩) (uAj (⟨sx rfl,sx rfl,sx rfl,trivial⟩) trivial trivial) ?_
    intro k hok
    dsimp only [List.cons_append,List.nil_append]
    obtain ⟨hk,hi⟩:=hok
    refine uAe (uAb ?_);refine uAa rfl rfl rfl (uAk rfl rfl gU gU rfl) ?_;refine uAf ?_;refine uAe ?_;refine uAm rfl (fun hc3=>?_) (fun hc3=>?_)
    ·try simp only [nn,uAi,T.rows_len,Fs.rows_len,Sp.rows_len,Gl.rows_len] at hc3
     have hlt : k < t.kids.length:=by omega
     have h2:=T.getD_size hlt
     have hd:=uCn (d:=default) hlt hi
     refine uAo ?_;refine uAe ?_;refine uAt ?_;refine uAe (uAb ?_);refine uAa rfl rfl rfl (uAq rfl rfl gU gU rfl rfl rfl (fun hh=>T.rows_at (by first | omega | (simp at hh ⊢; omega)))) ?_;refine uAa rfl rfl rfl (uAF rfl gU rfl rfl rfl rfl) ?_;refine uAw rfl (uAT rfl rfl rfl) ?_;refine uAw rfl (uAB rfl rfl rfl rfl rfl rfl rfl) ?_;refine uAf ?_;refine uAe (uAb ?_);refine uAa rfl rfl rfl (uAv rfl gU rfl rfl rfl rfl rfl) ?_;refine uAx rfl rfl rfl rfl rfl rfl gU gU (ih (t.kids.getD k default) (by omega) (by omega)) rfl ?_;refine uAa rfl rfl rfl (uAd rfl gU) ?_;refine uAf ?_;refine uAn (s:=⟨[(5,_,_),(19,_,_),(20,_,_),(21,_,_)],[],[],[]⟩) (uAj (⟨sx rfl,sx rfl,sx rfl,sx rfl,trivial⟩) trivial trivial) ?_;refine uAe (uAb ?_);refine uAa rfl rfl rfl (uAc rfl gU) ?_;refine uAa rfl rfl rfl (uAk rfl rfl gU gU rfl) ?_;refine uAf ?_;refine uAm rfl (fun hc1=>?_) (fun hc1=>?_)
     ·try simp only [nn,uAi,T.rows_len,Fs.rows_len,Sp.rows_len,Gl.rows_len] at hc1
      refine uAe (uAb ?_);refine uAa rfl rfl rfl (uAc rfl gU) ?_;refine uAa rfl rfl rfl (uAd rfl gU) ?_;refine uAf ?_;refine uAp ?_
      repeat (first | refine tR ?_ | refine bR ?_)
      refine uAs rfl ?_ trivial;exact uBb (hd.1 (by assumption)).symm
     ·try simp only [nn,uAi,T.rows_len,Fs.rows_len,Sp.rows_len,Gl.rows_len] at hc1
      refine uAo ?_;refine uAb ?_;refine uAa rfl rfl rfl (uAr rfl rfl gU gU rfl (IntWalk.i64_in _ (by omega))) ?_;refine uAa rfl rfl rfl (uAc rfl gU) ?_;refine uAf ?_;refine ⟨k + 1,?_,?_,uAj (⟨⟨_,rfl,?_⟩,⟨sx rfl,sx rfl,trivial⟩⟩) trivial trivial⟩
      all_goals (first | rfl | omega | exact ⟨by omega,hd.2 (by assumption)⟩)
    ·try simp only [nn,uAi,T.rows_len,Fs.rows_len,Sp.rows_len,Gl.rows_len] at hc3
     refine uAM ?_
     repeat (first | refine uAD ?_ | refine uAE ?_ | refine uAC rfl ?_)
     refine uAe (uAb ?_);refine uAa rfl rfl rfl (uAd rfl gU) ?_;refine uAf ?_;refine uAp ?_
     repeat (first | refine tR ?_ | refine bR ?_)
     refine uAs rfl ?_ trivial;exact uBb (uDs (by omega) hi).symm
theorem uD9 (t : T) (ht : t.size≤900000) : Ctr sys 67 [xm t] [] (xi (uDd uAH t)) none []:=by
 refine uAy Tryz.func67 rfl rfl rfl rfl rfl rfl ?_;refine uAe (uAb ?_);refine uAw rfl (uAX rfl rfl rfl rfl) ?_;refine uAa rfl rfl rfl (uAd rfl gU) ?_;refine uAf ?_;refine uAe ?_;refine uAe (uAb ?_);refine uAa rfl rfl rfl (uAv rfl gU rfl rfl rfl rfl rfl) ?_;refine uAx rfl rfl rfl rfl rfl rfl gU gU (uKY _ (by omega)) rfl ?_;refine uAa rfl rfl rfl (uAd rfl gU) ?_;refine uAf ?_;refine uAn (s:=⟨[(1,_,_),(3,_,_)],[(.l 1,_)],[],[]⟩) (uAj (⟨sx rfl,sx rfl,trivial⟩) (⟨sx rfl,trivial⟩) trivial) ?_;refine uAe (uAb ?_);refine uAa rfl rfl rfl (uAc rfl gU) ?_;refine uAa rfl rfl rfl (uAk rfl rfl gU gU rfl) ?_;refine uAf ?_;refine uAm rfl (fun hc=>?_) (fun hc=>?_)
 ·try simp only [nn,uAi,T.rows_len,Fs.rows_len,Sp.rows_len,Gl.rows_len] at hc
  refine uAe (uAb ?_);refine uAa rfl rfl rfl (uAc rfl gU) ?_;refine uAa rfl rfl rfl (uAd rfl gU) ?_;refine uAf ?_;refine uAp ?_
  repeat (first | refine tR ?_ | refine bR ?_)
  refine uAs rfl ?_ trivial
  (rw [uDd,if_pos hc]; rfl)
 ·try simp only [nn,uAi,T.rows_len,Fs.rows_len,Sp.rows_len,Gl.rows_len] at hc
  refine uAo ?_;refine uAe (uAb ?_);refine uAa rfl rfl rfl (uAv rfl gU rfl rfl rfl rfl rfl) ?_;refine uAx rfl rfl rfl rfl rfl rfl gU gU (uOL _ _ (Nat.le_refl _) (by omega)) rfl ?_;refine uAa rfl rfl rfl (uAd rfl gU) ?_;refine uAf ?_;refine uAp ?_
  repeat (first | refine tR ?_ | refine bR ?_)
  refine uAs rfl ?_ trivial
  (rw [uDd,if_neg (by simpa using hc)]; rfl)
theorem uFy (t : T) (ht : t.size≤900000) : Ctr sys 51 [xm t] [] (xi (msgE uAH t)) none []:=by
 refine uAy Tryz.func51 rfl rfl rfl rfl rfl rfl ?_;refine uAe (uAb ?_);refine uAw rfl (uAX rfl rfl rfl rfl) ?_;refine uAa rfl rfl rfl (uAd rfl gU) ?_;refine uAf ?_;refine uAe ?_;refine uAe (uAb ?_);refine uAa rfl rfl rfl (uAv rfl gU rfl rfl rfl rfl rfl) ?_;refine uAx rfl rfl rfl rfl rfl rfl gU gU (uD9 _ (by omega)) rfl ?_;refine uAa rfl rfl rfl (uAd rfl gU) ?_;refine uAf ?_;refine uAn (s:=⟨[(1,_,_),(3,_,_)],[(.l 1,_)],[],[]⟩) (uAj (⟨sx rfl,sx rfl,trivial⟩) (⟨sx rfl,trivial⟩) trivial) ?_;refine uAe (uAb ?_);refine uAa rfl rfl rfl (uAc rfl gU) ?_;refine uAa rfl rfl rfl (uAk rfl rfl gU gU rfl) ?_;refine uAf ?_;refine uAm rfl (fun hc=>?_) (fun hc=>?_)
 ·try simp only [nn,uAi,T.rows_len,Fs.rows_len,Sp.rows_len,Gl.rows_len] at hc
  refine uAe (uAb ?_);refine uAa rfl rfl rfl (uAc rfl gU) ?_;refine uAa rfl rfl rfl (uAd rfl gU) ?_;refine uAf ?_;refine uAp ?_
  repeat (first | refine tR ?_ | refine bR ?_)
  refine uAs rfl ?_ trivial
  (rw [msgE,if_pos hc]; rfl)
 ·try simp only [nn,uAi,T.rows_len,Fs.rows_len,Sp.rows_len,Gl.rows_len] at hc
  refine uAo ?_;refine uAe ?_;refine uAe (uAb ?_);refine uAa rfl rfl rfl (uAv rfl gU rfl rfl rfl rfl rfl) ?_;refine uAx rfl rfl rfl rfl rfl rfl gU gU (uLH _ _ (Nat.le_refl _) (by omega)) rfl ?_;refine uAa rfl rfl rfl (uAk rfl rfl gU gU rfl) ?_;refine uAf ?_;refine uAn (s:=⟨[(11,_,_)],[],[],[]⟩) (uAj (⟨sx rfl,trivial⟩) trivial trivial) ?_;refine uAm rfl (fun hc2=>?_) (fun hc2=>?_)
  ·try simp only [nn,uAi,T.rows_len,Fs.rows_len,Sp.rows_len,Gl.rows_len] at hc2
   refine uAe (uAb ?_);refine uAa rfl rfl rfl (uAd rfl gU) ?_;refine uAf ?_;refine uAp ?_
   repeat (first | refine tR ?_ | refine bR ?_)
   refine uAs rfl ?_ trivial
   (rw [msgE,if_neg (by simpa using hc),if_pos (by omega)]; rfl)
  ·try simp only [nn,uAi,T.rows_len,Fs.rows_len,Sp.rows_len,Gl.rows_len] at hc2
   refine uAo ?_;refine uAe (uAb ?_);refine uAa rfl rfl rfl (uAd rfl gU) ?_;refine uAf ?_;refine uAp ?_
   repeat (first | refine tR ?_ | refine bR ?_)
   refine uAs rfl ?_ trivial
   (rw [msgE,if_neg (by simpa using hc),if_neg (by omega)]; rfl)
theorem uB9 (g : Gl) : Ctr sys 96 [xg g] [] (xb (uBo g.kind)) none []:=by
 refine uAy Tryz.func96 rfl rfl rfl rfl rfl rfl ?_;refine uAe (uAb ?_);refine uAw rfl (uAX rfl rfl rfl rfl) ?_;refine uAa rfl rfl rfl (uAd rfl gU) ?_;refine uAf ?_;refine uAe (uAb ?_);refine uAa rfl rfl rfl (uAg rfl gU rfl rfl) ?_;refine uAa rfl rfl rfl (uAl rfl gU rfl rfl rfl rfl) ?_;refine uAa rfl rfl rfl (uAk rfl rfl gU gU rfl) ?_;refine uAa rfl rfl rfl (uAc rfl gU) ?_;refine uAa rfl rfl rfl (uAg rfl gU rfl rfl) ?_;refine uAa rfl rfl rfl (uAl rfl (fun hh=>hh) rfl rfl rfl rfl) ?_;refine uAa rfl rfl rfl (uAk rfl rfl (fun hh=>hh) gU rfl) ?_;refine uAa rfl rfl rfl (uAK rfl rfl gU (fun _ hi=>gP rfl hi)) ?_;refine uAa rfl rfl rfl (uAd rfl gU) ?_;refine uAf ?_;refine uAp ?_
 repeat (first | refine tR ?_ | refine bR ?_)
 refine uAs rfl ?_ trivial
 rfl
theorem uC0 (s : List UInt8) : Ctr sys 50 [xs s] [] (xb (!uAH s)) none []:=by
 refine uAy Tryz.func50 rfl rfl rfl rfl rfl rfl ?_;refine uAe (uAb ?_);refine uAa rfl rfl rfl (uAd rfl gU) ?_;refine uAf ?_;refine uAe (uAb ?_);refine uAa rfl rfl rfl (uAc rfl gU) ?_;refine uAx rfl rfl rfl rfl rfl rfl gU gU (uEa _) rfl ?_;refine uAa rfl rfl rfl (uAV rfl gU) ?_;refine uAa rfl rfl rfl (uAd rfl gU) ?_;refine uAf ?_;refine uAp ?_
 repeat (first | refine tR ?_ | refine bR ?_)
 refine uAs rfl ?_ trivial
 rfl
theorem uMA (g : Gl) (hg : T.sizes g.data≤900000) : Ctr sys 52 [xg g] [] (xi (uB4 uAH g)) none []:=by
 have hls:=T.len_sizes g.data
 have hrl:=T.rows_len g.data
 refine uAy Tryz.func52 rfl rfl rfl rfl rfl rfl ?_;refine uAe (uAb ?_);refine uAw rfl (uAX rfl rfl rfl rfl) ?_;refine uAa rfl rfl rfl (uAd rfl gU) ?_;refine uAf ?_;refine uAe (uAb ?_);refine uAa rfl rfl rfl (uAg rfl gU rfl rfl) ?_;refine uAa rfl rfl rfl (uAl rfl gU rfl rfl rfl rfl) ?_;refine uAL rfl rfl rfl rfl rfl gU rfl rfl ?_ (fun hh=>by simp at hh); intro hlen;refine uAa rfl rfl rfl (uAd rfl gU) ?_;refine uAf ?_;refine uAn (s:=⟨[(1,_,_),(3,_,_)],[(.l 1,_)],[],[]⟩) (uAj (⟨sx rfl,sx rfl,trivial⟩) (⟨sx rfl,trivial⟩) trivial) ?_;refine uAe ?_;refine uAt ?_;refine uAe (uAb ?_);refine uAa rfl rfl rfl (uAg rfl gU rfl rfl) ?_;refine uAa rfl rfl rfl (uAl rfl gU rfl rfl rfl rfl) ?_;refine uAa rfl rfl rfl (uAk rfl rfl gU gU rfl) ?_;refine uAa rfl rfl rfl (uAc rfl gU) ?_;refine uAa rfl rfl rfl (uAg rfl gU rfl rfl) ?_;refine uAa rfl rfl rfl (uAl rfl (fun hh=>hh) rfl rfl rfl rfl) ?_;refine uAa rfl rfl rfl (uAk rfl rfl (fun hh=>hh) gU rfl) ?_;refine uAa rfl rfl rfl (uAK rfl rfl gU (fun _ hi=>gP rfl hi)) ?_;refine uAa rfl rfl rfl (uAd rfl gU) ?_;refine uAf ?_;refine uAn (s:=⟨[(1,_,_),(3,_,_),(10,_,_)],[(.l 1,_)],[],[]⟩) (uAj (⟨sx rfl,sx rfl,sx rfl,trivial⟩) (⟨sx rfl,trivial⟩) trivial) ?_
 refine uAm rfl (fun hc=>?_) (fun hc=>?_)
 ·try simp only [nn,uAi,T.rows_len,Fs.rows_len,Sp.rows_len,Gl.rows_len] at hc
  refine uAe (uAb ?_);refine uAa rfl rfl rfl (uAd rfl gU) ?_;refine uAf ?_;refine uAp ?_
  repeat (first | refine tR ?_ | refine bR ?_)
  refine uAs rfl ?_ trivial
  (rw [uB4,if_pos (by grind)]; rfl)
 ·try simp only [nn,uAi,T.rows_len,Fs.rows_len,Sp.rows_len,Gl.rows_len] at hc
  refine uAe (uAb ?_);refine uAa rfl rfl rfl (uAg rfl gU rfl rfl) ?_;refine uAa rfl rfl rfl (uAl rfl gU rfl rfl rfl rfl) ?_;refine uAx rfl rfl rfl rfl rfl rfl gU gU (uEa _) rfl ?_;refine uAa rfl rfl rfl (uAV rfl gU) ?_;refine uAa rfl rfl rfl (uAc rfl gU) ?_;refine uAa rfl rfl rfl (uAv rfl gU rfl rfl rfl rfl rfl) ?_;refine uAx rfl rfl rfl rfl rfl rfl gU (fun hh=>gA ((fun hh=>hh) hh) (rfl)) (uB9 _) rfl ?_;refine uAa rfl rfl rfl (uAc rfl (fun hh=>hh)) ?_;refine uAa rfl rfl rfl (uAg rfl gU rfl rfl) ?_;refine uAa rfl rfl rfl (uAl rfl (fun hh=>hh) rfl rfl rfl rfl) ?_;refine uAx rfl rfl rfl rfl rfl rfl gU (fun hh=>gA ((fun hh=>hh) hh) (rfl)) (uEa _) rfl ?_;refine uAa rfl rfl rfl (uAV rfl (fun hh=>hh)) ?_;refine uBk (s:=⟨[(1,_,_),(3,_,_),(24,_,_),(27,_,_),(31,_,_)],[(.l 1,_)],[],[]⟩) (uAj (⟨sx rfl,sx rfl,sx rfl,sx rfl,sx rfl,trivial⟩) (⟨sx rfl,trivial⟩) trivial) ?_;refine uAa rfl rfl rfl (uAR rfl rfl (fun hh=>hh) (fun hh hi=>gP hh hi)) ?_;refine uAa rfl rfl rfl (uAK rfl rfl gU (fun _ hi=>gP rfl hi)) ?_;refine uAa rfl rfl rfl (uAd rfl gU) ?_;refine uAf ?_;refine uAm rfl (fun hc2=>?_) (fun hc2=>?_)
  ·try simp only [nn,uAi,T.rows_len,Fs.rows_len,Sp.rows_len,Gl.rows_len] at hc2
   refine uAe (uAb ?_);refine uAa rfl rfl rfl (uAd rfl gU) ?_;refine uAf ?_;refine uAp ?_
   repeat (first | refine tR ?_ | refine bR ?_)
   refine uAs rfl ?_ trivial
   (rw [uB4,if_neg (by grind),if_pos (by grind)]; rfl)
  ·try simp only [nn,uAi,T.rows_len,Fs.rows_len,Sp.rows_len,Gl.rows_len] at hc2
   refine uAe (uAb ?_);refine uAa rfl rfl rfl (uAv rfl gU rfl rfl rfl rfl rfl) ?_;refine uAx rfl rfl rfl rfl rfl rfl gU gU (uB9 _) rfl ?_;refine uAa rfl rfl rfl (uAV rfl gU) ?_;refine uAa rfl rfl rfl (uAc rfl gU) ?_;refine uAa rfl rfl rfl (uAg rfl gU rfl rfl) ?_;refine uAa rfl rfl rfl (uAl rfl (fun hh=>hh) rfl rfl rfl rfl) ?_;refine uAa rfl rfl rfl (uAZ rfl rfl (fun hh=>hh) gU rfl) ?_;refine uAa rfl rfl rfl (uAR rfl rfl gU (fun _ hi=>gP rfl hi)) ?_;refine uAa rfl rfl rfl (uAd rfl gU) ?_;refine uAf ?_;refine uAn (s:=⟨[(1,_,_),(3,_,_),(34,_,_)],[(.l 1,_)],[],[]⟩) (uAj (⟨sx rfl,sx rfl,sx rfl,trivial⟩) (⟨sx rfl,trivial⟩) trivial) ?_;refine uAm rfl (fun hc3=>?_) (fun hc3=>?_)
   ·try simp only [nn,uAi,T.rows_len,Fs.rows_len,Sp.rows_len,Gl.rows_len] at hc3
    refine uAe (uAb ?_);refine uAa rfl rfl rfl (uAd rfl gU) ?_;refine uAf ?_;refine uAp ?_
    repeat (first | refine tR ?_ | refine bR ?_)
    refine uAs rfl ?_ trivial
    (rw [uB4,if_neg (by grind),if_neg (by grind),if_pos (by grind)]; rfl)
   ·try simp only [nn,uAi,T.rows_len,Fs.rows_len,Sp.rows_len,Gl.rows_len] at hc3
    refine uAe (uAb ?_);refine uAa rfl rfl rfl (uAv rfl gU rfl rfl rfl rfl rfl) ?_;refine uAx rfl rfl rfl rfl rfl rfl gU gU (uB9 _) rfl ?_;refine uAa rfl rfl rfl (uAc rfl gU) ?_;refine uAa rfl rfl rfl (uAc rfl gU) ?_;refine uAa rfl rfl rfl (uAk rfl rfl (fun hh=>hh) gU rfl) ?_;refine uAa rfl rfl rfl (uAc rfl (fun hh=>hh)) ?_;refine uAa rfl rfl rfl (uAc rfl gU) ?_;refine uAa rfl rfl rfl (uAk rfl rfl (fun hh=>hh) gU rfl) ?_;refine uAa rfl rfl rfl (uAK rfl rfl (fun hh=>hh) (fun hh hi=>gP hh hi)) ?_;refine uAa rfl rfl rfl (uAR rfl rfl gU (fun _ hi=>gP rfl hi)) ?_;refine uAa rfl rfl rfl (uAc rfl gU) ?_;refine uAa rfl rfl rfl (uAv rfl gU rfl rfl rfl rfl rfl) ?_;refine uBk (s:=⟨[(1,_,_),(3,_,_),(54,_,_),(55,_,_)],[(.l 1,_)],[],[]⟩) (uAj (⟨sx rfl,sx rfl,sx rfl,sx rfl,trivial⟩) (⟨sx rfl,trivial⟩) trivial) ?_;refine uAx rfl rfl rfl rfl rfl rfl gU (fun hh=>gA ((fun hh=>hh) hh) (rfl)) (uB9 _) rfl ?_;refine uAa rfl rfl rfl (uAV rfl (fun hh=>hh)) ?_;refine uAa rfl rfl rfl (uAc rfl (fun hh=>hh)) ?_;refine uAa rfl rfl rfl (uAc rfl gU) ?_;refine uAa rfl rfl rfl (uAk rfl rfl (fun hh=>hh) gU rfl) ?_;refine uAa rfl rfl rfl (uAR rfl rfl (fun hh=>hh) (fun hh hi=>gP hh hi)) ?_;refine uAa rfl rfl rfl (uAK rfl rfl gU (fun _ hi=>gP rfl hi)) ?_
    refine uAa rfl rfl rfl (uAd rfl gU) ?_;refine uAf ?_;refine uAn (s:=⟨[(1,_,_),(43,_,_)],[(.l 1,_)],[],[]⟩) (uAj (⟨sx rfl,sx rfl,trivial⟩) (⟨sx rfl,trivial⟩) trivial) ?_;refine uAm rfl (fun hc4=>?_) (fun hc4=>?_)
    ·try simp only [nn,uAi,T.rows_len,Fs.rows_len,Sp.rows_len,Gl.rows_len] at hc4
     refine uAe (uAb ?_);refine uAa rfl rfl rfl (uAd rfl gU) ?_;refine uAf ?_;refine uAp ?_
     repeat (first | refine tR ?_ | refine bR ?_)
     refine uAs rfl ?_ trivial
     (rw [uB4,if_neg (by grind),if_neg (by grind),if_neg (by grind),if_pos (by grind)]; rfl)
    ·try simp only [nn,uAi,T.rows_len,Fs.rows_len,Sp.rows_len,Gl.rows_len] at hc4
     have he : uB4 uAH g=errs (msgE uAH) g.data:=by rw [uB4,if_neg (by grind),if_neg (by grind),if_neg (by grind),if_neg (by grind)]
     refine uAo ?_;refine uAe ?_;refine uAe (uAb ?_);refine uAa rfl rfl rfl (uAg rfl gU rfl rfl) ?_;refine uAa rfl rfl rfl (uAl rfl gU rfl rfl rfl rfl) ?_;refine uAL rfl rfl rfl rfl rfl gU rfl rfl ?_ (fun hh=>by simp at hh); intro hlen;refine uAa rfl rfl rfl (uAc rfl gU) ?_;refine uAf ?_;refine uAt ?_;refine uAW (ι:=Nat) { t:=[(64,_,_),(65,_,_)],bx:=[],ow:=[] } (fun k=>[(66,true,xi (k : Int))]) (fun k=>[]) (fun k=>k≤g.data.length∧errs (msgE uAH) (g.data.drop k)=uB4 uAH g) (fun k=>g.data.length - k) (0) (⟨by simp,by rw [he]; rfl⟩) (uAj (⟨sx rfl,sx rfl,sx rfl,trivial⟩) trivial trivial) ?_
     intro k hok
     dsimp only [List.cons_append,List.nil_append]
     obtain ⟨hk,hi⟩:=hok
     refine uAe (uAb ?_);refine uAa rfl rfl rfl (uAk rfl rfl gU gU rfl) ?_;refine uAf ?_;refine uAe ?_;refine uAm rfl (fun hc5=>?_) (fun hc5=>?_)
     ·try simp only [nn,uAi,T.rows_len,Fs.rows_len,Sp.rows_len,Gl.rows_len] at hc5
      have hlt : k < g.data.length:=by omega
      have h2:=T.getD_size hlt
      have hd:=uCn (d:=default) hlt hi
      refine uAo ?_;refine uAe ?_;refine uAt ?_;refine uAe (uAb ?_);refine uAa rfl rfl rfl (uAq rfl rfl gU gU rfl rfl rfl (fun hh=>T.rows_at (by first | omega | (simp at hh ⊢; omega)))) ?_;refine uAa rfl rfl rfl (uAF rfl gU rfl rfl rfl rfl) ?_;refine uAw rfl (uAT rfl rfl rfl) ?_;refine uAw rfl (uAB rfl rfl rfl rfl rfl rfl rfl) ?_;refine uAf ?_;refine uAe (uAb ?_);refine uAa rfl rfl rfl (uAv rfl gU rfl rfl rfl rfl rfl) ?_;refine uAx rfl rfl rfl rfl rfl rfl gU gU (uFy _ (by omega)) rfl ?_;refine uAa rfl rfl rfl (uAd rfl gU) ?_;refine uAf ?_;refine uAn (s:=⟨[(6,_,_),(64,_,_),(65,_,_),(66,_,_)],[],[],[]⟩) (uAj (⟨sx rfl,sx rfl,sx rfl,sx rfl,trivial⟩) trivial trivial) ?_;refine uAe (uAb ?_);refine uAa rfl rfl rfl (uAc rfl gU) ?_;refine uAa rfl rfl rfl (uAk rfl rfl gU gU rfl) ?_;refine uAf ?_;refine uAm rfl (fun hc1=>?_) (fun hc1=>?_)
      ·try simp only [nn,uAi,T.rows_len,Fs.rows_len,Sp.rows_len,Gl.rows_len] at hc1
       refine uAe (uAb ?_);refine uAa rfl rfl rfl (uAc rfl gU) ?_;refine uAa rfl rfl rfl (uAd rfl gU) ?_;refine uAf ?_;refine uAp ?_
       repeat (first | refine tR ?_ | refine bR ?_)
       refine uAs rfl ?_ trivial;exact uBb (hd.1 (by assumption)).symm
      ·try simp only [nn,uAi,T.rows_len,Fs.rows_len,Sp.rows_len,Gl.rows_len] at hc1
       refine uAo ?_;refine uAb ?_;refine uAa rfl rfl rfl (uAr rfl rfl gU gU rfl (IntWalk.i64_in _ (by omega))) ?_;refine uAa rfl rfl rfl (uAc rfl gU) ?_;refine uAf ?_;refine ⟨k + 1,?_,?_,uAj (⟨⟨_,rfl,?_⟩,⟨sx rfl,sx rfl,trivial⟩⟩) trivial trivial⟩
       all_goals (first | rfl | omega | exact ⟨by omega,hd.2 (by assumption)⟩)
     ·try simp only [nn,uAi,T.rows_len,Fs.rows_len,Sp.rows_len,Gl.rows_len] at hc5
      refine uAM ?_
      repeat (first | refine uAD ?_ | refine uAE ?_ | refine uAC rfl ?_)
      refine uAe (uAb ?_);refine uAa rfl rfl rfl (uAd rfl gU) ?_;refine uAf ?_;refine uAp ?_
      repeat (first | refine tR ?_ | refine bR ?_)
      refine uAs rfl ?_ trivial;exact uBb (uDs (by omega) hi).symm
end Go.Proofs.YtnjjdbapadkomaaGreatDoor
namespace Go.Proofs.YtnjjdbapadkomaaGreatDoor
open Go Go.Abs
def idxF (p : List UInt8→Bool) : List (List UInt8)→Int
 | []=>-1
 | x :: r=>if p x=true then 0 else if idxF p r < 0 then -1 else idxF p r + 1
theorem uIT {p : List UInt8→Bool} {l : List (List UInt8)} {k : Nat} {e : Int} (h : k < l.length) (hi : (if idxF p (l.drop k) < 0 then -1 else idxF p (l.drop k) + k)=e) :
  (p (l.getD k [])=true→e=k)∧(p (l.getD k [])=false→(if idxF p (l.drop (k + 1)) < 0 then -1 else idxF p (l.drop (k + 1)) + (k + 1 : Nat))=e):=by
 rw [uHQ (d:=[]) h,idxF] at hi
 refine ⟨fun q=>?_,fun q=>?_⟩
 ·rw [if_pos q] at hi; simp at hi; omega
 ·rw [q] at hi
  simp only [Bool.false_eq_true,if_false] at hi
  generalize idxF p (List.drop (k + 1) l)=x at hi ⊢
  rw [← hi]
  by_cases hx : x < 0
  ·rw [if_pos hx,if_pos hx]; simp
  ·rw [if_neg hx,if_neg hx,if_neg (by omega)]; push_cast; omega
theorem uBv {α : Type} {l : List α} {d : α} {k : Nat} (h : k < l.length) : l.getD k d ∈ l:=by
 rw [List.getD_eq_getElem?_getD,List.getElem?_eq_getElem h]
 exact List.getElem_mem h
theorem uKt {p : List UInt8→Bool} {l : List (List UInt8)} {k : Nat} {e : Int} (h : l.length≤k) (hi : (if idxF p (l.drop k) < 0 then -1 else idxF p (l.drop k) + k)=e) : e = -1:=by
 rw [List.drop_of_length_le h] at hi; simpa [idxF] using hi.symm
theorem uG2 (p : List UInt8→Bool) (l : List (List UInt8)) : (if idxF p (l.drop 0) < 0 then -1 else idxF p (l.drop 0) + ((0 : Nat) : Int))=if idxF p l < 0 then -1 else idxF p l:=by simp
theorem uMr (p : List UInt8→Bool) : ∀ l : List (List UInt8),-1≤idxF p l
 | []=>by simp [idxF]
 | x :: r=>by have := uMr p r; rw [idxF]; split; omega; split <;> omega
theorem uIA (p : List UInt8→Bool) (l : List (List UInt8)) : (if idxF p l < 0 then -1 else idxF p l)=idxF p l := by have := uMr p l; split <;> omega
theorem uHa (p : List UInt8→Bool) : ∀ l : List (List UInt8),decide (idxF p l ≥ 0)=l.any p
 | []=>by simp [idxF]
 | x :: r=>by
  have ih:=uHa p r
  rw [idxF,List.any_cons,← ih]
  by_cases h : p x=true
  ·rw [if_pos h,h]; simp
  ·rw [if_neg h]
   have h' : p x=false:=by simpa using h
   rw [h',Bool.false_or]
   split
   ·rename_i h1; simp; omega
   ·rename_i h1; rw [Bool.eq_iff_iff]; simp; omega
theorem uIi (l : List (List UInt8)) : Ctr sys 140 [xss l, .fn 50 []] [] (xi (idxF (fun s=>!uAH s) l)) none []:=by
 have hrl:=uAi l
 refine uAy Tryz.func140 rfl rfl rfl rfl rfl rfl ?_;refine uAe (uAb ?_);refine uAa rfl rfl rfl (uAd rfl gU) ?_;refine uAf ?_;refine uAe ?_;refine uAe (uAb ?_);refine uAa rfl rfl rfl (uAc rfl gU) ?_;refine uAL rfl rfl rfl rfl rfl gU rfl rfl ?_ (fun hh=>by simp at hh); intro hlen;refine uAa rfl rfl rfl (uAc rfl gU) ?_;refine uAf ?_;refine uAt ?_;refine uAW (ι:=Nat) { t:=[(0,_,_),(1,_,_),(7,_,_)],bx:=[],ow:=[] } (fun k=>[(8,true,xi (k : Int))]) (fun k=>[]) (fun k=>k≤l.length∧(if idxF (fun s=>!uAH s) (l.drop k) < 0 then -1 else idxF (fun s=>!uAH s) (l.drop k) + k)=idxF (fun s=>!uAH s) l) (fun k=>l.length - k) (0) (⟨by simp,(uG2 _ _).trans (uIA _ _)⟩) (uAj (⟨sx rfl,sx rfl,sx rfl,sx rfl,trivial⟩) trivial trivial) ?_
 intro k hok
 dsimp only [List.cons_append,List.nil_append]
 obtain ⟨hk,hi⟩:=hok
 refine uAe (uAb ?_);refine uAa rfl rfl rfl (uAk rfl rfl gU gU rfl) ?_;refine uAf ?_;refine uAe ?_;refine uAm rfl (fun hc=>?_) (fun hc=>?_)
 ·try simp only [nn,uAi,T.rows_len,Fs.rows_len,Sp.rows_len,Gl.rows_len] at hc
  have hd:=uIT (k:=k) (l:=l) (by omega) hi
  refine uAo ?_;refine uAe ?_;refine uAt ?_;refine uAe (uAb ?_);refine uAa rfl rfl rfl (uAc rfl gU) ?_;refine uAa rfl rfl rfl (uAd rfl gU) ?_;refine uAf ?_;refine uAe (uAb ?_);refine uAa rfl rfl rfl (uAc rfl gU) ?_;refine uAa rfl rfl rfl (uAc rfl gU) ?_;refine uAa rfl rfl rfl (uAc rfl gU) ?_;refine uAa rfl rfl rfl (uAq rfl rfl gU gU rfl rfl rfl (fun hh=>uBW (by first | omega | (simp at hh ⊢; omega)))) ?_;refine uAa rfl rfl rfl (uAI rfl gU rfl rfl rfl) ?_;refine uAx rfl rfl rfl rfl rfl rfl gU gU (uC0 _) rfl ?_;refine uAf ?_;refine uAn (s:=⟨[(0,_,_),(1,_,_),(5,_,_),(7,_,_),(8,_,_),(16,_,_)],[],[],[]⟩) (uAj (⟨sx rfl,sx rfl,sx rfl,sx rfl,sx rfl,sx rfl,trivial⟩) trivial trivial) ?_;refine uAm rfl (fun hc2=>?_) (fun hc2=>?_)
  ·try simp only [nn,uAi,T.rows_len,Fs.rows_len,Sp.rows_len,Gl.rows_len] at hc2
   refine uAe (uAb ?_);refine uAa rfl rfl rfl (uAc rfl gU) ?_;refine uAa rfl rfl rfl (uAd rfl gU) ?_;refine uAf ?_;refine uAp ?_
   repeat (first | refine tR ?_ | refine bR ?_)
   refine uAs rfl ?_ trivial;exact uBb (hd.1 (by simpa using hc2)).symm
  ·try simp only [nn,uAi,T.rows_len,Fs.rows_len,Sp.rows_len,Gl.rows_len] at hc2
   refine uAo ?_;refine uAb ?_;refine uAa rfl rfl rfl (uAr rfl rfl gU gU rfl (IntWalk.i64_in _ (by omega))) ?_;refine uAa rfl rfl rfl (uAc rfl gU) ?_;refine uAf ?_;refine ⟨k + 1,?_,?_,uAj (⟨⟨_,rfl,?_⟩,⟨sx rfl,sx rfl,sx rfl,trivial⟩⟩) trivial trivial⟩
   all_goals (first | rfl | omega | exact ⟨by omega,hd.2 (by simpa using hc2)⟩)
 ·try simp only [nn,uAi,T.rows_len,Fs.rows_len,Sp.rows_len,Gl.rows_len] at hc
  refine uAM ?_
  repeat (first | refine uAD ?_ | refine uAE ?_ | refine uAC rfl ?_)
  refine uAe (uAb ?_);refine uAa rfl rfl rfl (uAd rfl gU) ?_;refine uAf ?_;refine uAp ?_
  repeat (first | refine tR ?_ | refine bR ?_)
  refine uAs rfl ?_ trivial;exact uBb (uKt (by omega) hi).symm
theorem uE9 (l : List (List UInt8)) : Ctr sys 102 [xss l, .fn 50 []] [] (xb (l.any fun s=>!uAH s)) none []:=by
 refine uAy Tryz.func102 rfl rfl rfl rfl rfl rfl ?_;refine uAe (uAb ?_);refine uAa rfl rfl rfl (uAd rfl gU) ?_;refine uAf ?_;refine uAe (uAb ?_);refine uAa rfl rfl rfl (uAc rfl gU) ?_;refine uAa rfl rfl rfl (uAc rfl gU) ?_;refine uAx rfl rfl rfl rfl rfl rfl gU gU (uIi _) rfl ?_;refine uAa rfl rfl rfl (uAk rfl rfl gU gU rfl) ?_;refine uAa rfl rfl rfl (uAd rfl gU) ?_;refine uAf ?_;refine uAp ?_
 repeat (first | refine tR ?_ | refine bR ?_)
 refine uAs rfl ?_ trivial;exact uCa (uHa _ l)
theorem uGO (l : List (List UInt8)) : (l.any fun s=>!uAH s) = !(l.all uAH):=by
 induction l with
 | nil=>rfl
 | cons x r ih=>rw [List.any_cons,List.all_cons,ih,Bool.not_and]
theorem uMy (n : Nar) : Ctr sys 49 [xn n] [] (xi (uDg uAH n)) none []:=by
 have h1:=uAi n.roles
 have h2:=uAi n.tags
 have h3:=Fs.rows_len n.fresh
 have h4:=Sp.rows_len n.steps
 have h5:=Gl.rows_len n.goals
 refine uAy Tryz.func49 rfl rfl rfl rfl rfl rfl ?_;refine uAe (uAb ?_);refine uAw rfl (uAX rfl rfl rfl rfl) ?_;refine uAa rfl rfl rfl (uAd rfl gU) ?_;refine uAf ?_;refine uAe ?_;refine uAt ?_;refine uAe (uAb ?_);refine uAa rfl rfl rfl (uAg rfl gU rfl rfl) ?_;refine uAa rfl rfl rfl (uAl rfl gU rfl rfl rfl rfl) ?_;refine uAx rfl rfl rfl rfl rfl rfl gU gU (uC0 _) rfl ?_;refine uAa rfl rfl rfl (uAd rfl gU) ?_;refine uAf ?_;refine uAn (s:=⟨[(1,_,_),(5,_,_)],[(.l 1,_)],[],[]⟩) (uAj (⟨sx rfl,sx rfl,trivial⟩) (⟨sx rfl,trivial⟩) trivial) ?_;refine uAm rfl (fun hc=>?_) (fun hc=>?_)
 ·try simp only [nn,uAi,T.rows_len,Fs.rows_len,Sp.rows_len,Gl.rows_len] at hc
  refine uAe (uAb ?_);refine uAa rfl rfl rfl (uAd rfl gU) ?_;refine uAf ?_;refine uAp ?_
  repeat (first | refine tR ?_ | refine bR ?_)
  refine uAs rfl ?_ trivial
  (rw [uDg,if_pos (by simpa using hc)]; rfl)
 ·try simp only [nn,uAi,T.rows_len,Fs.rows_len,Sp.rows_len,Gl.rows_len] at hc
  have hn : uAH n.name=true:=by simpa using hc
  have e1 : uDg uAH n=if cntE n≠0 then cntE n else if n.roles.all uAH=false then 2 else if errs (frE uAH) n.fresh≠0 then errs (frE uAH) n.fresh else if n.tags.all uAH=false then 2 else 0:=by rw [uDg,if_neg (by rw [hn]; simp)]
  refine uAe (uAb ?_);refine uAa rfl rfl rfl (uAg rfl gU rfl rfl) ?_;refine uAa rfl rfl rfl (uAl rfl gU rfl rfl rfl rfl) ?_;refine uAL rfl rfl rfl rfl rfl gU rfl rfl ?_ (fun hh=>by simp at hh); intro hlen;refine uAa rfl rfl rfl (uAk rfl rfl gU gU rfl) ?_;refine uAa rfl rfl rfl (uAd rfl gU) ?_;refine uAf ?_;refine uAn (s:=⟨[(1,_,_),(9,_,_)],[(.l 1,_)],[],[]⟩) (uAj (⟨sx rfl,sx rfl,trivial⟩) (⟨sx rfl,trivial⟩) trivial) ?_;refine uAm rfl (fun hc2=>?_) (fun hc2=>?_)
  ·try simp only [nn,uAi,T.rows_len,Fs.rows_len,Sp.rows_len,Gl.rows_len] at hc2
   have : cntE n=8:=by rw [cntE,if_pos (by omega)]
   refine uAe (uAb ?_);refine uAa rfl rfl rfl (uAd rfl gU) ?_;refine uAf ?_;refine uAp ?_
   repeat (first | refine tR ?_ | refine bR ?_)
   refine uAs rfl ?_ trivial
   (rw [e1,this]; rfl)
  ·try simp only [nn,uAi,T.rows_len,Fs.rows_len,Sp.rows_len,Gl.rows_len] at hc2
   refine uAe (uAb ?_);refine uAa rfl rfl rfl (uAg rfl gU rfl rfl) ?_;refine uAa rfl rfl rfl (uAl rfl gU rfl rfl rfl rfl) ?_;refine uAL rfl rfl rfl rfl rfl gU rfl rfl ?_ (fun hh=>by simp at hh); intro hlen;refine uAa rfl rfl rfl (uAk rfl rfl gU gU rfl) ?_;refine uAa rfl rfl rfl (uAc rfl gU) ?_;refine uAa rfl rfl rfl (uAg rfl gU rfl rfl) ?_;refine uAa rfl rfl rfl (uAl rfl (fun hh=>hh) rfl rfl rfl rfl) ?_;refine uAa rfl rfl rfl (uAY rfl (fun hh=>hh) rfl rfl) ?_;refine uAa rfl rfl rfl (uAk rfl rfl (fun hh=>hh) gU rfl) ?_;refine uAa rfl rfl rfl (uAK rfl rfl gU (fun _ hi=>gP rfl hi)) ?_;refine uAa rfl rfl rfl (uAc rfl gU) ?_;refine uAa rfl rfl rfl (uAg rfl gU rfl rfl) ?_;refine uBk (s:=⟨[(1,_,_),(25,_,_),(26,_,_)],[(.l 1,_)],[],[]⟩) (uAj (⟨sx rfl,sx rfl,sx rfl,trivial⟩) (⟨sx rfl,trivial⟩) trivial) ?_;refine uAa rfl rfl rfl (uAl rfl (fun hh=>hh) rfl rfl rfl rfl) ?_;refine uAa rfl rfl rfl (uAY rfl (fun hh=>hh) rfl rfl) ?_;refine uAa rfl rfl rfl (uAk rfl rfl (fun hh=>hh) gU rfl) ?_;refine uAa rfl rfl rfl (uAK rfl rfl gU (fun _ hi=>gP rfl hi)) ?_;refine uAa rfl rfl rfl (uAd rfl gU) ?_;refine uAf ?_;refine uAn (s:=⟨[(1,_,_),(14,_,_)],[(.l 1,_)],[],[]⟩) (uAj (⟨sx rfl,sx rfl,trivial⟩) (⟨sx rfl,trivial⟩) trivial) ?_
   refine uAm rfl (fun hc3=>?_) (fun hc3=>?_)
   ·try simp only [nn,uAi,T.rows_len,Fs.rows_len,Sp.rows_len,Gl.rows_len] at hc3
    have : cntE n=3:=by rw [cntE,if_neg (by omega),if_pos (by omega)]
    refine uAe (uAb ?_);refine uAa rfl rfl rfl (uAd rfl gU) ?_;refine uAf ?_;refine uAp ?_
    repeat (first | refine tR ?_ | refine bR ?_)
    refine uAs rfl ?_ trivial
    (rw [e1,this]; rfl)
   ·try simp only [nn,uAi,T.rows_len,Fs.rows_len,Sp.rows_len,Gl.rows_len] at hc3
    refine uAe (uAb ?_);refine uAa rfl rfl rfl (uAg rfl gU rfl rfl) ?_;refine uAa rfl rfl rfl (uAl rfl gU rfl rfl rfl rfl) ?_;refine uAL rfl rfl rfl rfl rfl gU rfl rfl ?_ (fun hh=>by simp at hh); intro hlen;refine uAa rfl rfl rfl (uAk rfl rfl gU gU rfl) ?_;refine uAa rfl rfl rfl (uAd rfl gU) ?_;refine uAf ?_;refine uAn (s:=⟨[(1,_,_),(31,_,_)],[(.l 1,_)],[],[]⟩) (uAj (⟨sx rfl,sx rfl,trivial⟩) (⟨sx rfl,trivial⟩) trivial) ?_;refine uAm rfl (fun hc4=>?_) (fun hc4=>?_)
    ·try simp only [nn,uAi,T.rows_len,Fs.rows_len,Sp.rows_len,Gl.rows_len] at hc4
     have : cntE n=8:=by rw [cntE,if_neg (by omega),if_neg (by omega),if_pos (by omega)]
     refine uAe (uAb ?_);refine uAa rfl rfl rfl (uAd rfl gU) ?_;refine uAf ?_;refine uAp ?_
     repeat (first | refine tR ?_ | refine bR ?_)
     refine uAs rfl ?_ trivial
     (rw [e1,this]; rfl)
    ·try simp only [nn,uAi,T.rows_len,Fs.rows_len,Sp.rows_len,Gl.rows_len] at hc4
     refine uAe (uAb ?_);refine uAa rfl rfl rfl (uAg rfl gU rfl rfl) ?_;refine uAa rfl rfl rfl (uAl rfl gU rfl rfl rfl rfl) ?_;refine uAL rfl rfl rfl rfl rfl gU rfl rfl ?_ (fun hh=>by simp at hh); intro hlen;refine uAa rfl rfl rfl (uAk rfl rfl gU gU rfl) ?_;refine uAa rfl rfl rfl (uAc rfl gU) ?_;refine uAa rfl rfl rfl (uAg rfl gU rfl rfl) ?_;refine uAa rfl rfl rfl (uAl rfl (fun hh=>hh) rfl rfl rfl rfl) ?_;refine uAa rfl rfl rfl (uAY rfl (fun hh=>hh) rfl rfl) ?_;refine uAa rfl rfl rfl (uAk rfl rfl (fun hh=>hh) gU rfl) ?_;refine uAa rfl rfl rfl (uAK rfl rfl gU (fun _ hi=>gP rfl hi)) ?_;refine uAa rfl rfl rfl (uAd rfl gU) ?_;refine uAf ?_;refine uAn (s:=⟨[(1,_,_),(36,_,_)],[(.l 1,_)],[],[]⟩) (uAj (⟨sx rfl,sx rfl,trivial⟩) (⟨sx rfl,trivial⟩) trivial) ?_;refine uAm rfl (fun hc5=>?_) (fun hc5=>?_)
     ·try simp only [nn,uAi,T.rows_len,Fs.rows_len,Sp.rows_len,Gl.rows_len] at hc5
      have : cntE n=3:=by rw [cntE,if_neg (by omega),if_neg (by omega),if_neg (by omega),if_pos (by omega)]
      refine uAe (uAb ?_);refine uAa rfl rfl rfl (uAd rfl gU) ?_;refine uAf ?_;refine uAp ?_
      repeat (first | refine tR ?_ | refine bR ?_)
      refine uAs rfl ?_ trivial
      (rw [e1,this]; rfl)
     ·try simp only [nn,uAi,T.rows_len,Fs.rows_len,Sp.rows_len,Gl.rows_len] at hc5
      have : cntE n=0:=by rw [cntE,if_neg (by omega),if_neg (by omega),if_neg (by omega),if_neg (by omega)]
      rw [if_neg (by rw [this]; simp)] at e1
      refine uAe (uAb ?_);refine uAa rfl rfl rfl (uAg rfl gU rfl rfl) ?_;refine uAa rfl rfl rfl (uAl rfl gU rfl rfl rfl rfl) ?_;refine uAx rfl rfl rfl rfl rfl rfl gU gU (uE9 _) rfl ?_;refine uAa rfl rfl rfl (uAd rfl gU) ?_;refine uAf ?_;refine uAm rfl (fun hc6=>?_) (fun hc6=>?_)
      ·rw [uGO] at hc6
       refine uAe (uAb ?_);refine uAa rfl rfl rfl (uAd rfl gU) ?_;refine uAf ?_;refine uAp ?_
       repeat (first | refine tR ?_ | refine bR ?_)
       refine uAs rfl ?_ trivial
       (rw [e1,if_pos (by simpa using hc6)]; rfl)
      ·rw [uGO] at hc6
       rw [if_neg (by simpa using hc6)] at e1
       refine uAo ?_;refine uAe ?_;refine uAe (uAb ?_);refine uAa rfl rfl rfl (uAg rfl gU rfl rfl) ?_;refine uAa rfl rfl rfl (uAl rfl gU rfl rfl rfl rfl) ?_;refine uAL rfl rfl rfl rfl rfl gU rfl rfl ?_ (fun hh=>by simp at hh); intro hlen;refine uAa rfl rfl rfl (uAc rfl gU) ?_;refine uAf ?_;refine uAn (s:=⟨[(1,_,_),(52,_,_),(53,_,_),(54,_,_)],[(.l 1,_)],[],[]⟩) (uAj (⟨sx rfl,sx rfl,sx rfl,sx rfl,trivial⟩) (⟨sx rfl,trivial⟩) trivial) ?_;refine uAt ?_;refine uAW (ι:=Nat) { t:=[(1,_,_),(52,_,_),(53,_,_)],bx:=[(.l 1,_)],ow:=[] } (fun k=>[(54,true,xi (k : Int))]) (fun k=>[]) (fun k=>k≤n.fresh.length∧errs (frE uAH) (n.fresh.drop k)=errs (frE uAH) n.fresh) (fun k=>n.fresh.length - k) (0) (by simp) (uAj (⟨sx rfl,sx rfl,sx rfl,sx rfl,trivial⟩) (⟨sx rfl,trivial⟩) trivial) ?_
       intro k hok
       dsimp only [List.cons_append,List.nil_append]
       obtain ⟨hk,hi⟩:=hok
       refine uAe (uAb ?_);refine uAa rfl rfl rfl (uAk rfl rfl gU gU rfl) ?_;refine uAf ?_;refine uAe ?_;refine uAm rfl (fun hc7=>?_) (fun hc7=>?_)
       ·try simp only [nn,uAi,T.rows_len,Fs.rows_len,Sp.rows_len,Gl.rows_len] at hc7
        have hd:=uCn (d:=default) (k:=k) (l:=n.fresh) (by omega) hi
        have hf : frE uAH (n.fresh.getD k default)=if uAH (n.fresh.getD k default).role=false∨uAH (n.fresh.getD k default).name=false then 2 else if (n.fresh.getD k default).sort < 2∨4 < (n.fresh.getD k default).sort then 10 else 0:=rfl
        refine uAo ?_;refine uAe ?_;refine uAt ?_;refine uAe (uAb ?_);refine uAa rfl rfl rfl (uAq rfl rfl gU gU rfl rfl rfl (fun hh=>Fs.rows_at (by first | omega | (simp at hh ⊢; omega)))) ?_;refine uAa rfl rfl rfl (uAF rfl gU rfl rfl rfl rfl) ?_;refine uAw rfl (uAT rfl rfl rfl) ?_;refine uAw rfl (uAB rfl rfl rfl rfl rfl rfl rfl) ?_;refine uAf ?_;refine uAt ?_;refine uAe (uAb ?_);refine uAa rfl rfl rfl (uAg rfl gU rfl rfl) ?_;refine uAa rfl rfl rfl (uAl rfl gU rfl rfl rfl rfl) ?_;refine uAx rfl rfl rfl rfl rfl rfl gU gU (uC0 _) rfl ?_;refine uAa rfl rfl rfl (uAc rfl gU) ?_;refine uAa rfl rfl rfl (uAg rfl gU rfl rfl) ?_;refine uAa rfl rfl rfl (uAl rfl (fun hh=>hh) rfl rfl rfl rfl) ?_;refine uAx rfl rfl rfl rfl rfl rfl gU (fun hh=>gA ((fun hh=>hh) hh) (rfl)) (uC0 _) rfl ?_;refine uAa rfl rfl rfl (uAK rfl rfl gU (fun _ hi=>gP rfl hi)) ?_;refine uBk (s:=⟨[(1,_,_),(4,_,_),(52,_,_),(53,_,_),(54,_,_),(66,_,_)],[(.l 1,_),(.l 4,_)],[],[]⟩) (uAj (⟨sx rfl,sx rfl,sx rfl,sx rfl,sx rfl,sx rfl,trivial⟩) (⟨sx rfl,sx rfl,trivial⟩) trivial) ?_;refine uAa rfl rfl rfl (uAd rfl gU) ?_;refine uAf ?_;refine uAm rfl (fun hc8=>?_) (fun hc8=>?_)
        ·try simp only [nn,uAi,T.rows_len,Fs.rows_len,Sp.rows_len,Gl.rows_len] at hc8
         rw [if_pos (by grind)] at hf
         have := hd.1 (by rw [hf]; simp)
         refine uAe (uAb ?_);refine uAa rfl rfl rfl (uAd rfl gU) ?_;refine uAf ?_;refine uAp ?_
         repeat (first | refine tR ?_ | refine bR ?_)
         refine uAs rfl ?_ trivial
         (rw [e1,this,hf]; rfl)
        ·try simp only [nn,uAi,T.rows_len,Fs.rows_len,Sp.rows_len,Gl.rows_len] at hc8
         rw [if_neg (by grind)] at hf
         refine uAe (uAb ?_);refine uAa rfl rfl rfl (uAg rfl gU rfl rfl) ?_;refine uAa rfl rfl rfl (uAl rfl gU rfl rfl rfl rfl) ?_;refine uAa rfl rfl rfl (uAk rfl rfl gU gU rfl) ?_;refine uAa rfl rfl rfl (uAc rfl gU) ?_;refine uAa rfl rfl rfl (uAg rfl gU rfl rfl) ?_;refine uAa rfl rfl rfl (uAl rfl (fun hh=>hh) rfl rfl rfl rfl) ?_;refine uAa rfl rfl rfl (uAk rfl rfl (fun hh=>hh) gU rfl) ?_;refine uAa rfl rfl rfl (uAK rfl rfl gU (fun _ hi=>gP rfl hi)) ?_;refine uAa rfl rfl rfl (uAd rfl gU) ?_;refine uAf ?_;refine uAn (s:=⟨[(1,_,_),(52,_,_),(53,_,_),(54,_,_),(67,_,_)],[(.l 1,_)],[],[]⟩) (uAj (⟨sx rfl,sx rfl,sx rfl,sx rfl,sx rfl,trivial⟩) (⟨sx rfl,trivial⟩) trivial) ?_;refine uAm rfl (fun hc9=>?_) (fun hc9=>?_)
         ·try simp only [nn,uAi,T.rows_len,Fs.rows_len,Sp.rows_len,Gl.rows_len] at hc9
          rw [if_pos (by omega)] at hf
          have := hd.1 (by rw [hf]; simp)
          refine uAe (uAb ?_);refine uAa rfl rfl rfl (uAd rfl gU) ?_;refine uAf ?_;refine uAp ?_
          repeat (first | refine tR ?_ | refine bR ?_)
          refine uAs rfl ?_ trivial
          (rw [e1,this,hf]; rfl)
         ·try simp only [nn,uAi,T.rows_len,Fs.rows_len,Sp.rows_len,Gl.rows_len] at hc9
          rw [if_neg (by omega)] at hf
          refine uAo ?_;refine uAb ?_;refine uAa rfl rfl rfl (uAr rfl rfl gU gU rfl (IntWalk.i64_in _ (by omega))) ?_;refine uAa rfl rfl rfl (uAc rfl gU) ?_;refine uAf ?_;refine ⟨k + 1,?_,?_,uAj (⟨⟨_,rfl,?_⟩,⟨sx rfl,sx rfl,sx rfl,trivial⟩⟩) (⟨sx rfl,trivial⟩) trivial⟩
          all_goals (first | rfl | omega | exact ⟨by omega,hd.2 hf⟩)
       ·try simp only [nn,uAi,T.rows_len,Fs.rows_len,Sp.rows_len,Gl.rows_len] at hc7
        have hz:=uDs (by omega) hi
        rw [hz] at e1
        rw [if_neg (by simp)] at e1
        refine uAM ?_
        repeat (first | refine uAD ?_ | refine uAE ?_ | refine uAC rfl ?_)
        refine uAe ?_;refine uAe (uAb ?_);refine uAa rfl rfl rfl (uAg rfl gU rfl rfl) ?_;refine uAa rfl rfl rfl (uAl rfl gU rfl rfl rfl rfl) ?_;refine uAx rfl rfl rfl rfl rfl rfl gU gU (uE9 _) rfl ?_;refine uAf ?_;refine uAm rfl (fun hc8=>?_) (fun hc8=>?_)
        ·rw [uGO] at hc8
         refine uAe (uAb ?_);refine uAa rfl rfl rfl (uAd rfl gU) ?_;refine uAf ?_;refine uAp ?_
         repeat (first | refine tR ?_ | refine bR ?_)
         refine uAs rfl ?_ trivial
         (rw [e1,if_pos (by simpa using hc8)]; rfl)
        ·rw [uGO] at hc8
         refine uAo ?_;refine uAe (uAb ?_);refine uAa rfl rfl rfl (uAd rfl gU) ?_;refine uAf ?_;refine uAp ?_
         repeat (first | refine tR ?_ | refine bR ?_)
         refine uAs rfl ?_ trivial
         (rw [e1,if_neg (by simpa using hc8)]; rfl)
theorem uFd (n : Nar) (hs : ∀ s ∈ n.steps,s.msg.size≤900000) (hg : ∀ g ∈ n.goals,T.sizes g.data≤900000) : Ctr sys 14 [xn n] [] (xi (narE uAH n)) none []:=by
 have h4:=Sp.rows_len n.steps
 have h5:=Gl.rows_len n.goals
 refine uAy Tryz.func14 rfl rfl rfl rfl rfl rfl ?_;refine uAe (uAb ?_);refine uAw rfl (uAX rfl rfl rfl rfl) ?_;refine uAa rfl rfl rfl (uAd rfl gU) ?_;refine uAf ?_;refine uAe ?_;refine uAe (uAb ?_);refine uAa rfl rfl rfl (uAv rfl gU rfl rfl rfl rfl rfl) ?_;refine uAx rfl rfl rfl rfl rfl rfl gU gU (uMy _) rfl ?_;refine uAa rfl rfl rfl (uAd rfl gU) ?_;refine uAf ?_;refine uAn (s:=⟨[(1,_,_),(3,_,_)],[(.l 1,_)],[],[]⟩) (uAj (⟨sx rfl,sx rfl,trivial⟩) (⟨sx rfl,trivial⟩) trivial) ?_;refine uAe (uAb ?_);refine uAa rfl rfl rfl (uAc rfl gU) ?_;refine uAa rfl rfl rfl (uAk rfl rfl gU gU rfl) ?_;refine uAf ?_;refine uAm rfl (fun hc=>?_) (fun hc=>?_)
 ·try simp only [nn,uAi,T.rows_len,Fs.rows_len,Sp.rows_len,Gl.rows_len] at hc
  refine uAe (uAb ?_);refine uAa rfl rfl rfl (uAc rfl gU) ?_;refine uAa rfl rfl rfl (uAd rfl gU) ?_;refine uAf ?_;refine uAp ?_
  repeat (first | refine tR ?_ | refine bR ?_)
  refine uAs rfl ?_ trivial
  (rw [narE,if_pos hc]; rfl)
 ·try simp only [nn,uAi,T.rows_len,Fs.rows_len,Sp.rows_len,Gl.rows_len] at hc
  have e1 : narE uAH n=if errs (spE uAH) n.steps≠0 then errs (spE uAH) n.steps else errs (uB4 uAH) n.goals:=by rw [narE,if_neg (by simpa using hc)]
  refine uAo ?_;refine uAe ?_;refine uAe (uAb ?_);refine uAa rfl rfl rfl (uAg rfl gU rfl rfl) ?_;refine uAa rfl rfl rfl (uAl rfl gU rfl rfl rfl rfl) ?_;refine uAL rfl rfl rfl rfl rfl gU rfl rfl ?_ (fun hh=>by simp at hh); intro hlen;refine uAa rfl rfl rfl (uAc rfl gU) ?_;refine uAf ?_;refine uAn (s:=⟨[(1,_,_),(16,_,_),(17,_,_),(18,_,_)],[(.l 1,_)],[],[]⟩) (uAj (⟨sx rfl,sx rfl,sx rfl,sx rfl,trivial⟩) (⟨sx rfl,trivial⟩) trivial) ?_;refine uAt ?_;refine uAW (ι:=Nat) { t:=[(1,_,_),(16,_,_),(17,_,_)],bx:=[(.l 1,_)],ow:=[] } (fun k=>[(18,true,xi (k : Int))]) (fun k=>[]) (fun k=>k≤n.steps.length∧errs (spE uAH) (n.steps.drop k)=errs (spE uAH) n.steps) (fun k=>n.steps.length - k) (0) (by simp) (uAj (⟨sx rfl,sx rfl,sx rfl,sx rfl,trivial⟩) (⟨sx rfl,trivial⟩) trivial) ?_
  intro k hok
  dsimp only [List.cons_append,List.nil_append]
  obtain ⟨hk,hi⟩:=hok
  refine uAe (uAb ?_);refine uAa rfl rfl rfl (uAk rfl rfl gU gU rfl) ?_;refine uAf ?_;refine uAe ?_;refine uAm rfl (fun hc2=>?_) (fun hc2=>?_)
  ·try simp only [nn,uAi,T.rows_len,Fs.rows_len,Sp.rows_len,Gl.rows_len] at hc2
   have hlt : k < n.steps.length:=by omega
   have hd:=uCn (d:=default) (k:=k) (l:=n.steps) (by omega) hi
   have hm:=hs _ (uBv (d:=default) hlt)
   have hf : spE uAH (n.steps.getD k default)=if uAH (n.steps.getD k default).frm=false∨uAH (n.steps.getD k default).dst=false then 2 else msgE uAH (n.steps.getD k default).msg:=rfl
   refine uAo ?_;refine uAe ?_;refine uAt ?_;refine uAe (uAb ?_);refine uAa rfl rfl rfl (uAq rfl rfl gU gU rfl rfl rfl (fun hh=>Sp.rows_at (by first | omega | (simp at hh ⊢; omega)))) ?_;refine uAa rfl rfl rfl (uAF rfl gU rfl rfl rfl rfl) ?_;refine uAw rfl (uAT rfl rfl rfl) ?_;refine uAw rfl (uAB rfl rfl rfl rfl rfl rfl rfl) ?_;refine uAf ?_;refine uAe ?_;refine uAe (uAb ?_);refine uAa rfl rfl rfl (uAg rfl gU rfl rfl) ?_;refine uAa rfl rfl rfl (uAl rfl gU rfl rfl rfl rfl) ?_;refine uAx rfl rfl rfl rfl rfl rfl gU gU (uC0 _) rfl ?_;refine uAa rfl rfl rfl (uAc rfl gU) ?_;refine uAa rfl rfl rfl (uAg rfl gU rfl rfl) ?_;refine uAa rfl rfl rfl (uAl rfl (fun hh=>hh) rfl rfl rfl rfl) ?_;refine uAx rfl rfl rfl rfl rfl rfl gU (fun hh=>gA ((fun hh=>hh) hh) (rfl)) (uC0 _) rfl ?_;refine uAa rfl rfl rfl (uAK rfl rfl gU (fun _ hi=>gP rfl hi)) ?_;refine uAf ?_;refine uAn (s:=⟨[(1,_,_),(5,_,_),(16,_,_),(17,_,_),(18,_,_),(29,_,_)],[(.l 1,_),(.l 5,_)],[],[]⟩) (uAj (⟨sx rfl,sx rfl,sx rfl,sx rfl,sx rfl,sx rfl,trivial⟩) (⟨sx rfl,sx rfl,trivial⟩) trivial) ?_;refine uAm rfl (fun hc3=>?_) (fun hc3=>?_)
   ·try simp only [nn,uAi,T.rows_len,Fs.rows_len,Sp.rows_len,Gl.rows_len] at hc3
    rw [if_pos (by grind)] at hf
    have := hd.1 (by rw [hf]; simp)
    refine uAe (uAb ?_);refine uAa rfl rfl rfl (uAd rfl gU) ?_;refine uAf ?_;refine uAp ?_
    repeat (first | refine tR ?_ | refine bR ?_)
    refine uAs rfl ?_ trivial
    (rw [e1,this,hf]; rfl)
   ·try simp only [nn,uAi,T.rows_len,Fs.rows_len,Sp.rows_len,Gl.rows_len] at hc3
    rw [if_neg (by grind)] at hf
    refine uAo ?_;refine uAe (uAb ?_);refine uAa rfl rfl rfl (uAg rfl gU rfl rfl) ?_;refine uAa rfl rfl rfl (uAv rfl gU rfl rfl rfl rfl rfl) ?_;refine uAx rfl rfl rfl rfl rfl rfl gU gU (uFy (n.steps.getD k default).msg hm) rfl ?_;refine uAa rfl rfl rfl (uAd rfl gU) ?_;refine uAf ?_;refine uAe (uAb ?_);refine uAa rfl rfl rfl (uAc rfl gU) ?_;refine uAa rfl rfl rfl (uAk rfl rfl gU gU rfl) ?_;refine uAf ?_;refine uAn (s:=⟨[(1,_,_),(6,_,_),(16,_,_),(17,_,_),(18,_,_),(34,_,_)],[(.l 1,_)],[],[]⟩) (uAj (⟨sx rfl,sx rfl,sx rfl,sx rfl,sx rfl,sx rfl,trivial⟩) (⟨sx rfl,trivial⟩) trivial) ?_;refine uAm rfl (fun hc4=>?_) (fun hc4=>?_)
    ·try simp only [nn,uAi,T.rows_len,Fs.rows_len,Sp.rows_len,Gl.rows_len] at hc4
     have := hd.1 (by rw [hf]; exact hc4)
     refine uAe (uAb ?_);refine uAa rfl rfl rfl (uAc rfl gU) ?_;refine uAa rfl rfl rfl (uAd rfl gU) ?_;refine uAf ?_;refine uAp ?_
     repeat (first | refine tR ?_ | refine bR ?_)
     refine uAs rfl ?_ trivial
     (rw [e1,this,hf,if_pos hc4]; rfl)
    ·try simp only [nn,uAi,T.rows_len,Fs.rows_len,Sp.rows_len,Gl.rows_len] at hc4
     refine uAo ?_;refine uAb ?_;refine uAa rfl rfl rfl (uAr rfl rfl gU gU rfl (IntWalk.i64_in _ (by omega))) ?_;refine uAa rfl rfl rfl (uAc rfl gU) ?_;refine uAf ?_;refine ⟨k + 1,?_,?_,uAj (⟨⟨_,rfl,?_⟩,⟨sx rfl,sx rfl,sx rfl,trivial⟩⟩) (⟨sx rfl,trivial⟩) trivial⟩
     all_goals (first | rfl | omega | exact ⟨by omega,hd.2 (by rw [hf]; simpa using hc4)⟩)
  ·try simp only [nn,uAi,T.rows_len,Fs.rows_len,Sp.rows_len,Gl.rows_len] at hc2
   have hz:=uDs (by omega) hi
   rw [hz,if_neg (by simp)] at e1
   refine uAM ?_
   repeat (first | refine uAD ?_ | refine uAE ?_ | refine uAC rfl ?_)
   refine uAe ?_;refine uAe (uAb ?_);refine uAa rfl rfl rfl (uAg rfl gU rfl rfl) ?_;refine uAa rfl rfl rfl (uAl rfl gU rfl rfl rfl rfl) ?_;refine uAL rfl rfl rfl rfl rfl gU rfl rfl ?_ (fun hh=>by simp at hh); intro hlen;refine uAa rfl rfl rfl (uAc rfl gU) ?_;refine uAf ?_;refine uAn (s:=⟨[(38,_,_),(39,_,_),(40,_,_)],[],[],[]⟩) (uAj (⟨sx rfl,sx rfl,sx rfl,trivial⟩) trivial trivial) ?_;refine uAt ?_;refine uAW (ι:=Nat) { t:=[(38,_,_),(39,_,_)],bx:=[],ow:=[] } (fun k=>[(40,true,xi (k : Int))]) (fun k=>[]) (fun k=>k≤n.goals.length∧errs (uB4 uAH) (n.goals.drop k)=errs (uB4 uAH) n.goals) (fun k=>n.goals.length - k) (0) (by simp) (uAj (⟨sx rfl,sx rfl,sx rfl,trivial⟩) trivial trivial) ?_
   intro k hok2
   dsimp only [List.cons_append,List.nil_append]
   obtain ⟨hk2,hi2⟩:=hok2
   refine uAe (uAb ?_);refine uAa rfl rfl rfl (uAk rfl rfl gU gU rfl) ?_;refine uAf ?_;refine uAe ?_;refine uAm rfl (fun hc5=>?_) (fun hc5=>?_)
   ·try simp only [nn,uAi,T.rows_len,Fs.rows_len,Sp.rows_len,Gl.rows_len] at hc5
    have hlt : k < n.goals.length:=by omega
    have hd:=uCn (d:=default) (k:=k) (l:=n.goals) (by omega) hi2
    have hm:=hg _ (uBv (d:=default) hlt)
    refine uAo ?_;refine uAe ?_;refine uAt ?_;refine uAe (uAb ?_);refine uAa rfl rfl rfl (uAq rfl rfl gU gU rfl rfl rfl (fun hh=>Gl.rows_at (by first | omega | (simp at hh ⊢; omega)))) ?_;refine uAa rfl rfl rfl (uAF rfl gU rfl rfl rfl rfl) ?_;refine uAw rfl (uAT rfl rfl rfl) ?_;refine uAw rfl (uAB rfl rfl rfl rfl rfl rfl rfl) ?_;refine uAf ?_;refine uAe (uAb ?_);refine uAa rfl rfl rfl (uAv rfl gU rfl rfl rfl rfl rfl) ?_;refine uAx rfl rfl rfl rfl rfl rfl gU gU (uMA (n.goals.getD k default) hm) rfl ?_;refine uAa rfl rfl rfl (uAd rfl gU) ?_;refine uAf ?_;refine uAn (s:=⟨[(9,_,_),(38,_,_),(39,_,_),(40,_,_)],[],[],[]⟩) (uAj (⟨sx rfl,sx rfl,sx rfl,sx rfl,trivial⟩) trivial trivial) ?_;refine uAe (uAb ?_);refine uAa rfl rfl rfl (uAc rfl gU) ?_;refine uAa rfl rfl rfl (uAk rfl rfl gU gU rfl) ?_;refine uAf ?_;refine uAm rfl (fun hc6=>?_) (fun hc6=>?_)
    ·try simp only [nn,uAi,T.rows_len,Fs.rows_len,Sp.rows_len,Gl.rows_len] at hc6
     have := hd.1 hc6
     refine uAe (uAb ?_);refine uAa rfl rfl rfl (uAc rfl gU) ?_;refine uAa rfl rfl rfl (uAd rfl gU) ?_;refine uAf ?_;refine uAp ?_
     repeat (first | refine tR ?_ | refine bR ?_)
     refine uAs rfl ?_ trivial
     (rw [e1,this]; rfl)
    ·try simp only [nn,uAi,T.rows_len,Fs.rows_len,Sp.rows_len,Gl.rows_len] at hc6
     refine uAo ?_;refine uAb ?_;refine uAa rfl rfl rfl (uAr rfl rfl gU gU rfl (IntWalk.i64_in _ (by omega))) ?_;refine uAa rfl rfl rfl (uAc rfl gU) ?_;refine uAf ?_;refine ⟨k + 1,?_,?_,uAj (⟨⟨_,rfl,?_⟩,⟨sx rfl,sx rfl,trivial⟩⟩) trivial trivial⟩
     all_goals (first | rfl | omega | exact ⟨by omega,hd.2 (by simpa using hc6)⟩)
   ·try simp only [nn,uAi,T.rows_len,Fs.rows_len,Sp.rows_len,Gl.rows_len] at hc5
    have hz2:=uDs (by omega) hi2
    refine uAM ?_
    repeat (first | refine uAD ?_ | refine uAE ?_ | refine uAC rfl ?_)
    refine uAe (uAb ?_);refine uAa rfl rfl rfl (uAd rfl gU) ?_;refine uAf ?_;refine uAp ?_
    repeat (first | refine tR ?_ | refine bR ?_)
    refine uAs rfl ?_ trivial
    (rw [e1,hz2]; rfl)
end Go.Proofs.YtnjjdbapadkomaaGreatDoor
namespace Go.Proofs.YtnjjdbapadkomaaGreatDoor
open Go Go.Abs
open Go.RowKit (Below)
theorem uKT : ∀ (L : List (List UInt8)),(L.map fun s : List UInt8=>(⟨s.toArray⟩ : ByteArray)).map (·.data.toList)=L
 | []=>rfl
 | s :: L=>by rw [List.map_cons,List.map_cons,uKT L]
theorem uDQ (L : List (List UInt8)) (sep : List UInt8) (hL : L.length≤2000000) (hsl : sep.length≤1000) (hj : (Lib.join L sep).length≤140737488355328) : Ctr sys 40 [xss L,xs sep] [] (xs (Lib.join L sep)) none []:=by
 refine uIY (v:=.string ⟨(Lib.join L sep).toArray⟩) ⟨_,Tryz.func40,by kernel_rfl,by kernel_rfl⟩ (fun w G vs hv hwf hgl=>?_) (fun w G=>CRep.s _ (by omega))
 match vs,hv with
 | [u,v],⟨h1,h2,_⟩ =>
  rw [XRep.str h2]
  have h1 : CRep w G.S (.sl 1 (strR L)) u:=h1
  have hnone : ∀ (a : Option Addr) (c : Nat),L=[]→Calls Tryz.prog 40 #[.slice a 0 c, .string ⟨sep.toArray⟩] w fun e w'=>e = .returned (.string ⟨(Lib.join L sep).toArray⟩)∧Below w.heap.size w w':=by
   intro a c hnil
   subst hnil
   refine (Any.strings_Join_none uMe uEj a c ⟨sep.toArray⟩ w).mono ?_
   rintro e w' ⟨he,hw⟩
   subst hw
   exact ⟨he,Below.refl _ _⟩
  generalize hes : strR L=es at h1
  cases h1 with
  | emp sz a=>exact hnone a 0 (by simpa [strR] using hes)
  | sl sz es blk off len cap vals hl hc hm hsz hcell hrep =>
   by_cases hnil : L=[]
   ·have : len=0:=by rw [← hl,← hes,hnil]; rfl
    subst this
    exact hnone _ cap hnil
   ·have hlen : len=L.length:=by rw [← hl,← hes,uAi]
    subst hlen
    have hpos : 0 < L.length:=List.length_pos_iff.2 hnil
    have hx : (L.map fun s : List UInt8=>(⟨s.toArray⟩ : ByteArray)).map (·.data.toList)=L:=uKT L
    have key:=Any.strings_Join uMe uEj blk off cap (L.map fun s : List UInt8=>(⟨s.toArray⟩ : ByteArray)) ⟨sep.toArray⟩ w (fun j x hj=>by
      rw [List.getElem?_map,Option.map_eq_some_iff] at hj
      obtain ⟨s,hs,rfl⟩:=hj
      have hjl:=(List.getElem?_eq_some_iff.1 hs).1
      obtain ⟨_,h5⟩:=hcell j 0 (by omega) (by omega)
      have hrow : es[j]? = some [.s s]:=by rw [← hes,strR,List.getElem?_map,hs]; rfl
      have h6:=hrep j _ 0 (.s s) hrow rfl
      have h7 : vals j 0 = .string ⟨s.toArray⟩:=XRep.str (G:=G) (w:=w) h6
      rw [show off + j=off + j * 1 + 0 by omega,h5,h7]) (by
      obtain ⟨_,h5⟩:=hcell 0 0 (by omega) (by omega)
      exact World.block_lt_of_cell? (a:=⟨blk,off + 0 * 1 + 0,none⟩) w h5) (by rw [List.length_map]; omega) (by rw [List.length_map]; omega) (by rw [hx]; exact hj)
    rw [hx,List.length_map] at key
    exact key
theorem uO2 (t : T) (s : List UInt8) : Ctr sys 137 [xm t,xs s] [] (xb (decide (t.kind=3) && decide (t.name=s))) none []:=by
 refine uAy Tryz.func137 rfl rfl rfl rfl rfl rfl ?_;refine uAe (uAb ?_);refine uAw rfl (uAX rfl rfl rfl rfl) ?_;refine uAa rfl rfl rfl (uAd rfl gU) ?_;refine uAf ?_;refine uAe (uAb ?_);refine uAa rfl rfl rfl (uAg rfl gU rfl rfl) ?_;refine uAa rfl rfl rfl (uAl rfl gU rfl rfl rfl rfl) ?_;refine uAa rfl rfl rfl (uAk rfl rfl gU gU rfl) ?_;refine uAa rfl rfl rfl (uAc rfl gU) ?_;refine uAa rfl rfl rfl (uAg rfl gU rfl rfl) ?_;refine uAa rfl rfl rfl (uAl rfl (fun hh=>hh) rfl rfl rfl rfl) ?_;refine uAa rfl rfl rfl (uAc rfl gU) ?_;refine uAa rfl rfl rfl (uAZ rfl rfl (fun hh=>hh) (fun hh=>hh) rfl) ?_;refine uAa rfl rfl rfl (uAR rfl rfl gU (fun _ hi=>gP rfl hi)) ?_;refine uAa rfl rfl rfl (uAd rfl gU) ?_;refine uAf ?_;refine uAp ?_
 repeat (first | refine tR ?_ | refine bR ?_)
 refine uAs rfl ?_ trivial;refine uCa ?_
 rw [Bool.eq_iff_iff]; simp
theorem uFw (l : List T) (t : T) : X.v (.c (.sl 4 (T.rows l++[t.cells])))=xl (l++[t]):=by simp [xl,T.rows_eq]
theorem uJy (t : T) (h : t.size≤900000) : Ctr sys 94 [xm t] [] (xl (untE t)) none []:=by
 refine uAy Tryz.func94 rfl rfl rfl rfl rfl rfl ?_;refine uAe (uAb ?_);refine uAw rfl (uAX rfl rfl rfl rfl) ?_;refine uAw rfl (uBq (.inr rfl) rfl rfl) ?_;refine uAf ?_;refine uAe (uAb ?_);refine uAw rfl (uBq (.inr rfl) rfl rfl) ?_;refine uAf ?_;refine uAe ?_;refine uAt ?_;refine uAW (ι:=List T × T) { t:=[(1,_,_)],bx:=[],ow:=[(.t 3,_)] } (fun p=>[(3,true,xl p.1)]) (fun p=>[((.l 1),p.2.cells)]) (fun p=>p.1++untE p.2=untE t∧p.1.length + p.2.size≤t.size) (fun p=>p.2.size) (([],t)) (⟨rfl,by simp⟩) (uAj (⟨sx rfl,sx rfl,trivial⟩) (⟨sx rfl,trivial⟩) (⟨rfl,trivial⟩)) ?_
 intro p hok
 dsimp only [List.cons_append,List.nil_append] at *
 obtain ⟨l,u⟩:=p
 dsimp only at hok ⊢
 obtain ⟨hi,hl⟩:=hok
 have hrl:=T.rows_len l
 have hrk:=T.rows_len u.kids
 have hu:=uD0 u
 refine uAe ?_;refine uAe (uAb ?_);refine uAa rfl rfl rfl (uAv rfl gU rfl rfl rfl rfl rfl) ?_;refine uAx rfl rfl rfl rfl rfl rfl gU gU (uO2 _ _) rfl ?_;refine uAa rfl rfl rfl (uAc rfl gU) ?_;refine uAa rfl rfl rfl (uAg rfl gU rfl rfl) ?_;refine uAa rfl rfl rfl (uAl rfl (fun hh=>hh) rfl rfl rfl rfl) ?_;refine uAa rfl rfl rfl (uAY rfl (fun hh=>hh) rfl rfl) ?_;refine uAa rfl rfl rfl (uAk rfl rfl (fun hh=>hh) gU rfl) ?_;refine uAa rfl rfl rfl (uAR rfl rfl gU (fun _ hi=>gP rfl hi)) ?_;refine uAf ?_;refine uAn (s:=⟨[(1,_,_),(3,_,_),(11,_,_)],[(.l 1,_)],[(.t 3,_)],[]⟩) (uAj (⟨sx rfl,sx rfl,sx rfl,trivial⟩) (⟨sx rfl,trivial⟩) (⟨rfl,trivial⟩)) ?_;refine uAm rfl (fun hc=>?_) (fun hc=>?_)
 ·try simp only [nn,uAi,T.rows_len,Fs.rows_len,Sp.rows_len,Gl.rows_len] at hc
  have hp : uB5 u=true:=by simp only [uB5]; grind [wPair]
  have hps:=uCl hp
  have h0:=(u.kids.getD 0 default).size_pos
  have h1:=(u.kids.getD 1 default).size_pos
  have hk : u.kids.length=2:=by grind
  rw [if_pos hp] at hu
  refine uAo ?_;refine uAt ?_;refine uAe (uAb ?_);refine uAw rfl (uAN (.inl rfl) rfl rfl rfl) ?_;refine uAa rfl rfl rfl (uAg rfl gU rfl rfl) ?_;refine uAa rfl rfl rfl (uAl rfl gU rfl rfl rfl rfl) ?_;refine uAa rfl rfl rfl (uAq (j:=0) rfl rfl gU gU rfl rfl (by first | omega | (simp at hh ⊢; omega)) (fun hh=>T.rows_at (by first | omega | (simp at hh ⊢; omega)))) ?_;refine uAa rfl rfl rfl (uAF rfl gU rfl rfl rfl rfl) ?_;refine uAx rfl rfl rfl rfl rfl rfl gU gU (uGs (u.kids.getD 0 default) (by omega)) rfl ?_;refine uAQ (xs:=[_]) rfl rfl rfl rfl rfl rfl rfl rfl rfl gU rfl ?_;refine uAw rfl (uA2 rfl rfl rfl rfl rfl rfl rfl (by first | omega | (simp only [List.length_append,List.length_singleton,T.rows_len]; omega)) (by first | omega | (simp only [List.length_append,List.length_singleton,T.rows_len]; omega))) ?_;refine uAw rfl (uAN (.inr rfl) rfl rfl rfl) ?_;refine uAf ?_;refine uAn (s:=⟨[(1,_,_),(3,_,_)],[(.l 1,_)],[(.t 3,_)],[]⟩) (uAj (⟨sx rfl,sx rfl,trivial⟩) (⟨sx rfl,trivial⟩) (⟨rfl,trivial⟩)) ?_;refine uAb ?_;refine uAa rfl rfl rfl (uAg rfl gU rfl rfl) ?_;refine uAa rfl rfl rfl (uAl rfl gU rfl rfl rfl rfl) ?_;refine uAa rfl rfl rfl (uAq (j:=1) rfl rfl gU gU rfl rfl (by first | omega | (simp at hh ⊢; omega)) (fun hh=>T.rows_at (by first | omega | (simp at hh ⊢; omega)))) ?_
  refine uAa rfl rfl rfl (uAF rfl gU rfl rfl rfl rfl) ?_;refine uAw rfl (uAB rfl rfl rfl rfl rfl rfl rfl) ?_;refine uAf ?_;refine ⟨(l++[u.kids.getD 0 default],u.kids.getD 1 default),?_,?_,uAj (⟨⟨_,rfl,?_⟩,⟨sx rfl,trivial⟩⟩) (⟨⟨_,rfl,?_⟩,trivial⟩) (⟨rfl,trivial⟩)⟩
  ·refine ⟨?_,?_⟩
   ·dsimp only; rw [← hi,hu]; simp
   ·simp only [List.length_append,List.length_singleton]; omega
  ·dsimp only; omega
  ·exact tx (uFw _ _)
  ·rfl
 ·try simp only [nn,uAi,T.rows_len,Fs.rows_len,Sp.rows_len,Gl.rows_len] at hc
  have hp : ¬uB5 u=true:=by simp only [uB5]; grind [wPair]
  rw [if_neg hp] at hu
  have hus:=u.size_pos
  refine uAM ?_
  repeat (first | refine uAD ?_ | refine uAE ?_ | refine uAC rfl ?_)
  refine uAe (uAb ?_);refine uAw rfl (uAN (.inl rfl) rfl rfl rfl) ?_;refine uAa rfl rfl rfl (uAv rfl gU rfl rfl rfl rfl rfl) ?_;refine uAx rfl rfl rfl rfl rfl rfl gU gU (uGs u (by omega)) rfl ?_;refine uAQ (xs:=[_]) rfl rfl rfl rfl rfl rfl rfl rfl rfl gU rfl ?_;refine uAw rfl (uA2 rfl rfl rfl rfl rfl rfl rfl (by first | omega | (simp only [List.length_append,List.length_singleton,T.rows_len]; omega)) (by first | omega | (simp only [List.length_append,List.length_singleton,T.rows_len]; omega))) ?_;refine uAw rfl (uAN (.inr rfl) rfl rfl rfl) ?_;refine uAf ?_;refine uAp ?_
  repeat (first | refine tR ?_ | refine bR ?_)
  refine uAs rfl ?_ trivial
  (rw [← hi,hu]; exact uFw _ _)
theorem uJ0 {l : List T} {k : Nat} (h : k < l.length) : (l.take (k + 1)).map uBD=(l.take k).map uBD++[uBD (l.getD k default)]:=by rw [uDm (d:=default) h,List.map_append]; rfl
theorem uH2 (n : Nat) (ih : ∀ t : T,t.size≤n→okB t=true→Ctr sys 43 [xm t] [] (xs (uBD t)) none []) (l : List T) (hl : ∀ x ∈ l,x.size≤n) (ho : ∀ x ∈ l,okB x=true) (hs : T.sizes l≤900000) :
  Ctr sys 93 [xl l] [] (xs (uBU l)) none []:=by
 have hrl:=T.rows_len l
 have hls:=T.len_sizes l
 have hte:=uHb ho
 refine uAy Tryz.func93 rfl rfl rfl rfl rfl rfl ?_;refine uAe (uAb ?_);refine uAa rfl rfl rfl (uAd rfl gU) ?_;refine uAf ?_;refine uAe (uAb ?_);refine uAw rfl (uBq (.inr rfl) rfl rfl) ?_;refine uAf ?_;refine uAe ?_;refine uAe (uAb ?_);refine uAa rfl rfl rfl (uAc rfl gU) ?_;refine uAL rfl rfl rfl rfl rfl gU rfl rfl ?_ (fun hh=>by simp at hh); intro hlen;refine uAa rfl rfl rfl (uAc rfl gU) ?_;refine uAf ?_;refine uAn (s:=⟨[(3,_,_),(6,_,_),(7,_,_),(8,_,_)],[],[(.t 3,_)],[]⟩) (uAj (⟨sx rfl,sx rfl,sx rfl,sx rfl,trivial⟩) trivial (⟨rfl,trivial⟩)) ?_;refine uAt ?_;refine uAW (ι:=Nat) { t:=[(6,_,_),(7,_,_)],bx:=[],ow:=[(.t 3,_)] } (fun k=>[(8,true,xi (k : Int)),(3,true,xss ((l.take k).map uBD))]) (fun k=>[]) (fun k=>k≤l.length) (fun k=>l.length - k) (0) (by simp) (uAj (⟨sx rfl,sx rfl,sx rfl,sx rfl,trivial⟩) trivial (⟨rfl,trivial⟩)) ?_
 intro k hok
 dsimp only [List.cons_append,List.nil_append]
 refine uAe (uAb ?_);refine uAa rfl rfl rfl (uAk rfl rfl gU gU rfl) ?_;refine uAf ?_;refine uAe ?_;refine uAm rfl (fun hc=>?_) (fun hc=>?_)
 ·try simp only [nn,uAi,T.rows_len,Fs.rows_len,Sp.rows_len,Gl.rows_len] at hc
  have hlt : k < l.length:=by omega
  refine uAo ?_;refine uAe ?_;refine uAt ?_;refine uAe (uAb ?_);refine uAa rfl rfl rfl (uAq rfl rfl gU gU rfl rfl rfl (fun hh=>T.rows_at (by first | omega | (simp at hh ⊢; omega)))) ?_;refine uAa rfl rfl rfl (uAF rfl gU rfl rfl rfl rfl) ?_;refine uAw rfl (uAT rfl rfl rfl) ?_;refine uAw rfl (uAB rfl rfl rfl rfl rfl rfl rfl) ?_;refine uAf ?_;refine uAb ?_;refine uAw rfl (uAN (.inl rfl) rfl rfl rfl) ?_;refine uAa rfl rfl rfl (uAv rfl gU rfl rfl rfl rfl rfl) ?_;refine uAx rfl rfl rfl rfl rfl rfl gU gU (ih (l.getD k default) (hl _ (uBv hlt)) (ho _ (uBv hlt))) rfl ?_;refine uAQ (xs:=[_]) rfl rfl rfl rfl rfl rfl rfl rfl rfl gU rfl ?_;refine uAw rfl (uA2 rfl rfl rfl rfl rfl rfl rfl (by first | omega | (simp only [List.length_append,List.length_singleton,uAi,List.length_map,List.length_take]; omega)) (by first | omega | (simp only [List.length_append,List.length_singleton,uAi,List.length_map,List.length_take]; omega))) ?_;refine uAw rfl (uAN (.inr rfl) rfl rfl rfl) ?_;refine uAf ?_;refine uAn (s:=⟨[(3,_,_),(6,_,_),(7,_,_),(8,_,_)],[],[(.t 3,_)],[]⟩) (uAj (⟨sx rfl,sx rfl,sx rfl,sx rfl,trivial⟩) trivial (⟨rfl,trivial⟩)) ?_;refine uAb ?_;refine uAa rfl rfl rfl (uAr rfl rfl gU gU rfl (IntWalk.i64_in _ (by omega))) ?_;refine uAa rfl rfl rfl (uAc rfl gU) ?_
  refine uAf ?_;refine ⟨k + 1,?_,?_,uAj (⟨⟨_,rfl,?_⟩,⟨⟨_,rfl,?_⟩,⟨sx rfl,sx rfl,trivial⟩⟩⟩) trivial (⟨rfl,trivial⟩)⟩
  all_goals first | rfl | omega | exact tx ((uCb _ _).trans (by rw [uJ0 hlt]))
 ·try simp only [nn,uAi,T.rows_len,Fs.rows_len,Sp.rows_len,Gl.rows_len] at hc
  have : k=l.length:=by omega
  subst this
  rw [List.take_length]
  refine uAM ?_
  repeat (first | refine uAD ?_ | refine uAE ?_ | refine uAC rfl ?_)
  refine uAe (uAb ?_);refine uAa rfl rfl rfl (uAc rfl gU) ?_;refine uAx rfl rfl rfl rfl rfl rfl gU gU (uDQ _ [44,32] (by rw [List.length_map]; omega) (by decide) (by show (uBU l).length≤_; omega)) rfl ?_;refine uAa rfl rfl rfl (uAd rfl gU) ?_;refine uAf ?_;refine uAp ?_
  repeat (first | refine tR ?_ | refine bR ?_)
  refine uAs rfl ?_ trivial
  rfl
theorem uMY : ∀ (n : Nat) (t : T),t.size≤n→n≤900000→okB t=true→Ctr sys 43 [xm t] [] (xs (uBD t)) none []:=by
 intro n
 induction n with
 | zero=>intro t h; have := t.size_pos; omega
 | succ n ih =>
  intro t ht hn ho
  have hse:=t.size_eq
  have hrl:=T.rows_len t.kids
  have hls:=T.len_sizes t.kids
  have hk:=(uEs ho).1
  have hnl:=(uEs ho).2
  have he:=uEA t
  have hle:=uFL ho
  have ihh:=fun (x : T) (hx : x.size≤n) (hxo : okB x=true)=>ih x hx (by omega) hxo
  refine uAy Tryz.func43 rfl rfl rfl rfl rfl rfl ?_;refine uAe (uAb ?_);refine uAw rfl (uAX rfl rfl rfl rfl) ?_;refine uAa rfl rfl rfl (uAd rfl gU) ?_;refine uAf ?_;refine uAe ?_;refine uAe (uAb ?_);refine uAa rfl rfl rfl (uAg rfl gU rfl rfl) ?_;refine uAa rfl rfl rfl (uAl rfl gU rfl rfl rfl rfl) ?_;refine uAa rfl rfl rfl (uAk rfl rfl gU gU rfl) ?_;refine uAf ?_;refine uAn (s:=⟨[(1,_,_),(5,_,_)],[(.l 1,_)],[],[]⟩) (uAj (⟨sx rfl,sx rfl,trivial⟩) (⟨sx rfl,trivial⟩) trivial) ?_;refine uAm rfl (fun hc=>?_) (fun hc=>?_)
  ·try simp only [nn,uAi,T.rows_len,Fs.rows_len,Sp.rows_len,Gl.rows_len] at hc
   refine uAe (uAb ?_);refine uAa rfl rfl rfl (uAg rfl gU rfl rfl) ?_;refine uAa rfl rfl rfl (uAl rfl gU rfl rfl rfl rfl) ?_;refine uAa rfl rfl rfl (uAd rfl gU) ?_;refine uAf ?_;refine uAp ?_
   repeat (first | refine tR ?_ | refine bR ?_)
   refine uAs rfl ?_ trivial
   (rw [he,if_pos hc]; rfl)
  ·try simp only [nn,uAi,T.rows_len,Fs.rows_len,Sp.rows_len,Gl.rows_len] at hc
   rw [if_neg hc] at he
   refine uAo ?_;refine uAe ?_;refine uAe (uAb ?_);refine uAa rfl rfl rfl (uAg rfl gU rfl rfl) ?_;refine uAa rfl rfl rfl (uAl rfl gU rfl rfl rfl rfl) ?_;refine uAa rfl rfl rfl (uAZ rfl rfl gU gU rfl) ?_;refine uAa rfl rfl rfl (uAc rfl gU) ?_;refine uAa rfl rfl rfl (uAg rfl gU rfl rfl) ?_;refine uAa rfl rfl rfl (uAl rfl (fun hh=>hh) rfl rfl rfl rfl) ?_;refine uAa rfl rfl rfl (uAY rfl (fun hh=>hh) rfl rfl) ?_;refine uAa rfl rfl rfl (uAk rfl rfl (fun hh=>hh) gU rfl) ?_;refine uAa rfl rfl rfl (uAR rfl rfl gU (fun _ hi=>gP rfl hi)) ?_;refine uAf ?_;refine uAn (s:=⟨[(1,_,_),(16,_,_)],[(.l 1,_)],[],[]⟩) (uAj (⟨sx rfl,sx rfl,trivial⟩) (⟨sx rfl,trivial⟩) trivial) ?_;refine uAm rfl (fun hc2=>?_) (fun hc2=>?_)
   ·try simp only [nn,uAi,T.rows_len,Fs.rows_len,Sp.rows_len,Gl.rows_len] at hc2
    have hp : uB5 t=true:=by simp only [uB5]; grind [wPair]
    rw [if_pos hp] at he
    have hus:=uEc hp
    have htl : (uBU (untE t)).length≤28 * t.size:=by rw [he] at hle; simp only [List.length_append,List.length_cons,List.length_nil] at hle; omega
    have htx := uH2 n ihh (untE t) (fun x hx=>by have := uDy hp hx; omega) (uGS _ ho) (by omega)
    refine uAe (uAb ?_);refine uAa rfl rfl rfl (uAv rfl gU rfl rfl rfl rfl rfl) ?_;refine uAx rfl rfl rfl rfl rfl rfl gU gU (uJy _ (by omega)) rfl ?_;refine uAx rfl rfl rfl rfl rfl rfl gU gU (htx) rfl ?_;refine uAa rfl rfl rfl (uAu rfl rfl gU gU (by first | omega | (simp only [List.length_append,List.length_cons,List.length_nil]; omega))) ?_;refine uAa rfl rfl rfl (uAu rfl rfl gU gU (by first | omega | (simp only [List.length_append,List.length_cons,List.length_nil]; omega))) ?_;refine uAa rfl rfl rfl (uAd rfl gU) ?_;refine uAf ?_;refine uAp ?_
    repeat (first | refine tR ?_ | refine bR ?_)
    refine uAs rfl ?_ trivial
    (rw [he]; rfl)
   ·try simp only [nn,uAi,T.rows_len,Fs.rows_len,Sp.rows_len,Gl.rows_len] at hc2
    have hp : ¬uB5 t=true:=by simp only [uB5]; grind [wPair]
    rw [if_neg hp] at he
    have htl : (uBU t.kids).length≤28 * t.size:=by rw [he] at hle; simp only [List.length_append,List.length_cons,List.length_nil] at hle; omega
    have htx := uH2 n ihh t.kids (fun x hx=>by have := uCA hx; omega) (uGV ho) (by omega)
    refine uAo ?_;refine uAe ?_;refine awp_drawn' (by kernel_rfl) ?_;refine uAh rfl rfl rfl rfl (uAg rfl gU rfl rfl) ?_;refine uAS rfl rfl rfl rfl rfl rfl rfl gU rfl rfl rfl rfl ?_;refine uAh rfl rfl rfl rfl (uAu rfl rfl gU gU (by first | omega | (simp only [List.length_append,List.length_cons,List.length_nil]; omega))) ?_;refine uAh rfl rfl rfl rfl (uAg rfl gU rfl rfl) ?_;refine uAS rfl rfl rfl rfl rfl rfl rfl gU rfl rfl rfl rfl ?_;refine uA4 rfl rfl rfl rfl rfl rfl rfl gU gU (htx) rfl ?_;refine uAh rfl rfl rfl rfl (uAu rfl rfl gU gU (by first | omega | (simp only [List.length_append,List.length_cons,List.length_nil]; omega))) ?_;refine uAh rfl rfl rfl rfl (uAu rfl rfl gU gU (by first | omega | (simp only [List.length_append,List.length_cons,List.length_nil]; omega))) ?_;refine uAh rfl rfl rfl rfl (uAd rfl gU) ?_;refine uA8 (by kernel_rfl) ?_;refine uAp ?_
    repeat (first | refine tR ?_ | refine bR ?_)
    refine uAs rfl ?_ trivial
    (rw [he]; rfl)
theorem uDY (t : T) (ht : t.size≤900000) (ho : okB t=true) : Ctr sys 43 [xm t] [] (xs (uBD t)) none []:=uMY _ t (Nat.le_refl _) ht ho
theorem uHn (l : List T) (hs : T.sizes l≤900000) (ho : ∀ x ∈ l,okB x=true) : Ctr sys 93 [xl l] [] (xs (uBU l)) none [] :=
 uH2 900000 (fun t h o=>uDY t h o) l (fun x hx=>by have := uFG hx; omega) ho hs
def ftE (t : T) : List UInt8 × Int:=if uDd uAH t≠0 then ([],uDd uAH t) else (uBD t,0)
theorem uGM (t : T) (ht : t.size≤900000) : Ctr sys 21 [xm t] [] (xse (ftE t)) none []:=by
 refine uAy Tryz.func21 rfl rfl rfl rfl rfl rfl ?_;refine uAe (uAb ?_);refine uAw rfl (uAX rfl rfl rfl rfl) ?_;refine uAa rfl rfl rfl (uAd rfl gU) ?_;refine uAa rfl rfl rfl (uAd rfl gU) ?_;refine uAf ?_;refine uAe ?_;refine uAe (uAb ?_);refine uAa rfl rfl rfl (uAv rfl gU rfl rfl rfl rfl rfl) ?_;refine uAx rfl rfl rfl rfl rfl rfl gU gU (uD9 _ (by omega)) rfl ?_;refine uAa rfl rfl rfl (uAd rfl gU) ?_;refine uAf ?_;refine uAn (s:=⟨[(1,_,_),(4,_,_)],[(.l 1,_)],[],[]⟩) (uAj (⟨sx rfl,sx rfl,trivial⟩) (⟨sx rfl,trivial⟩) trivial) ?_;refine uAe (uAb ?_);refine uAa rfl rfl rfl (uAc rfl gU) ?_;refine uAa rfl rfl rfl (uAk rfl rfl gU gU rfl) ?_;refine uAf ?_;refine uAm rfl (fun hc=>?_) (fun hc=>?_)
 ·try simp only [nn,uAi,T.rows_len,Fs.rows_len,Sp.rows_len,Gl.rows_len] at hc
  refine uAe (uAb ?_);refine uAa rfl rfl rfl (uAc rfl gU) ?_;refine uAa rfl rfl rfl (uAd rfl gU) ?_;refine uAa rfl rfl rfl (uAd rfl gU) ?_;refine uAf ?_;refine uAp ?_
  repeat (first | refine tR ?_ | refine bR ?_)
  refine uAs rfl ?_ trivial
  (rw [ftE,if_pos hc]; rfl)
 ·try simp only [nn,uAi,T.rows_len,Fs.rows_len,Sp.rows_len,Gl.rows_len] at hc
  have ho:=(uOE hc).1
  refine uAo ?_;refine uAe (uAb ?_);refine uAa rfl rfl rfl (uAv rfl gU rfl rfl rfl rfl rfl) ?_;refine uAx rfl rfl rfl rfl rfl rfl gU gU (uDY t ht ho) rfl ?_;refine uAa rfl rfl rfl (uAd rfl gU) ?_;refine uAa rfl rfl rfl (uAd rfl gU) ?_;refine uAf ?_;refine uAp ?_
  repeat (first | refine tR ?_ | refine bR ?_)
  refine uAs rfl ?_ trivial
  (rw [ftE,if_neg (by simpa using hc)]; rfl)
end Go.Proofs.YtnjjdbapadkomaaGreatDoor
namespace Go.Proofs.YtnjjdbapadkomaaGreatDoor
open Go Go.Abs
def pbx (l : List Tk) (p : PS) : List C:=[.sl 5 (Tk.rows l), .i .i64 (p.at' : Int), .b p.bad]
abbrev xpp : X:=.v (.ptr (.o 0) 0)
def symP (l : List Tk) (p : PS) (c : List UInt8) : PS:=if symQ l p c=true then p.go else p
theorem uOi {l : List Tk} {a : Int} {b : Bool} {p : PS} (h1 : a=p.at') (h2 : b=p.bad) : ([.sl 5 (Tk.rows l), .i .i64 a, .b b] : List C)=pbx l p:=by rw [h1,h2]; rfl
theorem uFo (l : List (List UInt8)) (s : List UInt8) : Ctr sys 132 [xss l,xs s] [] (xi (idxF (fun x=>decide (s=x)) l)) none []:=by
 have hrl:=uAi l
 refine uAy Tryz.func132 rfl rfl rfl rfl rfl rfl ?_;refine uAe (uAb ?_);refine uAa rfl rfl rfl (uAd rfl gU) ?_;refine uAf ?_;refine uAe ?_;refine uAe (uAb ?_);refine uAa rfl rfl rfl (uAc rfl gU) ?_;refine uAL rfl rfl rfl rfl rfl gU rfl rfl ?_ (fun hh=>by simp at hh); intro hlen;refine uAa rfl rfl rfl (uAc rfl gU) ?_;refine uAf ?_;refine uAt ?_;refine uAW (ι:=Nat) { t:=[(0,_,_),(1,_,_),(7,_,_)],bx:=[],ow:=[] } (fun k=>[(8,true,xi (k : Int))]) (fun k=>[]) (fun k=>k≤l.length∧(if idxF (fun x=>decide (s=x)) (l.drop k) < 0 then -1 else idxF (fun x=>decide (s=x)) (l.drop k) + k)=idxF (fun x=>decide (s=x)) l) (fun k=>l.length - k) (0) (⟨by simp,(uG2 _ _).trans (uIA _ _)⟩) (uAj (⟨sx rfl,sx rfl,sx rfl,sx rfl,trivial⟩) trivial trivial) ?_
 intro k hok
 dsimp only [List.cons_append,List.nil_append]
 obtain ⟨hk,hi⟩:=hok
 refine uAe (uAb ?_);refine uAa rfl rfl rfl (uAk rfl rfl gU gU rfl) ?_;refine uAf ?_;refine uAe ?_;refine uAm rfl (fun hc=>?_) (fun hc=>?_)
 ·try simp only [nn,uAi,T.rows_len,Tk.rows_len] at hc
  have hd:=uIT (k:=k) (l:=l) (by omega) hi
  refine uAo ?_;refine uAe ?_;refine uAt ?_;refine uAe (uAb ?_);refine uAa rfl rfl rfl (uAc rfl gU) ?_;refine uAa rfl rfl rfl (uAd rfl gU) ?_;refine uAf ?_;refine uAe (uAb ?_);refine uAa rfl rfl rfl (uAc rfl gU) ?_;refine uAa rfl rfl rfl (uAc rfl gU) ?_;refine uAa rfl rfl rfl (uAc rfl gU) ?_;refine uAa rfl rfl rfl (uAq rfl rfl gU gU rfl rfl rfl (fun hh=>uBW (by first | omega | (simp at hh ⊢; omega)))) ?_;refine uAa rfl rfl rfl (uAI rfl gU rfl rfl rfl) ?_;refine uAa rfl rfl rfl (uAZ rfl rfl gU gU rfl) ?_;refine uAf ?_;refine uAn (s:=⟨[(0,_,_),(1,_,_),(5,_,_),(7,_,_),(8,_,_),(16,_,_)],[],[],[]⟩) (uAj (⟨sx rfl,sx rfl,sx rfl,sx rfl,sx rfl,sx rfl,trivial⟩) trivial trivial) ?_;refine uAm rfl (fun hc2=>?_) (fun hc2=>?_)
  ·try simp only [nn,uAi,T.rows_len,Tk.rows_len] at hc2
   refine uAe (uAb ?_);refine uAa rfl rfl rfl (uAc rfl gU) ?_;refine uAa rfl rfl rfl (uAd rfl gU) ?_;refine uAf ?_;refine uAp ?_
   repeat (first | refine tR ?_ | refine bR ?_)
   refine uAs rfl ?_ trivial;exact uBb (hd.1 (by simpa using hc2)).symm
  ·try simp only [nn,uAi,T.rows_len,Tk.rows_len] at hc2
   refine uAo ?_;refine uAb ?_;refine uAa rfl rfl rfl (uAr rfl rfl gU gU rfl (IntWalk.i64_in _ (by omega))) ?_;refine uAa rfl rfl rfl (uAc rfl gU) ?_;refine uAf ?_;refine ⟨k + 1,?_,?_,uAj (⟨⟨_,rfl,?_⟩,⟨sx rfl,sx rfl,sx rfl,trivial⟩⟩) trivial trivial⟩
   all_goals (first | rfl | omega | exact ⟨by omega,hd.2 (by simpa using hc2)⟩)
 ·try simp only [nn,uAi,T.rows_len,Tk.rows_len] at hc
  refine uAM ?_
  repeat (first | refine uAD ?_ | refine uAE ?_ | refine uAC rfl ?_)
  refine uAe (uAb ?_);refine uAa rfl rfl rfl (uAd rfl gU) ?_;refine uAf ?_;refine uAp ?_
  repeat (first | refine tR ?_ | refine bR ?_)
  refine uAs rfl ?_ trivial;exact uBb (uKt (by omega) hi).symm
theorem uFB (s : List UInt8) : ∀ l : List (List UInt8),(l.any fun x=>decide (s=x))=l.contains s
 | []=>rfl
 | x :: l=>by
  rw [List.any_cons,List.contains_cons,uFB s l]
  congr 1
  rw [Bool.eq_iff_iff]; simp
theorem uIf (l : List (List UInt8)) (s : List UInt8) : Ctr sys 85 [xss l,xs s] [] (xb (l.contains s)) none []:=by
 refine uAy Tryz.func85 rfl rfl rfl rfl rfl rfl ?_;refine uAe (uAb ?_);refine uAa rfl rfl rfl (uAd rfl gU) ?_;refine uAf ?_;refine uAe (uAb ?_);refine uAa rfl rfl rfl (uAc rfl gU) ?_;refine uAa rfl rfl rfl (uAc rfl gU) ?_;refine uAx rfl rfl rfl rfl rfl rfl gU gU (uFo _ _) rfl ?_;refine uAa rfl rfl rfl (uAk rfl rfl gU gU rfl) ?_;refine uAa rfl rfl rfl (uAd rfl gU) ?_;refine uAf ?_;refine uAp ?_
 repeat (first | refine tR ?_ | refine bR ?_)
 refine uAs rfl ?_ trivial;exact uCa ((uHa _ l).trans (uFB s l))
theorem uB0 (l : List Tk) (p : PS) (c : List UInt8) (hl : l.length≤2000000) (hp : p.at'≤3000000) : Ctr sys 61 [xpp,xs c] [pbx l p] (xb (symQ l p c)) none [pbx l (symP l p c)]:=by
 have hrl:=Tk.rows_len l
 refine uAy Tryz.func61 rfl rfl rfl rfl rfl rfl ?_;refine uAe (uAb ?_);refine uAa rfl rfl rfl (uAd rfl gU) ?_;refine uAf ?_;refine uAe ?_;refine uAe ?_;refine awp_drawn' (by kernel_rfl) ?_;refine uAh rfl rfl rfl rfl (uAc rfl gU) ?_;refine uAh rfl rfl rfl rfl (uAA rfl gU) ?_;refine uAh rfl rfl rfl rfl (uAg rfl gU rfl rfl) ?_;refine uAS rfl rfl rfl rfl rfl rfl rfl gU rfl rfl rfl rfl ?_;refine uAh rfl rfl rfl rfl (uAc rfl gU) ?_;refine uAh rfl rfl rfl rfl (uAc rfl gU) ?_;refine uAh rfl rfl rfl rfl (uAA rfl (fun hh=>hh)) ?_;refine uAh rfl rfl rfl rfl (uAg rfl (fun hh=>hh) rfl rfl) ?_;refine uAS rfl rfl rfl rfl rfl rfl rfl (fun hh=>hh) rfl rfl rfl rfl ?_;refine uAh rfl rfl rfl rfl (uAc rfl gU) ?_;refine uAh rfl rfl rfl rfl (uAA rfl (fun hh=>hh)) ?_;refine uAh rfl rfl rfl rfl (uAg rfl (fun hh=>hh) rfl rfl) ?_;refine uAS rfl rfl rfl rfl rfl rfl rfl (fun hh=>hh) rfl rfl rfl rfl ?_;refine uAh rfl rfl rfl rfl (uAY rfl (fun hh=>hh) rfl rfl) ?_;refine uAh rfl rfl rfl rfl (uAk rfl rfl (fun hh=>hh) (fun hh=>hh) rfl) ?_;refine uAh rfl rfl rfl rfl (uAK rfl rfl gU (fun _ hi=>gP rfl hi)) ?_;refine uAh rfl rfl rfl rfl (uAc rfl gU) ?_;refine uAh rfl rfl rfl rfl (uAc rfl gU) ?_;refine uAh rfl rfl rfl rfl (uAA rfl (fun hh=>hh)) ?_;refine uAh rfl rfl rfl rfl (uAg rfl (fun hh=>hh) rfl rfl) ?_
 refine uAS rfl rfl rfl rfl rfl rfl rfl (fun hh=>hh) rfl rfl rfl rfl ?_;refine uAh rfl rfl rfl rfl (uAc rfl gU) ?_;refine uAh rfl rfl rfl rfl (uAA rfl (fun hh=>hh)) ?_;refine uAh rfl rfl rfl rfl (uAg rfl (fun hh=>hh) rfl rfl) ?_;refine uAS rfl rfl rfl rfl rfl rfl rfl (fun hh=>hh) rfl rfl rfl rfl ?_;refine uAh rfl rfl rfl rfl (uAq (j:=p.at') rfl rfl (fun hh=>hh) (fun hh=>hh) rfl rfl (by first | omega | (simp at hh ⊢; omega)) (fun hh=>Tk.rows_at (by first | omega | (simp at hh ⊢; omega)))) ?_;refine uAh rfl rfl rfl rfl (uAP rfl (fun hh=>hh) rfl rfl) ?_;refine uAh rfl rfl rfl rfl (uAI rfl (fun hh=>hh) rfl rfl rfl) ?_;refine uAh rfl rfl rfl rfl (uAk rfl rfl (fun hh=>hh) gU rfl) ?_;refine uAh rfl rfl rfl rfl (uAK rfl rfl gU (fun _ hi=>gP rfl hi)) ?_;refine uAh rfl rfl rfl rfl (uAc rfl gU) ?_;refine uAh rfl rfl rfl rfl (uAc rfl gU) ?_;refine uAh rfl rfl rfl rfl (uAA rfl (fun hh=>hh)) ?_;refine uAh rfl rfl rfl rfl (uAg rfl (fun hh=>hh) rfl rfl) ?_;refine uAS rfl rfl rfl rfl rfl rfl rfl (fun hh=>hh) rfl rfl rfl rfl ?_;refine uAh rfl rfl rfl rfl (uAc rfl gU) ?_;refine uAh rfl rfl rfl rfl (uAA rfl (fun hh=>hh)) ?_;refine uAh rfl rfl rfl rfl (uAg rfl (fun hh=>hh) rfl rfl) ?_;refine uAS rfl rfl rfl rfl rfl rfl rfl (fun hh=>hh) rfl rfl rfl rfl ?_;refine uAh rfl rfl rfl rfl (uAq (j:=p.at') rfl rfl (fun hh=>hh) (fun hh=>hh) rfl rfl (by first | omega | (simp at hh ⊢; omega)) (fun hh=>Tk.rows_at (by first | omega | (simp at hh ⊢; omega)))) ?_
 refine uAh rfl rfl rfl rfl (uAP rfl (fun hh=>hh) rfl rfl) ?_;refine uAh rfl rfl rfl rfl (uAI rfl (fun hh=>hh) rfl rfl rfl) ?_;refine uAh rfl rfl rfl rfl (uAc rfl gU) ?_;refine uAh rfl rfl rfl rfl (uAZ rfl rfl (fun hh=>hh) (fun hh=>hh) rfl) ?_;refine uAh rfl rfl rfl rfl (uAK rfl rfl gU (fun _ hi=>gP rfl hi)) ?_;refine uA8 (by kernel_rfl) ?_;refine uAn (s:=⟨[(0,_,_),(49,_,_)],[(.o 0,_)],[],[]⟩) (uAj (⟨sx rfl,sx rfl,trivial⟩) (⟨sx rfl,trivial⟩) trivial) ?_;refine uAm rfl (fun hc=>?_) (fun hc=>?_)
 ·try simp only [nn,uAi,T.rows_len,Tk.rows_len] at hc
  have h : symQ l p c=false:=by simp only [symQ]; grind
  have h2 : symP l p c=p:=by rw [symP,h]; rfl
  rw [h,h2]
  refine uAe (uAb ?_);refine uAa rfl rfl rfl (uAd rfl gU) ?_;refine uAf ?_;refine uAp ?_
  repeat (first | refine tR ?_ | refine bR ?_)
  refine uAs rfl ?_ (⟨⟨_,rfl,?_⟩,trivial⟩)
  (all_goals rfl)
 ·try simp only [nn,uAi,T.rows_len,Tk.rows_len] at hc
  have h : symQ l p c=true:=by simp only [symQ]; grind
  have h2 : symP l p c=p.go:=by rw [symP,if_pos h]
  rw [h,h2]
  refine uAo ?_;refine uAe (uAb ?_);refine uAa rfl rfl rfl (uAc rfl gU) ?_;refine uAa rfl rfl rfl (uAA rfl gU) ?_;refine uAa rfl rfl rfl (uAg rfl gU rfl rfl) ?_;refine uAa rfl rfl rfl (uAl rfl gU rfl rfl rfl rfl) ?_;refine uAa rfl rfl rfl (uAr rfl rfl gU gU rfl (IntWalk.i64_in _ (by omega))) ?_;refine uAa rfl rfl rfl (uAA rfl gU) ?_;refine uAa rfl rfl rfl (uAg rfl gU rfl rfl) ?_;refine uAw rfl (uAB rfl rfl rfl rfl rfl rfl rfl) ?_;refine uAf ?_;refine uAn (s:=⟨[],[(.o 0,_)],[],[]⟩) (uAj trivial (⟨sx rfl,trivial⟩) trivial) ?_;refine uAe (uAb ?_);refine uAa rfl rfl rfl (uAd rfl gU) ?_;refine uAf ?_;refine uAp ?_
  repeat (first | refine tR ?_ | refine bR ?_)
  refine uAs rfl ?_ (⟨⟨_,rfl,?_⟩,trivial⟩)
  (all_goals first | rfl | exact uOi (by simp [PS.go]) rfl)
theorem uBe (l : List Tk) (p : PS) (c : List UInt8) (hl : l.length≤2000000) (hp : p.at'≤3000000) : Ctr sys 60 [xpp,xs c] [pbx l p] (.tup []) none [pbx l (uA7 l c p)]:=by
 refine uAy Tryz.func60 rfl rfl rfl rfl rfl rfl ?_;refine uAe (uAb ?_);refine uAa rfl rfl rfl (uAc rfl gU) ?_;refine uAa rfl rfl rfl (uAc rfl gU) ?_;refine uAO (.o 0) rfl rfl rfl rfl rfl rfl (uB0 _ _ _ (by omega) (by omega)) rfl (by rfl) (by rfl) rfl rfl rfl ?_;refine uAa rfl rfl rfl (uAV rfl gU) ?_;refine uAf ?_;refine uAm rfl (fun hc=>?_) (fun hc=>?_)
 ·try simp only [nn,uAi,T.rows_len,Tk.rows_len] at hc
  have h2 : symP l p c=p:=by rw [symP,hc]; rfl
  have h3 : uA7 l c p=p.off:=by rw [uA7,hc]; rfl
  rw [h2,h3]
  refine uAb ?_;refine uAa rfl rfl rfl (uAc rfl gU) ?_;refine uAa rfl rfl rfl (uAA rfl gU) ?_;refine uAa rfl rfl rfl (uAg rfl gU rfl rfl) ?_;refine uAw rfl (uAB rfl rfl rfl rfl rfl rfl rfl) ?_;refine uAf ?_;refine uMi rfl ?_ (⟨⟨_,rfl,?_⟩,trivial⟩)
  (all_goals rfl)
 ·try simp only [nn,uAi,T.rows_len,Tk.rows_len] at hc
  have h2 : symP l p c=p.go:=by rw [symP,if_pos hc]
  have h3 : uA7 l c p=p.go:=by rw [uA7,if_pos hc]
  rw [h2,h3]
  refine uAo ?_;refine uMi rfl ?_ (⟨⟨_,rfl,?_⟩,trivial⟩)
  (all_goals rfl)
theorem uBF (l : List Tk) (p : PS) (ws : List (List UInt8)) (hl : l.length≤2000000) (hp : p.at'≤3000000) : Ctr sys 59 [xpp,xss ws] [pbx l p] (xs (uAz l ws p).1) none [pbx l (uAz l ws p).2]:=by
 have hrl:=Tk.rows_len l
 have hws:=uAi ws
 refine uAy Tryz.func59 rfl rfl rfl rfl rfl rfl ?_;refine uAe (uAb ?_);refine uAa rfl rfl rfl (uAd rfl gU) ?_;refine uAf ?_;refine uAe ?_;refine uAe ?_;refine awp_drawn' (by kernel_rfl) ?_;refine uAh rfl rfl rfl rfl (uAc rfl gU) ?_;refine uAh rfl rfl rfl rfl (uAA rfl gU) ?_;refine uAh rfl rfl rfl rfl (uAg rfl gU rfl rfl) ?_;refine uAS rfl rfl rfl rfl rfl rfl rfl gU rfl rfl rfl rfl ?_;refine uAh rfl rfl rfl rfl (uAc rfl gU) ?_;refine uAh rfl rfl rfl rfl (uAc rfl gU) ?_;refine uAh rfl rfl rfl rfl (uAA rfl (fun hh=>hh)) ?_;refine uAh rfl rfl rfl rfl (uAg rfl (fun hh=>hh) rfl rfl) ?_;refine uAS rfl rfl rfl rfl rfl rfl rfl (fun hh=>hh) rfl rfl rfl rfl ?_;refine uAh rfl rfl rfl rfl (uAc rfl gU) ?_;refine uAh rfl rfl rfl rfl (uAA rfl (fun hh=>hh)) ?_;refine uAh rfl rfl rfl rfl (uAg rfl (fun hh=>hh) rfl rfl) ?_;refine uAS rfl rfl rfl rfl rfl rfl rfl (fun hh=>hh) rfl rfl rfl rfl ?_;refine uAh rfl rfl rfl rfl (uAY rfl (fun hh=>hh) rfl rfl) ?_;refine uAh rfl rfl rfl rfl (uAk rfl rfl (fun hh=>hh) (fun hh=>hh) rfl) ?_;refine uAh rfl rfl rfl rfl (uAK rfl rfl gU (fun _ hi=>gP rfl hi)) ?_;refine uAh rfl rfl rfl rfl (uAc rfl gU) ?_;refine uAh rfl rfl rfl rfl (uAc rfl gU) ?_;refine uAh rfl rfl rfl rfl (uAA rfl (fun hh=>hh)) ?_;refine uAh rfl rfl rfl rfl (uAg rfl (fun hh=>hh) rfl rfl) ?_
 refine uAS rfl rfl rfl rfl rfl rfl rfl (fun hh=>hh) rfl rfl rfl rfl ?_;refine uAh rfl rfl rfl rfl (uAc rfl gU) ?_;refine uAh rfl rfl rfl rfl (uAA rfl (fun hh=>hh)) ?_;refine uAh rfl rfl rfl rfl (uAg rfl (fun hh=>hh) rfl rfl) ?_;refine uAS rfl rfl rfl rfl rfl rfl rfl (fun hh=>hh) rfl rfl rfl rfl ?_;refine uAh rfl rfl rfl rfl (uAq (j:=p.at') rfl rfl (fun hh=>hh) (fun hh=>hh) rfl rfl (by first | omega | (simp at hh ⊢; omega)) (fun hh=>Tk.rows_at (by first | omega | (simp at hh ⊢; omega)))) ?_;refine uAh rfl rfl rfl rfl (uAP rfl (fun hh=>hh) rfl rfl) ?_;refine uAh rfl rfl rfl rfl (uAI rfl (fun hh=>hh) rfl rfl rfl) ?_;refine uAh rfl rfl rfl rfl (uAk rfl rfl (fun hh=>hh) gU rfl) ?_;refine uAh rfl rfl rfl rfl (uAK rfl rfl gU (fun _ hi=>gP rfl hi)) ?_;refine uAh rfl rfl rfl rfl (uAc rfl gU) ?_;refine uAh rfl rfl rfl rfl (uAc rfl gU) ?_;refine uAh rfl rfl rfl rfl (uAY rfl (fun hh=>hh) rfl rfl) ?_;refine uAh rfl rfl rfl rfl (uAk rfl rfl (fun hh=>hh) gU rfl) ?_;refine uAh rfl rfl rfl rfl (uAc rfl (fun hh=>hh)) ?_;refine uAh rfl rfl rfl rfl (uAc rfl gU) ?_;refine uAh rfl rfl rfl rfl (uAc rfl gU) ?_;refine uAh rfl rfl rfl rfl (uAA rfl (fun hh=>hh)) ?_;refine uAh rfl rfl rfl rfl (uAg rfl (fun hh=>hh) rfl rfl) ?_;refine uAS rfl rfl rfl rfl rfl rfl rfl (fun hh=>hh) rfl rfl rfl rfl ?_
 refine uAh rfl rfl rfl rfl (uAc rfl gU) ?_;refine uAh rfl rfl rfl rfl (uAA rfl (fun hh=>hh)) ?_;refine uAh rfl rfl rfl rfl (uAg rfl (fun hh=>hh) rfl rfl) ?_;refine uAS rfl rfl rfl rfl rfl rfl rfl (fun hh=>hh) rfl rfl rfl rfl ?_;refine uAh rfl rfl rfl rfl (uAq (j:=p.at') rfl rfl (fun hh=>hh) (fun hh=>hh) rfl rfl (by first | omega | (simp at hh ⊢; omega)) (fun hh=>Tk.rows_at (by first | omega | (simp at hh ⊢; omega)))) ?_;refine uAh rfl rfl rfl rfl (uAP rfl (fun hh=>hh) rfl rfl) ?_;refine uAh rfl rfl rfl rfl (uAI rfl (fun hh=>hh) rfl rfl rfl) ?_;refine uA4 rfl rfl rfl rfl rfl rfl rfl gU (fun hh=>gA ((fun hh=>hh) hh) (gA ((fun hh=>hh) hh) (rfl))) (uIf _ _) rfl ?_;refine uAh rfl rfl rfl rfl (uAV rfl (fun hh=>hh)) ?_;refine uAh rfl rfl rfl rfl (uAR rfl rfl (fun hh=>hh) (fun hh hi=>gP hh hi)) ?_;refine uAh rfl rfl rfl rfl (uAK rfl rfl gU (fun _ hi=>gP rfl hi)) ?_;refine uA8 (by kernel_rfl) ?_;refine uAn (s:=⟨[(0,_,_),(55,_,_)],[(.o 0,_)],[],[]⟩) (uAj (⟨sx rfl,sx rfl,trivial⟩) (⟨sx rfl,trivial⟩) trivial) ?_;refine uAm rfl (fun hc=>?_) (fun hc=>?_)
 ·try simp only [nn,uAi,T.rows_len,Tk.rows_len] at hc
  have h : namQ l p ws=false:=by
   simp only [namQ]
   by_cases hw : ws=[]
   ·subst hw; simp at hc ⊢; grind
   ·have : 0 < ws.length:=List.length_pos_iff.2 hw
    simp [hw]; grind
  have h2 : uAz l ws p=([],p.off):=by rw [uAz,h]; rfl
  rw [h2]
  refine uAe (uAb ?_);refine uAa rfl rfl rfl (uAc rfl gU) ?_;refine uAa rfl rfl rfl (uAA rfl gU) ?_;refine uAa rfl rfl rfl (uAg rfl gU rfl rfl) ?_;refine uAw rfl (uAB rfl rfl rfl rfl rfl rfl rfl) ?_;refine uAf ?_;refine uAe (uAb ?_);refine uAa rfl rfl rfl (uAd rfl gU) ?_;refine uAf ?_;refine uAp ?_
  repeat (first | refine tR ?_ | refine bR ?_)
  refine uAs rfl ?_ (⟨⟨_,rfl,?_⟩,trivial⟩)
  (all_goals rfl)
 ·try simp only [nn,uAi,T.rows_len,Tk.rows_len] at hc
  have h : namQ l p ws=true:=by
   simp only [namQ]
   by_cases hw : ws=[]
   ·subst hw; simp at hc ⊢; grind
   ·have : 0 < ws.length:=List.length_pos_iff.2 hw
    simp [hw]; grind
  have h2 : uAz l ws p=((l.getD p.at' tk0).text,p.go):=by rw [uAz,if_pos h]
  rw [h2]
  refine uAo ?_;refine uAe (uAb ?_);refine uAa rfl rfl rfl (uAc rfl gU) ?_;refine uAa rfl rfl rfl (uAA rfl gU) ?_;refine uAa rfl rfl rfl (uAg rfl gU rfl rfl) ?_;refine uAa rfl rfl rfl (uAl rfl gU rfl rfl rfl rfl) ?_;refine uAa rfl rfl rfl (uAr rfl rfl gU gU rfl (IntWalk.i64_in _ (by omega))) ?_;refine uAa rfl rfl rfl (uAA rfl gU) ?_;refine uAa rfl rfl rfl (uAg rfl gU rfl rfl) ?_;refine uAw rfl (uAB rfl rfl rfl rfl rfl rfl rfl) ?_;refine uAf ?_;refine uAn (s:=⟨[(0,_,_)],[(.o 0,_)],[],[]⟩) (uAj (⟨sx rfl,trivial⟩) (⟨sx rfl,trivial⟩) trivial) ?_;refine uAe ?_;refine awp_drawn' (by kernel_rfl) ?_;refine uAh rfl rfl rfl rfl (uAc rfl gU) ?_;refine uAh rfl rfl rfl rfl (uAA rfl gU) ?_;refine uAh rfl rfl rfl rfl (uAg rfl gU rfl rfl) ?_;refine uAS rfl rfl rfl rfl rfl rfl rfl gU rfl rfl rfl rfl ?_;refine uAh rfl rfl rfl rfl (uAc rfl gU) ?_;refine uAh rfl rfl rfl rfl (uAA rfl gU) ?_;refine uAh rfl rfl rfl rfl (uAg rfl gU rfl rfl) ?_;refine uAS rfl rfl rfl rfl rfl rfl rfl gU rfl rfl rfl rfl ?_;refine uAh rfl rfl rfl rfl (uAr rfl rfl gU gU rfl (IntWalk.i64_in _ (by omega))) ?_;refine uAh rfl rfl rfl rfl (uAq (j:=p.at') rfl rfl gU gU rfl rfl (by first | omega | (simp at hh ⊢; omega)) (fun hh=>Tk.rows_at (by first | omega | (simp at hh ⊢; omega)))) ?_
  refine uAh rfl rfl rfl rfl (uAP rfl gU rfl rfl) ?_;refine uAh rfl rfl rfl rfl (uAI rfl gU rfl rfl rfl) ?_;refine uAh rfl rfl rfl rfl (uAd rfl gU) ?_;refine uA8 (by kernel_rfl) ?_;refine uAp ?_
  repeat (first | refine tR ?_ | refine bR ?_)
  refine uAs rfl ?_ (⟨⟨_,rfl,?_⟩,trivial⟩)
  (all_goals first | rfl | exact uOi (by simp [PS.go]) rfl)
theorem uLw (l : List Tk) (p : PS) (hl : l.length≤2000000) : Ctr sys 113 [xpp] [pbx l p] (xi (uKL l p)) none [pbx l p]:=by
 have hrl:=Tk.rows_len l
 refine uAy Tryz.func113 rfl rfl rfl rfl rfl rfl ?_;refine uAe (uAb ?_);refine uAa rfl rfl rfl (uAd rfl gU) ?_;refine uAf ?_;refine uAe ?_;refine uAt ?_;refine uAe (uAb ?_);refine uAa rfl rfl rfl (uAc rfl gU) ?_;refine uAa rfl rfl rfl (uAA rfl gU) ?_;refine uAa rfl rfl rfl (uAg rfl gU rfl rfl) ?_;refine uAa rfl rfl rfl (uAl rfl gU rfl rfl rfl rfl) ?_;refine uAL rfl rfl rfl rfl rfl gU rfl rfl ?_ (fun hh=>by simp at hh); intro hlen;refine uAa rfl rfl rfl (uAk rfl rfl gU gU rfl) ?_;refine uAa rfl rfl rfl (uAd rfl gU) ?_;refine uAf ?_;refine uAn (s:=⟨[(0,_,_),(3,_,_)],[(.o 0,_)],[],[]⟩) (uAj (⟨sx rfl,sx rfl,trivial⟩) (⟨sx rfl,trivial⟩) trivial) ?_;refine uAm rfl (fun hc=>?_) (fun hc=>?_)
 ·try simp only [nn,uAi,T.rows_len,Tk.rows_len] at hc
  refine uAe (uAb ?_);refine uAa rfl rfl rfl (uAd rfl gU) ?_;refine uAf ?_;refine uAp ?_
  repeat (first | refine tR ?_ | refine bR ?_)
  refine uAs rfl ?_ (⟨⟨_,rfl,?_⟩,trivial⟩)
  (all_goals first | rfl | (rw [uKL,if_pos (by omega)]; rfl))
 ·try simp only [nn,uAi,T.rows_len,Tk.rows_len] at hc
  refine uAe ?_;refine awp_drawn' (by kernel_rfl) ?_;refine uAh rfl rfl rfl rfl (uAc rfl gU) ?_;refine uAh rfl rfl rfl rfl (uAA rfl gU) ?_;refine uAh rfl rfl rfl rfl (uAg rfl gU rfl rfl) ?_;refine uAS rfl rfl rfl rfl rfl rfl rfl gU rfl rfl rfl rfl ?_;refine uAh rfl rfl rfl rfl (uAc rfl gU) ?_;refine uAh rfl rfl rfl rfl (uAA rfl gU) ?_;refine uAh rfl rfl rfl rfl (uAg rfl gU rfl rfl) ?_;refine uAS rfl rfl rfl rfl rfl rfl rfl gU rfl rfl rfl rfl ?_;refine uAh rfl rfl rfl rfl (uAY rfl gU rfl rfl) ?_;refine uAh rfl rfl rfl rfl (uAk rfl rfl gU gU rfl) ?_;refine uAh rfl rfl rfl rfl (uAd rfl gU) ?_;refine uA8 (by kernel_rfl) ?_;refine uAn (s:=⟨[(0,_,_),(10,_,_)],[(.o 0,_)],[],[]⟩) (uAj (⟨sx rfl,sx rfl,trivial⟩) (⟨sx rfl,trivial⟩) trivial) ?_;refine uAm rfl (fun hc2=>?_) (fun hc2=>?_)
  ·try simp only [nn,uAi,T.rows_len,Tk.rows_len] at hc2
   refine uAe ?_;refine awp_drawn' (by kernel_rfl) ?_;refine uAh rfl rfl rfl rfl (uAc rfl gU) ?_;refine uAh rfl rfl rfl rfl (uAA rfl gU) ?_;refine uAh rfl rfl rfl rfl (uAg rfl gU rfl rfl) ?_;refine uAS rfl rfl rfl rfl rfl rfl rfl gU rfl rfl rfl rfl ?_;refine uAh rfl rfl rfl rfl (uAc rfl gU) ?_;refine uAh rfl rfl rfl rfl (uAA rfl gU) ?_;refine uAh rfl rfl rfl rfl (uAg rfl gU rfl rfl) ?_;refine uAS rfl rfl rfl rfl rfl rfl rfl gU rfl rfl rfl rfl ?_;refine uAh rfl rfl rfl rfl (uAY rfl gU rfl rfl) ?_;refine uAh rfl rfl rfl rfl (uAr rfl rfl gU gU rfl (IntWalk.i64_in _ (by omega))) ?_;refine uAh rfl rfl rfl rfl (uAq (j:=(l.length - 1)) rfl rfl gU gU rfl rfl (by first | omega | (simp at hh ⊢; omega)) (fun hh=>Tk.rows_at (by first | omega | (simp at hh ⊢; omega)))) ?_;refine uAh rfl rfl rfl rfl (uAP rfl gU rfl rfl) ?_;refine uAh rfl rfl rfl rfl (uAI rfl gU rfl rfl rfl) ?_;refine uAh rfl rfl rfl rfl (uAd rfl gU) ?_;refine uA8 (by kernel_rfl) ?_;refine uAp ?_
   repeat (first | refine tR ?_ | refine bR ?_)
   refine uAs rfl ?_ (⟨⟨_,rfl,?_⟩,trivial⟩)
   (all_goals first | rfl | (rw [uKL,if_neg (by omega),if_pos (by omega)]; rfl))
  ·try simp only [nn,uAi,T.rows_len,Tk.rows_len] at hc2
   refine uAo ?_;refine uAe ?_;refine awp_drawn' (by kernel_rfl) ?_;refine uAh rfl rfl rfl rfl (uAc rfl gU) ?_;refine uAh rfl rfl rfl rfl (uAA rfl gU) ?_;refine uAh rfl rfl rfl rfl (uAg rfl gU rfl rfl) ?_;refine uAS rfl rfl rfl rfl rfl rfl rfl gU rfl rfl rfl rfl ?_;refine uAh rfl rfl rfl rfl (uAc rfl gU) ?_;refine uAh rfl rfl rfl rfl (uAA rfl gU) ?_;refine uAh rfl rfl rfl rfl (uAg rfl gU rfl rfl) ?_;refine uAS rfl rfl rfl rfl rfl rfl rfl gU rfl rfl rfl rfl ?_;refine uAh rfl rfl rfl rfl (uAq (j:=p.at') rfl rfl gU gU rfl rfl (by first | omega | (simp at hh ⊢; omega)) (fun hh=>Tk.rows_at (by first | omega | (simp at hh ⊢; omega)))) ?_;refine uAh rfl rfl rfl rfl (uAP rfl gU rfl rfl) ?_;refine uAh rfl rfl rfl rfl (uAI rfl gU rfl rfl rfl) ?_;refine uAh rfl rfl rfl rfl (uAd rfl gU) ?_;refine uA8 (by kernel_rfl) ?_;refine uAp ?_
   repeat (first | refine tR ?_ | refine bR ?_)
   refine uAs rfl ?_ (⟨⟨_,rfl,?_⟩,trivial⟩)
   (all_goals first | rfl | (rw [uKL,if_neg (by omega),if_neg (by omega)]; rfl))
theorem uGk (l : List Tk) (p : PS) (hl : l.length≤2000000) : Ctr sys 63 [xpp] [pbx l p] (.tup [.c (.i .i64 (endE l p).1), .c (.i .i64 (endE l p).2)]) none [pbx l p]:=by
 have hrl:=Tk.rows_len l
 refine uAy Tryz.func63 rfl rfl rfl rfl rfl rfl ?_;refine uAe (uAb ?_);refine uAa rfl rfl rfl (uAd rfl gU) ?_;refine uAa rfl rfl rfl (uAd rfl gU) ?_;refine uAf ?_;refine uAe ?_;refine uAe ?_;refine awp_drawn' (by kernel_rfl) ?_;refine uAh rfl rfl rfl rfl (uAc rfl gU) ?_;refine uAh rfl rfl rfl rfl (uAA rfl gU) ?_;refine uAh rfl rfl rfl rfl (uAg rfl gU rfl rfl) ?_;refine uAS rfl rfl rfl rfl rfl rfl rfl gU rfl rfl rfl rfl ?_;refine uAh rfl rfl rfl rfl (uAc rfl gU) ?_;refine uAh rfl rfl rfl rfl (uAc rfl gU) ?_;refine uAh rfl rfl rfl rfl (uAA rfl (fun hh=>hh)) ?_;refine uAh rfl rfl rfl rfl (uAg rfl (fun hh=>hh) rfl rfl) ?_;refine uAS rfl rfl rfl rfl rfl rfl rfl (fun hh=>hh) rfl rfl rfl rfl ?_;refine uAh rfl rfl rfl rfl (uAc rfl gU) ?_;refine uAh rfl rfl rfl rfl (uAA rfl (fun hh=>hh)) ?_;refine uAh rfl rfl rfl rfl (uAg rfl (fun hh=>hh) rfl rfl) ?_;refine uAS rfl rfl rfl rfl rfl rfl rfl (fun hh=>hh) rfl rfl rfl rfl ?_;refine uAh rfl rfl rfl rfl (uAY rfl (fun hh=>hh) rfl rfl) ?_;refine uAh rfl rfl rfl rfl (uAk rfl rfl (fun hh=>hh) (fun hh=>hh) rfl) ?_;refine uAh rfl rfl rfl rfl (uAK rfl rfl gU (fun _ hi=>gP rfl hi)) ?_;refine uA8 (by kernel_rfl) ?_;refine uAn (s:=⟨[(0,_,_),(19,_,_)],[(.o 0,_)],[],[]⟩) (uAj (⟨sx rfl,sx rfl,trivial⟩) (⟨sx rfl,trivial⟩) trivial) ?_
 refine uAm rfl (fun hc=>?_) (fun hc=>?_)
 ·try simp only [nn,uAi,T.rows_len,Tk.rows_len] at hc
  refine uAe (uAb ?_);refine uAa rfl rfl rfl (uAc rfl gU) ?_;refine uAO (.o 0) rfl rfl rfl rfl rfl rfl (uLw _ _ (by omega)) rfl (by rfl) (by rfl) rfl rfl rfl ?_;refine uAa rfl rfl rfl (uAd rfl gU) ?_;refine uAa rfl rfl rfl (uAd rfl gU) ?_;refine uAf ?_;refine uAp ?_
  repeat (first | refine tR ?_ | refine bR ?_)
  refine uAs rfl ?_ (⟨⟨_,rfl,?_⟩,trivial⟩)
  (all_goals first | rfl | (rw [endE,if_pos (by grind)]; rfl))
 ·try simp only [nn,uAi,T.rows_len,Tk.rows_len] at hc
  refine uAo ?_;refine uAe (uAb ?_);refine uAa rfl rfl rfl (uAd rfl gU) ?_;refine uAa rfl rfl rfl (uAd rfl gU) ?_;refine uAf ?_;refine uAp ?_
  repeat (first | refine tR ?_ | refine bR ?_)
  refine uAs rfl ?_ (⟨⟨_,rfl,?_⟩,trivial⟩)
  (all_goals first | rfl | (rw [endE,if_neg (by grind)]; rfl))
end Go.Proofs.YtnjjdbapadkomaaGreatDoor
namespace Go.Proofs.YtnjjdbapadkomaaGreatDoor
open Go Go.Abs
theorem uCC {l : List Tk} {p : PS} {c : List UInt8} (h : symQ l p c=true) : p.at' < l.length∧p.bad=false:=by
 simp only [symQ,Bool.and_eq_true,decide_eq_true_eq,Bool.not_eq_true'] at h
 exact ⟨h.1.1.2,h.1.1.1⟩
theorem uBs (l : List Tk) (c : List UInt8) (p : PS) : p.at'≤(uA7 l c p).at'∧(p.at'≤l.length→(uA7 l c p).at'≤l.length):=by
 unfold uA7
 split
 ·rename_i h; have := (uCC h).1; simp only [PS.go]; omega
 ·simp [PS.off]
theorem uA6 (l : List Tk) (ws : List (List UInt8)) (p : PS) : p.at'≤(uAz l ws p).2.at'∧(p.at'≤l.length→(uAz l ws p).2.at'≤l.length):=by
 unfold uAz
 split
 ·rename_i h
  simp only [namQ,Bool.and_eq_true,decide_eq_true_eq] at h
  have := h.1.1.2
  simp only [PS.go]; omega
 ·simp [PS.off]
theorem uCZ {α : Type} {l : List Tk} {f : PS→α × PS} {p : PS} {out : List α} (h : symQ l p [44]=false) : ∀ n,uBQ l f n p out=(out,p)
 | 0=>rfl
 | n + 1=>by rw [uBQ,h]; rfl
theorem uFA {α : Type} {l : List Tk} {f : PS→α × PS} {p : PS} {out : List α} {n : Nat} (h : symQ l p [44]=true) : uBQ l f (n + 1) p out=uBQ l f n (f p.go).2 (out++[(f p.go).1]):=by rw [uBQ,if_pos h]
theorem uDT (l : List Tk) (p : PS) (hl : l.length≤2000000) (hp : p.at'≤l.length) : Ctr sys 109 [xpp] [pbx l p] (xss (uBH l p).1) none [pbx l (uBH l p).2]:=by
 have hrl:=Tk.rows_len l
 have h0:=uA6 l [] p
 refine uAy Tryz.func109 rfl rfl rfl rfl rfl rfl ?_;refine uAe (uAb ?_);refine uAw rfl (uBq (.inr rfl) rfl rfl) ?_;refine uAf ?_;refine uAe (uAb ?_);refine uAa rfl rfl rfl (uAc rfl gU) ?_;refine uAO (.o 0) rfl rfl rfl rfl rfl rfl (uBF l _ [] (by omega) (by first | omega | (simp only [PS.go]; omega))) rfl (by rfl) (by rfl) rfl rfl rfl ?_;refine uAQ (xs:=[_]) rfl rfl rfl rfl rfl rfl rfl rfl rfl gU rfl ?_;refine uAw rfl (uAN (.inr rfl) rfl rfl rfl) ?_;refine uAf ?_;refine uAn (s:=⟨[(0,_,_),(3,_,_)],[(.o 0,_)],[(.t 3,_)],[]⟩) (uAj (⟨sx rfl,sx rfl,trivial⟩) (⟨sx rfl,trivial⟩) (⟨rfl,trivial⟩)) ?_;refine uAe ?_;refine uAt ?_;refine uAW (ι:=PS × List (List UInt8)) { t:=[(0,_,_)],bx:=[],ow:=[(.t 3,_)] } (fun q=>[(3,true,xss q.2)]) (fun q=>[((.o 0),pbx l q.1)]) (fun q=>q.1.at'≤l.length∧q.2.length≤q.1.at' + 1 ∧ ∃ n,l.length + 1≤n + q.1.at'∧uBQ l (uAz l []) n q.1 q.2=uBH l p) (fun q=>l.length - q.1.at') (((uAz l [] p).2,[(uAz l [] p).1])) (⟨h0.2 hp,by simp,_,by dsimp only; omega,rfl⟩) (uAj (⟨sx rfl,sx rfl,trivial⟩) (⟨sx rfl,trivial⟩) (⟨rfl,trivial⟩)) ?_
 intro q hok
 dsimp only [List.cons_append,List.nil_append] at *
 obtain ⟨q,out⟩:=q
 dsimp only at hok ⊢
 obtain ⟨hq,ho,n,hn,hi⟩:=hok
 have hro:=uAi out
 refine uAe ?_;refine uAe (uAb ?_);refine uAa rfl rfl rfl (uAc rfl gU) ?_;refine uAO (.o 0) rfl rfl rfl rfl rfl rfl (uB0 _ _ _ (by omega) (by omega)) rfl (by rfl) (by rfl) rfl rfl rfl ?_;refine uAf ?_;refine uAm rfl (fun hc=>?_) (fun hc=>?_)
 ·try simp only [nn,uAi,T.rows_len,Tk.rows_len] at hc
  have hlt:=(uCC hc).1
  have hs : symP l q [44]=q.go:=by rw [symP,if_pos hc]
  have h1:=uA6 l [] q.go
  have hg : q.go.at'=q.at' + 1:=rfl
  obtain ⟨n,rfl⟩ : ∃ k,n=k + 1:=⟨n - 1,by omega⟩
  rw [uFA hc] at hi
  rw [hs]
  refine uAo ?_;refine uAt ?_;refine uAb ?_;refine uAw rfl (uAN (.inl rfl) rfl rfl rfl) ?_;refine uAa rfl rfl rfl (uAc rfl gU) ?_;refine uAO (.o 0) rfl rfl rfl rfl rfl rfl (uBF l _ [] (by omega) (by first | omega | (simp only [PS.go]; omega))) rfl (by rfl) (by rfl) rfl rfl rfl ?_;refine uAQ (xs:=[_]) rfl rfl rfl rfl rfl rfl rfl rfl rfl gU rfl ?_;refine uAw rfl (uA2 rfl rfl rfl rfl rfl rfl rfl (by first | omega | (simp only [List.length_append,List.length_singleton,uAi]; omega)) (by first | omega | (simp only [List.length_append,List.length_singleton,uAi]; omega))) ?_;refine uAw rfl (uAN (.inr rfl) rfl rfl rfl) ?_;refine uAf ?_;refine ⟨((uAz l [] q.go).2,out++[(uAz l [] q.go).1]),?_,?_,uAj (⟨⟨_,rfl,?_⟩,⟨sx rfl,trivial⟩⟩) (⟨⟨_,rfl,?_⟩,trivial⟩) (⟨rfl,trivial⟩)⟩
  ·exact ⟨h1.2 (by omega),by simp only [List.length_append,List.length_singleton]; omega,n,by dsimp only; omega,hi⟩
  ·dsimp only; omega
  ·exact tx (uCb _ _)
  ·rfl
 ·try simp only [nn,uAi,T.rows_len,Tk.rows_len] at hc
  have hs : symP l q [44]=q:=by rw [symP,hc]; rfl
  rw [uCZ hc] at hi
  rw [hs]
  refine uAM ?_
  repeat (first | refine uAD ?_ | refine uAE ?_ | refine uAC rfl ?_)
  refine uAe (uAb ?_);refine uAw rfl (uAN (.inl rfl) rfl rfl rfl) ?_;refine uAw rfl (uAN (.inr rfl) rfl rfl rfl) ?_;refine uAf ?_;refine uAp ?_
  repeat (first | refine tR ?_ | refine bR ?_)
  refine uAs rfl ?_ (⟨⟨_,rfl,?_⟩,trivial⟩)
  (all_goals first | (rw [← hi]; done) | (rw [← hi]; rfl))
end Go.Proofs.YtnjjdbapadkomaaGreatDoor
namespace Go.Proofs.YtnjjdbapadkomaaGreatDoor
open Go Go.Abs
theorem uKv {α : Type} {l : List Tk} {f : PS→α × PS} (hf : ∀ p,p.at'≤(f p).2.at'∧(p.at'≤l.length→(f p).2.at'≤l.length)) : ∀ (n : Nat) (p : PS) (out : List α),p.at'≤(uBQ l f n p out).2.at'∧(p.at'≤l.length→(uBQ l f n p out).2.at'≤l.length)
 | 0,p,out=>by simp [uBQ]
 | n + 1,p,out=>by
  rw [uBQ]
  split
  ·rename_i h
   have h1:=(uCC h).1
   have h2:=hf p.go
   have h3:=uKv hf n (f p.go).2 (out++[(f p.go).1])
   have hg : p.go.at'=p.at' + 1:=rfl
   omega
  ·simp
theorem uDa {α : Type} {l : List Tk} {f : PS→α × PS} (hf : ∀ p,p.at'≤(f p).2.at'∧(p.at'≤l.length→(f p).2.at'≤l.length)) (p : PS) : p.at'≤(uBi l f p).2.at'∧(p.at'≤l.length→(uBi l f p).2.at'≤l.length):=by
 have h1:=hf p
 have h2:=uKv hf (l.length + 1) (f p).2 [(f p).1]
 unfold uBi; omega
theorem uCG (l : List Tk) : ∀ (n : Nat) (p : PS),p.at'≤(uAU l n p).2.at'∧(p.at'≤l.length→(uAU l n p).2.at'≤l.length)
 | 0,p=>by simp [uAU]
 | n + 1,p=>by
  have ih:=uCG l n
  have hg : ∀ q : PS,q.go.at'=q.at' + 1:=fun _=>rfl
  rw [uAU]
  split
  ·rename_i h
   have h1:=(uCC h).1
   have h2:=ih p.go
   have h3:=uBs l [44] (uAU l n p.go).2
   have h4:=uDa ih (uA7 l [44] (uAU l n p.go).2)
   have h5:=uBs l [62] (uBi l (uAU l n) (uA7 l [44] (uAU l n p.go).2)).2
   have := hg p
   dsimp only; omega
  ·have h1:=uA6 l [] p
   split
   ·rename_i h
    have h2:=(uCC h).1
    split
    ·rename_i h3
     have h4:=(uCC h3).1
     have := hg (uAz l [] p).2
     have := hg (uAz l [] p).2.go
     dsimp only; omega
    ·have h3:=uDa ih (uAz l [] p).2.go
     have h4:=uBs l [41] (uBi l (uAU l n) (uAz l [] p).2.go).2
     have := hg (uAz l [] p).2
     dsimp only; omega
   ·exact h1
theorem uJ9 (l : List Tk) (n : Nat) (hl : l.length≤2000000) (ih : ∀ p : PS,p.at'≤l.length→l.length - p.at' < n→Ctr sys 66 [xpp] [pbx l p] (xm (uAU l n p).1) none [pbx l (uAU l n p).2]) (p : PS) (hp : p.at'≤l.length) (hn : l.length - p.at' < n) :
  Ctr sys 116 [xpp] [pbx l p] (xl (uBi l (uAU l n) p).1) none [pbx l (uBi l (uAU l n) p).2]:=by
 have hrl:=Tk.rows_len l
 have h0:=uCG l n p
 refine uAy Tryz.func116 rfl rfl rfl rfl rfl rfl ?_;refine uAe (uAb ?_);refine uAw rfl (uBq (.inr rfl) rfl rfl) ?_;refine uAf ?_;refine uAe (uAb ?_);refine uAa rfl rfl rfl (uAc rfl gU) ?_;refine uAO (.o 0) rfl rfl rfl rfl rfl rfl (ih _ (by first | omega | (simp only [PS.go]; omega)) (by first | omega | (simp only [PS.go]; omega))) rfl (by rfl) (by rfl) rfl rfl rfl ?_;refine uAQ (xs:=[_]) rfl rfl rfl rfl rfl rfl rfl rfl rfl gU rfl ?_;refine uAw rfl (uAN (.inr rfl) rfl rfl rfl) ?_;refine uAf ?_;refine uAn (s:=⟨[(0,_,_),(3,_,_)],[(.o 0,_)],[(.t 3,_)],[]⟩) (uAj (⟨sx rfl,sx rfl,trivial⟩) (⟨sx rfl,trivial⟩) (⟨rfl,trivial⟩)) ?_;refine uAe ?_;refine uAt ?_;refine uAW (ι:=PS × List T) { t:=[(0,_,_)],bx:=[],ow:=[(.t 3,_)] } (fun q=>[(3,true,xl q.2)]) (fun q=>[((.o 0),pbx l q.1)]) (fun q=>p.at'≤q.1.at'∧q.1.at'≤l.length∧q.2.length≤q.1.at' + 1 ∧ ∃ k,l.length + 1≤k + q.1.at'∧uBQ l (uAU l n) k q.1 q.2=uBi l (uAU l n) p) (fun q=>l.length - q.1.at') (((uAU l n p).2,[(uAU l n p).1])) (⟨h0.1,h0.2 hp,by simp,_,by dsimp only; omega,rfl⟩) (uAj (⟨⟨_,rfl,by simp [T.rows_eq]⟩,⟨sx rfl,trivial⟩⟩) (⟨sx rfl,trivial⟩) (⟨rfl,trivial⟩)) ?_
 intro q hok
 dsimp only [List.cons_append,List.nil_append] at *
 obtain ⟨q,out⟩:=q
 dsimp only at hok ⊢
 obtain ⟨hq0,hq,ho,k,hk,hi⟩:=hok
 have hro:=T.rows_len out
 refine uAe ?_;refine uAe (uAb ?_);refine uAa rfl rfl rfl (uAc rfl gU) ?_;refine uAO (.o 0) rfl rfl rfl rfl rfl rfl (uB0 _ _ _ (by omega) (by omega)) rfl (by rfl) (by rfl) rfl rfl rfl ?_;refine uAf ?_;refine uAm rfl (fun hc=>?_) (fun hc=>?_)
 ·try simp only [nn,uAi,T.rows_len,Tk.rows_len] at hc
  have hlt:=(uCC hc).1
  have hs : symP l q [44]=q.go:=by rw [symP,if_pos hc]
  have h1:=uCG l n q.go
  have hg : q.go.at'=q.at' + 1:=rfl
  obtain ⟨k,rfl⟩ : ∃ j,k=j + 1:=⟨k - 1,by omega⟩
  rw [uFA hc] at hi
  rw [hs]
  refine uAo ?_;refine uAt ?_;refine uAb ?_;refine uAw rfl (uAN (.inl rfl) rfl rfl rfl) ?_;refine uAa rfl rfl rfl (uAc rfl gU) ?_;refine uAO (.o 0) rfl rfl rfl rfl rfl rfl (ih _ (by first | omega | (simp only [PS.go]; omega)) (by first | omega | (simp only [PS.go]; omega))) rfl (by rfl) (by rfl) rfl rfl rfl ?_;refine uAQ (xs:=[_]) rfl rfl rfl rfl rfl rfl rfl rfl rfl gU rfl ?_;refine uAw rfl (uA2 rfl rfl rfl rfl rfl rfl rfl (by first | omega | (simp only [List.length_append,List.length_singleton,T.rows_len]; omega)) (by first | omega | (simp only [List.length_append,List.length_singleton,T.rows_len]; omega))) ?_;refine uAw rfl (uAN (.inr rfl) rfl rfl rfl) ?_;refine uAf ?_;refine ⟨((uAU l n q.go).2,out++[(uAU l n q.go).1]),?_,?_,uAj (⟨⟨_,rfl,?_⟩,⟨sx rfl,trivial⟩⟩) (⟨⟨_,rfl,?_⟩,trivial⟩) (⟨rfl,trivial⟩)⟩
  ·exact ⟨by dsimp only; omega,h1.2 (by omega),by simp only [List.length_append,List.length_singleton]; omega,k,by dsimp only; omega,hi⟩
  ·dsimp only; omega
  ·exact tx (uFw _ _)
  ·rfl
 ·try simp only [nn,uAi,T.rows_len,Tk.rows_len] at hc
  have hs : symP l q [44]=q:=by rw [symP,hc]; rfl
  rw [uCZ hc] at hi
  rw [hs]
  refine uAM ?_
  repeat (first | refine uAD ?_ | refine uAE ?_ | refine uAC rfl ?_)
  refine uAe (uAb ?_);refine uAw rfl (uAN (.inl rfl) rfl rfl rfl) ?_;refine uAw rfl (uAN (.inr rfl) rfl rfl rfl) ?_;refine uAf ?_;refine uAp ?_
  repeat (first | refine tR ?_ | refine bR ?_)
  refine uAs rfl ?_ (⟨⟨_,rfl,?_⟩,trivial⟩)
  (all_goals first | (rw [← hi]; done) | (rw [← hi]; rfl))
end Go.Proofs.YtnjjdbapadkomaaGreatDoor
namespace Go.Proofs.YtnjjdbapadkomaaGreatDoor
open Go Go.Abs
def sortW0 : List (List UInt8):=[] :: [] :: sortW
def kindW0 : List (List UInt8):=[] :: kindW
def Keeps {α : Type} (f : PS→α × PS) : Prop:=∀ p : PS,p.bad=true→(f p).2=p
theorem uMg {p : PS} (h : p.bad=true) : p.off=p:=by cases p; simp [PS.off] at h ⊢; exact h
theorem uEK {l : List Tk} {p : PS} {c : List UInt8} (h : p.bad=true) : symQ l p c=false:=by simp [symQ,h]
theorem uM4 {l : List Tk} {p : PS} {ws : List (List UInt8)} (h : p.bad=true) : namQ l p ws=false:=by simp [namQ,h]
theorem uCv (l : List Tk) (c : List UInt8) {p : PS} (h : p.bad=true) : uA7 l c p=p:=by rw [uA7,uEK h]; exact uMg h
theorem uCf (l : List Tk) (ws : List (List UInt8)) : Keeps (uAz l ws):=fun p h=>by rw [uAz,uM4 h]; exact uMg h
theorem uNm {α : Type} {l : List Tk} {f : PS→α × PS} {p : PS} {out : List α} (n : Nat) (h : p.bad=true) : uBQ l f n p out=(out,p):=uCZ (uEK h) n
theorem uEo {α : Type} {l : List Tk} {f : PS→α × PS} (hf : Keeps f) : Keeps (uBi l f):=fun p h=>by
 unfold uBi; rw [hf p h,uNm _ h]
theorem uEF (l : List Tk) (n : Nat) : Keeps (uAU l n):=fun p h=>by
 cases n with
 | zero=>rfl
 | succ n=>rw [uAU,if_neg (by rw [uEK h]; simp),uCf l [] p h,if_neg (by rw [uEK h]; simp)]
theorem Keeps.good {α : Type} {f : PS→α × PS} (hf : Keeps f) {p : PS} (h : (f p).2.bad=false) : p.bad=false:=by
 cases hb : p.bad with
 | false=>rfl
 | true=>rw [hf p hb,hb] at h; exact h
theorem uLM {l : List Tk} {c : List UInt8} {p : PS} (h : (uA7 l c p).bad=false) : p.bad=false:=by
 cases hb : p.bad with
 | false=>rfl
 | true=>rw [uCv l c hb,hb] at h; exact h
theorem uM9 {l : List Tk} {ws : List (List UInt8)} {p : PS} (h : (uAz l ws p).2.bad=false) : namQ l p ws=true:=by
 cases hq : namQ l p ws with
 | true=>rfl
 | false=>rw [uAz,hq] at h; simp [PS.off] at h
theorem uLc {l : List Tk} {role : List UInt8} {p : PS} {out : List Fs} (h : p.bad=true) : ∀ n,uBE l role n p out=(out,p)
 | 0=>rfl
 | n + 1=>by rw [uBE,if_pos h]
theorem uJj (l : List Tk) (out : List Fs) : Keeps (fun p=>uBK l p out):=fun p h=>by
 show (uBE _ _ _ _ _).2=p
 rw [uCf l [] p h,uCv l [58] h,uLc h]
theorem uKu (l : List Tk) (line : Int) : Keeps (uCs l line):=fun p h=>by
 show (uAU _ _ _).2=p
 rw [uCf l [] p h,uCv l _ h,uCv l _ h,uCf l [] p h,uCv l _ h,uEF l _ p h]
theorem uKG (l : List Tk) (line : Int) : Keeps (uB6 l line):=fun p h=>by
 show (uBi _ _ _).2=p
 rw [uCf l kindW p h,uCf l [] p h]
 split
 ·rw [uCf l [] p h,uCv l _ h,uEo (uEF l _) p h]
 ·rw [uCv l _ h,uEo (uEF l _) p h]
theorem uFP (l : List Tk) : Keeps (uBH l):=uEo (uCf l [])
theorem uKZ (l : List Tk) (n : Nar) (line : Int) (w : List UInt8) : Keeps (uBB l n line w):=fun p h=>by
 unfold uBB
 repeat' split
 ·exact uFP l p h
 ·exact uJj l n.fresh p h
 ·exact uFP l p h
 ·exact uKu l line p h
 ·exact uKG l line p h
 ·rfl
theorem uI6 (l : List Tk) (role : List UInt8) : ∀ (n : Nat) (p : PS) (out : List Fs),p.at'≤(uBE l role n p out).2.at'∧(p.at'≤l.length→(uBE l role n p out).2.at'≤l.length)
 | 0,p,out=>by simp [uBE]
 | n + 1,p,out=>by
  have h1:=uA6 l [] p
  have h2:=uA6 l sortW (uAz l [] p).2
  rw [uBE]
  split
  ·simp
  split
  ·rename_i hq
   have h3:=(uCC hq).1
   have hg : (uAz l sortW (uAz l [] p).2).2.go.at'=(uAz l sortW (uAz l [] p).2).2.at' + 1:=rfl
   have h4:=uI6 l role n (uAz l sortW (uAz l [] p).2).2.go (out++[⟨role,(uAz l [] p).1,2 + uBw sortW (uAz l sortW (uAz l [] p).2).1⟩])
   omega
  ·dsimp only; omega
def Fwd {α : Type} (l : List Tk) (f : PS→α × PS) : Prop:=∀ p : PS,p.at'≤(f p).2.at'∧(p.at'≤l.length→(f p).2.at'≤l.length)
theorem uIR (l : List Tk) (out : List Fs) : Fwd l (fun p=>uBK l p out):=fun p=>by
 have h1:=uA6 l [] p
 have h2:=uBs l [58] (uAz l [] p).2
 have h3:=uI6 l (uAz l [] p).1 (l.length + 1) (uA7 l [58] (uAz l [] p).2) out
 show p.at'≤(uBE _ _ _ _ _).2.at'∧(_→(uBE _ _ _ _ _).2.at'≤_)
 omega
theorem uH9 (l : List Tk) (line : Int) : Fwd l (uCs l line):=fun p=>by
 have h1:=uA6 l [] p
 have h2:=uBs l [45] (uAz l [] p).2
 have h3:=uBs l [62] (uA7 l [45] (uAz l [] p).2)
 have h4:=uA6 l [] (uA7 l [62] (uA7 l [45] (uAz l [] p).2))
 have h5:=uBs l [58] (uAz l [] (uA7 l [62] (uA7 l [45] (uAz l [] p).2))).2
 have h6:=uCG l (l.length + 1) (uA7 l [58] (uAz l [] (uA7 l [62] (uA7 l [45] (uAz l [] p).2))).2)
 show p.at'≤(uAU _ _ _).2.at'∧(_→(uAU _ _ _).2.at'≤_)
 omega
theorem uHl (l : List Tk) (line : Int) : Fwd l (uB6 l line):=fun p=>by
 have h1:=uA6 l kindW p
 have h2:=uA6 l [] (uAz l kindW p).2
 have h3 : (uAz l [] (uAz l kindW p).2).2.at'≤(if uBo (1 + uBw kindW (uAz l kindW p).1)=true then uAz l [] (uAz l [] (uAz l kindW p).2).2 else ([],(uAz l [] (uAz l kindW p).2).2)).2.at'∧((uAz l [] (uAz l kindW p).2).2.at'≤l.length→(if uBo (1 + uBw kindW (uAz l kindW p).1)=true then uAz l [] (uAz l [] (uAz l kindW p).2).2 else ([],(uAz l [] (uAz l kindW p).2).2)).2.at'≤l.length):=by
  split
  ·exact uA6 l [] _
  ·simp
 have h4:=uBs l [58] (if uBo (1 + uBw kindW (uAz l kindW p).1)=true then uAz l [] (uAz l [] (uAz l kindW p).2).2 else ([],(uAz l [] (uAz l kindW p).2).2)).2
 have h5:=uDa (uCG l (l.length + 1)) (uA7 l [58] (if uBo (1 + uBw kindW (uAz l kindW p).1)=true then uAz l [] (uAz l [] (uAz l kindW p).2).2 else ([],(uAz l [] (uAz l kindW p).2).2)).2)
 show p.at'≤(uBi _ _ _).2.at'∧(_→(uBi _ _ _).2.at'≤_)
 omega
theorem uHD (l : List Tk) (n : Nar) (line : Int) (w : List UInt8) : Fwd l (uBB l n line w):=fun p=>by
 unfold uBB
 repeat' split
 ·exact uDa (uA6 l []) p
 ·exact uIR l n.fresh p
 ·exact uDa (uA6 l []) p
 ·exact uH9 l line p
 ·exact uHl l line p
 ·exact ⟨Nat.le_refl _,fun h=>h⟩
theorem uNS (l : List Tk) (n : Nar) (p : PS) (hp : p.at'≤l.length) : (uBX l n p).2.at'≤l.length∧((uBX l n p).2.bad=false→p.at' < (uBX l n p).2.at'):=by
 have h1:=uA6 l uBM p
 have h2:=uHD l n (uCz l p) (uAz l uBM p).1 (uAz l uBM p).2
 have h3:=uBs l [59] (uBB l n (uCz l p) (uAz l uBM p).1 (uAz l uBM p).2).2
 have e : (uBX l n p).2=uA7 l [59] (uBB l n (uCz l p) (uAz l uBM p).1 (uAz l uBM p).2).2:=rfl
 rw [e]
 refine ⟨by omega,fun hb=>?_⟩
 have hq:=uM9 ((uKZ l n _ _).good (uLM hb))
 have : (uAz l uBM p).2.at'=p.at' + 1:=by rw [uAz,if_pos hq]; rfl
 omega
end Go.Proofs.YtnjjdbapadkomaaGreatDoor
namespace Go.Proofs.YtnjjdbapadkomaaGreatDoor
open Go Go.Abs
structure GoodTk (N : Nat) (t : Tk) : Prop where
 form : (t.kind=1∧t.int=0∧t.str=[]∧uBf ((t.text.getD 0 0).toNat : Int)=true∧nlE t.text=t.text.length∧t.text≠[]∧t.text.length≤24) ∨
  (t.kind=2∧t.text=[]∧t.str=[]∧0≤t.int∧t.int≤9223372036854775807)∨(t.kind=3∧t.text=[]∧t.int=0) ∨
  (t.kind=4∧t.int=0∧t.str=[] ∧ ∃ c,t.text=[c]∧symB c=true)
 s : t.str.length≤N
theorem uPK {c : UInt8} (h : symB c=true) : uBf (c.toNat : Int)≠true∧uBu (c.toNat : Int)≠true∧c.toNat≠34∧c.toNat≠35∧c.toNat≠10∧uCu c=false:=by
 have hm : c ∈ syms:=by simpa [symB] using h
 simp only [syms,List.mem_cons,List.not_mem_nil,or_false] at hm
 rcases hm with rfl | rfl | rfl | rfl | rfl | rfl | rfl | rfl | rfl | rfl | rfl | rfl | rfl | rfl | rfl | rfl | rfl | rfl <;> decide
theorem GoodTk.onl {N : Nat} {t : Tk} (h : GoodTk N t) (k : Int) : GoodTk N (t.onl k):=⟨h.form,h.s⟩
theorem GoodTk.mono {N M : Nat} {t : Tk} (h : GoodTk N t) (hm : N≤M) : GoodTk M t:=⟨h.form,Nat.le_trans h.s hm⟩
theorem lineP_len' : ∀ (n : Nat) (l : List UInt8) (k : Int) (out : List Tk),(uBl n l k out).1.length≤out.length + l.length
 | 0,l,k,out=>by simp [uBl]
 | n + 1,l,k,out=>by
  have h1:=uGo l
  rw [uBl]
  split
  ·simp
  ·rename_i hq
   have hne : 0 < (uBn l).length:=List.length_pos_iff.2 fun h=>hq (.inl h)
   split
   ·simp
   ·rename_i he
    have h2:=uFv hne
    have h3:=h2.2 (Decidable.not_not.1 he)
    have ih:=lineP_len' n ((uBn l).drop (uBG (uBn l)).2.1) k (out++[(uBG (uBn l)).1.onl k])
    simp only [List.length_drop,List.length_append,List.length_singleton] at ih
    omega
def sumL (L : List (List UInt8)) : Nat:=(L.map List.length).sum
theorem uL0 : ∀ (s : List UInt8),sumL (spl s)≤s.length
 | []=>by simp [sumL,spl]
 | b :: l=>by
  have ih:=uL0 l
  rw [spl]
  split
  ·simp only [sumL,List.map_cons,List.sum_cons,List.length_nil,List.length_cons] at ih ⊢; omega
  ·split
   ·simp [sumL]
   ·rename_i h; rw [h] at ih
    simp only [sumL,List.map_cons,List.sum_cons,List.length_cons] at ih ⊢; omega
def Apart (r : List UInt8) : Prop:=r=[]∨uCu (r.getD 0 0)=true
end Go.Proofs.YtnjjdbapadkomaaGreatDoor
namespace Go.Proofs.YtnjjdbapadkomaaGreatDoor
open Go Go.Abs
def TT (s : List UInt8) (k : Nat) (out : List Tk) : List Tk × Nat × Int:=uCH (spl s) k out
theorem uG9 {l : List UInt8} (h : ∀ b ∈ l,b.toNat≠10) {n m : Nat} (k : Int) (out : List Tk) (hn : l.length < n) (hm : l.length < m) : uBl n l k out=uBl m l k out:=by
 rw [← uDl l.length l (Nat.le_refl _) h n ((uA9 l).length + 1) k out hn (by omega),← uDl l.length l (Nat.le_refl _) h m ((uA9 l).length + 1) k out hm (by omega)]
theorem uG0 {b : UInt8} {l x : List UInt8} {r : List (List UInt8)} (hb : b.toNat≠10) (h : spl l=x :: r) : spl (b :: l)=(b :: x) :: r:=by
 rw [spl,if_neg hb,h]
theorem uLz {b : UInt8} {l : List UInt8} (hb : b.toNat=10) : spl (b :: l)=[] :: spl l:=by rw [spl,if_pos hb]
theorem uJh : ∀ (w : List UInt8) {l x : List UInt8} {r : List (List UInt8)},(∀ b ∈ w,b.toNat≠10)→spl l=x :: r→spl (w++l)=(w++x) :: r
 | [],_,_,_,_,h=>h
 | b :: w,l,x,r,hw,h=>uG0 (hw b (by simp)) (uJh w (fun c hc=>hw c (by simp [hc])) h)
theorem uFS (s : List UInt8) : ∃ x r,spl s=x :: r:=by
 cases h : spl s with
 | nil=>exact absurd h (uHZ s)
 | cons x r=>exact ⟨x,r,rfl⟩
theorem uLs {n : Nat} {l l' : List UInt8} {k : Int} {out : List Tk} (h : uBn l=uBn l') : uBl (n + 1) l k out=uBl (n + 1) l' k out:=by simp only [uBl,h]
theorem uPf {s : List UInt8} (h : s.length≤65536) : tokP s=TT s 1 []:=by
 unfold tokP TT
 rw [if_neg (by omega)]
theorem uG1 {l l' : List UInt8} {L : List (List UInt8)} {k : Nat} {out out' : List Tk} (h : uBl (l.length + 1) l (k : Int) out=uBl (l'.length + 1) l' (k : Int) out') : uCH (l :: L) k out=uCH (l' :: L) k out':=by
 rw [uCH,uCH,h]
theorem uOA {w : UInt8} (hw : w.toNat=32∨w.toNat=9∨w.toNat=13) (r : List UInt8) (k : Nat) (out : List Tk) : TT (w :: r) k out=TT r k out:=by
 obtain ⟨x,xs',h⟩:=uFS r
 have hin : wsp.contains w=true:=by
  rcases hw with q | q | q
  ·rw [show w=32 from UInt8.toNat_inj.1 q]; rfl
  ·rw [show w=9 from UInt8.toNat_inj.1 q]; rfl
  ·rw [show w=13 from UInt8.toNat_inj.1 q]; rfl
 have ht : uBn (w :: x)=uBn x:=by unfold uBn; rw [List.dropWhile_cons,if_pos hin]
 have hno : ∀ b ∈ x,b.toNat≠10:=uFI r x (by rw [h]; simp)
 unfold TT
 rw [uG0 (by omega) h,h]
 refine uG1 ?_
 rw [← uG9 hno (n:=x.length + 1 + 1) (m:=x.length + 1) _ _ (by omega) (by omega)]
 exact uLs ht
theorem uQa {b : UInt8} (hb : b.toNat=10) (r : List UInt8) (k : Nat) (out : List Tk) : TT (b :: r) k out=TT r (k + 1) out:=by
 unfold TT
 rw [uLz hb,uCH,uGe,if_neg (by simp)]
theorem uPO (k : Nat) (out : List Tk) : TT [] k out=(out,0,0):=by
 unfold TT
 rw [spl,uCH,uGe,if_neg (by simp)]; rfl
theorem uGr : ∀ (L : List (List UInt8)) (k : Nat) (out : List Tk),(uCH L k out).1.length≤out.length + sumL L
 | [],k,out=>by simp [uCH]
 | l :: L,k,out=>by
  rw [uCH]
  split
  ·simp
  ·have h1:=lineP_len' (l.length + 1) l (k : Nat) out
   have ih:=uGr L (k + 1) (uBl (l.length + 1) l (k : Nat) out).1
   simp only [sumL,List.map_cons,List.sum_cons] at ih ⊢
   omega
theorem uHs (s : List UInt8) : (tokP s).1.length≤s.length:=by
 unfold tokP
 split
 ·simp
 ·have h1:=uGr (spl s) 1 []
  have h2:=uL0 s
  simp only [List.length_nil] at h1
  omega
end Go.Proofs.YtnjjdbapadkomaaGreatDoor
namespace Go.Proofs.YtnjjdbapadkomaaGreatDoor
open Go Go.Abs
def nmT (w : List UInt8) : Tk:=⟨1,w,0,[],0⟩
def syT (c : UInt8) : Tk:=⟨4,[c],0,[],0⟩
def uBg : List (List Tk)→List Tk
 | []=>[]
 | x :: r=>x++(r.map fun y=>syT 44 :: y).flatten
def Apt (r : List UInt8) : Prop:=r=[]∨uBV ((r.getD 0 0).toNat : Int)≠true
theorem uMk : ∀ (l r : List UInt8),nmP l=l.length→Apt r→nmP (l++r)=l.length
 | [],r,_,hr=>by
  rcases hr with h | h
  ·subst h; rfl
  ·cases r with
   | nil=>rfl
   | cons c r =>
    rw [List.getD_cons_zero] at h
    show nmP (c :: r)=0
    rw [nmP,if_neg (fun q=>h q.1)]
 | b :: l,r,h,hr=>by
  rw [nmP] at h
  split at h
  ·rename_i hq
   have ih:=uMk l r (by simpa using h) hr
   show nmP (b :: (l++r))=_
   rw [nmP,if_pos,ih]; rfl
   refine ⟨hq.1,fun q=>?_⟩
   cases l with
   | cons d l=>exact hq.2 q
   | nil =>
    obtain ⟨q1,q2⟩:=q
    rcases hr with z | z
    ·subst z; simp at q2
    ·rw [List.nil_append] at q2
     rw [q2] at z
     exact z (by decide)
  ·simp at h
theorem uPg {l r : List UInt8} (h : nlE l=l.length) (hl : l≠[]) (hr : Apt r) : nlE (l++r)=l.length:=by
 cases l with
 | nil=>exact absurd rfl hl
 | cons c l =>
  have h1 : nmP l=l.length:=by simp [nlE] at h; omega
  have h2:=uMk l r h1 hr
  simp [nlE,h2]; omega
theorem uOU {r x : List UInt8} {xs' : List (List UInt8)} (hr : Apt r) (h : spl r=x :: xs') : Apt x:=by
 rcases hr with q | q
 ·subst q
  simp only [spl,List.cons.injEq] at h
  exact .inl h.1.symm
 ·cases r with
  | nil=>simp only [spl,List.cons.injEq] at h; exact .inl h.1.symm
  | cons c r =>
   rw [List.getD_cons_zero] at q
   by_cases hc : c.toNat=10
   ·rw [uLz hc] at h
    simp only [List.cons.injEq] at h
    exact .inl h.1.symm
   ·obtain ⟨y,ys,hy⟩:=uFS r
    rw [uG0 hc hy] at h
    simp only [List.cons.injEq] at h
    rw [← h.1]
    exact .inr q
theorem uL3 {w r x : List UInt8} {xs' : List (List UInt8)} {t : Tk} {c : UInt8} {l : List UInt8} (h : spl r=x :: xs') (e1 : uBG (w++x)=(t.onl 0,w.length,0)) (e2 : w=c :: l) (e3 : uCu c=false) (e4 : c.toNat≠35)
  (hw : ∀ b ∈ w,b.toNat≠10) (k : Nat) (out : List Tk) : TT (w++r) k out=TT r k (out++[t.onl k]):=by
 have hno:=uFI r x (by rw [h]; simp)
 have hin : ¬wsp.contains c=true:=by
  intro q
  have : c=32∨c=9∨c=13:=by simpa [wsp] using q
  rcases this with rfl | rfl | rfl <;> simp [uCu] at e3
 have ht2 : uBn (w++x)=w++x:=by
  rw [e2]
  unfold uBn
  show List.dropWhile _ (c :: (l++x))=_
  rw [List.dropWhile_cons,if_neg hin]; rfl
 have hcut : ¬(w++x=[]∨[35,35].isPrefixOf (w++x)=true):=by
  rw [e2]
  rintro (q | q)
  ·cases q
  ·have q : ([35,35] : List UInt8).isPrefixOf (c :: (l++x))=true:=q
   rw [uMd] at q
   simp only [Bool.and_eq_true,decide_eq_true_eq] at q
   exact e4 q.1
 unfold TT
 rw [uJh w hw h,h]
 refine uG1 ?_
 rw [uBl,ht2,if_neg hcut,e1,if_neg (by simp)]
 dsimp only
 rw [List.drop_left' rfl]
 refine uG9 hno _ _ ?_ (by omega)
 rw [List.length_append,e2]; simp only [List.length_cons]; omega
theorem uHm {w : List UInt8} (h : uAH w=true) : w≠[]∧uBf ((w.getD 0 0).toNat : Int)=true∧nlE w=w.length∧w.length≤24:=by
 simp only [uAH,Bool.and_eq_true,decide_eq_true_eq] at h
 exact ⟨h.1.1.1,h.1.1.2,h.1.2,h.2⟩
theorem uL5 {w : List UInt8} (h : uAH w=true) : ∀ b ∈ w,b.toNat≠10:=by
 obtain ⟨h1,h2,h3,_⟩:=uHm h
 cases w with
 | nil=>exact absurd rfl h1
 | cons c r =>
  rw [List.getD_cons_zero] at h2
  intro b hb
  rcases List.mem_cons.1 hb with q | q
  ·subst q; intro z; rw [z] at h2; revert h2; decide
  ·have := uJr r (by unfold nlE at h3; simp at h3; omega)
   exact uGf (by have := List.all_eq_true.1 this b q; exact this)
theorem uO3 {w : List UInt8} (hn : uAH w=true) {r : List UInt8} (hr : Apt r) (k : Nat) (out : List Tk) : TT (w++r) k out=TT r k (out++[(nmT w).onl k]):=by
 obtain ⟨x,xs',h⟩:=uFS r
 obtain ⟨h1,h2,h3,h4⟩:=uHm hn
 obtain ⟨c,l,rfl⟩ : ∃ c l,w=c :: l:=by
  cases w with
  | nil=>exact absurd rfl h1
  | cons c l=>exact ⟨c,l,rfl⟩
 rw [List.getD_cons_zero] at h2
 refine uL3 h ?_ rfl ?_ ?_ (uL5 hn) k out
 ·have e1:=uPg h3 h1 (uOU hr h)
  unfold uBG
  have e2 : ((c :: l)++x).getD 0 0=c:=rfl
  rw [e2,if_pos h2,e1,if_neg (by omega),List.take_left' rfl]; rfl
 ·rw [Bool.eq_false_iff]; intro q
  have : c.toNat=32∨c.toNat=9∨c.toNat=10∨c.toNat=13:=by simp [uCu] at q; omega
  rcases this with q | q | q | q <;> rw [q] at h2 <;> revert h2 <;> decide
 ·intro q; rw [q] at h2; revert h2; decide
theorem uPX {c : UInt8} (hc : symB c=true) (r : List UInt8) (k : Nat) (out : List Tk) : TT (c :: r) k out=TT r k (out++[(syT c).onl k]):=by
 obtain ⟨x,xs',h⟩:=uFS r
 obtain ⟨s1,s2,s3,s4,s5,s6⟩:=uPK hc
 refine uL3 (w:=[c]) h ?_ rfl s6 s4 (by simpa using s5) k out
 unfold uBG
 have e2 : ([c]++x).getD 0 0=c:=rfl
 rw [e2,if_neg s1,if_neg s2,if_neg s3,if_pos hc]; rfl
def Toks (b : Bool) (s : List UInt8) (ts : List Tk) : Prop:=∀ (r : List UInt8) (k : Nat) (out : List Tk),b=true∨Apt r → ∃ d l',l'.map (·.nl false)=ts∧TT (s++r) k out=TT r (k + d) (out++l')
def Fr (s : List UInt8) : Prop:=s≠[]∧uBV ((s.getD 0 0).toNat : Int)≠true
theorem Fr.apt {s : List UInt8} (h : Fr s) (r : List UInt8) : Apt (s++r):=by
 cases s with
 | nil=>exact absurd rfl h.1
 | cons c s=>exact .inr h.2
theorem Toks.nil : Toks true [] []:=fun r k out _=>⟨0,[],rfl,by simp⟩
theorem Toks.weak {b : Bool} {s : List UInt8} {ts : List Tk} (h : Toks true s ts) : Toks b s ts:=fun r k out _=>h r k out (.inl rfl)
theorem Toks.app {b b' : Bool} {s s' : List UInt8} {ts ts' : List Tk} (h : Toks b s ts) (h' : Toks b' s' ts') (hb : b=true∨Fr s') : Toks b' (s++s') (ts++ts'):=fun r k out hr=>by
 obtain ⟨d,l1,e1,e2⟩:=h (s'++r) k out (hb.elim .inl fun q=>.inr (q.apt r))
 obtain ⟨d',l2,e3,e4⟩:=h' r (k + d) (out++l1) hr
 exact ⟨d + d',l1++l2,by rw [List.map_append,e1,e3],by rw [List.append_assoc,e2,e4,List.append_assoc,Nat.add_assoc]⟩
theorem Toks.name {w : List UInt8} (h : uAH w=true) : Toks false w [nmT w]:=fun r k out hr=>⟨0,[(nmT w).onl k],rfl,uO3 h (hr.resolve_left (by simp)) k out⟩
theorem Toks.sym {c : UInt8} (h : symB c=true) : Toks true [c] [syT c]:=fun r k out _=>⟨0,[(syT c).onl k],rfl,uPX h r k out⟩
theorem Toks.sp : Toks true [32] []:=fun r k out _=>⟨0,[],rfl,by rw [List.append_nil]; exact uOA (.inl rfl) r k out⟩
theorem Toks.nl : Toks true [10] []:=fun r k out _=>⟨1,[],rfl,by rw [List.append_nil]; exact uQa rfl r k out⟩
theorem Toks.end' {b : Bool} {s : List UInt8} {ts : List Tk} (h : Toks b s ts) (hs : s.length≤65536) : (tokP s).2=(0,0)∧(tokP s).1.map (·.nl false)=ts:=by
 obtain ⟨d,l',e1,e2⟩:=h [] 1 [] (.inr (.inl rfl))
 rw [List.append_nil,uPO] at e2
 rw [uPf hs,e2]
 exact ⟨rfl,e1⟩
theorem Toks.join {α : Type} {f : α→List UInt8} {g : α→List Tk} : ∀ {l : List α},(∀ x ∈ l,Toks false (f x) (g x))→Toks false (Lib.join (l.map f) [44,32]) (uBg (l.map g))
 | [],_=>Toks.nil.weak
 | x :: l,h=>by
  have tail : ∀ {l : List α},(∀ x ∈ l,Toks false (f x) (g x))→Toks false (Lib.joinTail [44,32] (l.map f)) ((l.map g).map fun y=>syT 44 :: y).flatten∧(l=[]∨Fr (Lib.joinTail [44,32] (l.map f))):=by
   intro l
   induction l with
   | nil=>exact fun _=>⟨Toks.nil.weak, .inl rfl⟩
   | cons y l ih =>
    intro h
    have e : Lib.joinTail [44,32] ((y :: l).map f)=([44]++[32])++(f y++Lib.joinTail [44,32] (l.map f)):=by simp [Lib.joinTail]
    have e2 : (((y :: l).map g).map fun y=>syT 44 :: y).flatten=([syT 44]++[])++(g y++((l.map g).map fun y=>syT 44 :: y).flatten):=by simp
    obtain ⟨i1,i2⟩:=ih fun z hz=>h z (by simp [hz])
    rw [e,e2]
    refine ⟨((Toks.sym (by decide)).app Toks.sp (.inl rfl)).app ?_ (.inl rfl), .inr ⟨by simp,by simp; decide⟩⟩
    rcases i2 with q | q
    ·subst q
     simp only [List.map_nil,List.flatten_nil,List.append_nil,Lib.joinTail,List.flatMap_nil]
     exact h y (by simp)
    ·exact (h y (by simp)).app i1 (.inr q)
  rw [List.map_cons,List.map_cons,Lib.join_cons]
  obtain ⟨i1,i2⟩:=tail (l:=l) fun z hz=>h z (by simp [hz])
  show Toks false _ (g x++_)
  rcases i2 with q | q
  ·subst q
   simp only [List.map_nil,List.flatten_nil,List.append_nil,Lib.joinTail,List.flatMap_nil]
   exact h x (by simp)
  ·exact (h x (by simp)).app i1 (.inr q)
mutual
def gdB : T→Bool
 | .mk k n s ks=>decide (s=0) && uAH n && ((decide (k=2) && ks.isEmpty) || decide (k=3)) && gdBs ks
def gdBs : List T→Bool
 | []=>true
 | t :: ts=>gdB t && gdBs ts
end
theorem uPx (t : T) : gdB t=(decide (t.sort=0) && uAH t.name && ((decide (t.kind=2) && t.kids.isEmpty) || decide (t.kind=3)) && gdBs t.kids):=by cases t; rw [gdB]; rfl
theorem uKU : ∀ {l : List T},gdBs l=true → ∀ x ∈ l,gdB x=true
 | [],_,x,h=>by simp at h
 | y :: l,h,x,hx=>by
  rw [gdBs,Bool.and_eq_true] at h
  rcases List.mem_cons.1 hx with q | q
  ·subst q; exact h.1
  ·exact uKU h.2 x q
theorem uFT {t : T} (h : gdB t=true) : t.sort=0∧uAH t.name=true∧((t.kind=2∧t.kids=[])∨t.kind=3) ∧ ∀ x ∈ t.kids,gdB x=true:=by
 rw [uPx] at h
 simp only [Bool.and_eq_true,Bool.or_eq_true,decide_eq_true_eq,List.isEmpty_iff] at h
 exact ⟨h.1.1.1,h.1.1.2,h.1.2,uKU h.2⟩
theorem uI8 : ∀ (n : Nat) {t : T},gdB t=true → ∀ x ∈ untA n t,gdB x=true
 | 0,t,h,x,hx=>by simp [untA] at hx; subst hx; exact h
 | n + 1,t,h,x,hx=>by
  rw [untA] at hx
  split at hx
  ·rename_i hp
   obtain ⟨a,b,hk⟩:=uKn hp
   have hkk:=(uFT h).2.2.2
   rw [hk] at hx hkk
   rcases List.mem_cons.1 hx with q | q
   ·subst q; exact hkk _ (by simp)
   ·exact uI8 n (hkk b (by simp)) x q
  ·simp at hx; subst hx; exact h
mutual
theorem uPn : ∀ (t : T),t.nodesE=0→rawE uAH t=0→gdB t=true
 | .mk k n s ks,h1,h2=>by
  rw [T.nodesE] at h1
  rw [rawE] at h2
  rw [gdB]
  split at h1
  ·rename_i hz; exact absurd h1 hz
  ·rename_i hz
   have hz:=Decidable.not_not.1 hz
   split at h2
   ·simp at h2
   ·rename_i hk
    split at h2
    ·simp at h2
    ·rename_i hn
     rw [uON ks h1 h2]
     unfold uB7 at hz
     split at hz
     ·rename_i hq
      have q1 : (k=1∨k=2)∧0≤s∧s≤5∧ks.length=0∨k=3∧s=0:=hq
      have hn : uAH n=true:=by simpa using hn
      rw [hn]
      simp only [Bool.and_true,Bool.and_eq_true,Bool.or_eq_true,decide_eq_true_eq,List.isEmpty_iff]
      refine ⟨by omega,?_⟩
      rcases q1 with ⟨q,_,_,q2⟩ | ⟨q,_⟩
      ·exact .inl ⟨by omega,List.length_eq_zero_iff.1 q2⟩
      ·exact .inr q
     ·simp at hz
theorem uON : ∀ (ts : List T),T.nodesEs ts=0→uE4 uAH ts=0→gdBs ts=true
 | [],_,_=>rfl
 | t :: ts,h1,h2=>by
  rw [T.nodesEs] at h1
  rw [uE4] at h2
  rw [gdBs]
  split at h1
  ·rename_i hz; exact absurd h1 hz
  ·rename_i hz
   split at h2
   ·rename_i hy; exact absurd h2 hy
   ·rename_i hy
    rw [uPn t (Decidable.not_not.1 hz) (Decidable.not_not.1 hy),uON ts h1 h2]; rfl
end
theorem uP2 {t : T} (h : uDd uAH t=0) : gdB t=true:=by
 unfold uDd at h
 split at h
 ·rename_i hz; exact absurd h hz
 ·rename_i hz
  have hz:=Decidable.not_not.1 hz
  unfold uDf at hz
  split at hz
  ·rename_i hy; exact absurd hz hy
  ·rename_i hy; exact uPn t (Decidable.not_not.1 hy) h
def tkA : Nat→T→List Tk
 | 0,_=>[]
 | n + 1,t=>if t.kind=2 then [nmT t.name] else if uB5 t=true then [syT 60]++uBg ((untE t).map (tkA n))++[syT 62] else [nmT t.name]++[syT 40]++uBg (t.kids.map (tkA n))++[syT 41]
def tkE (t : T) : List Tk:=tkA t.size t
theorem uFF : ∀ (n m : Nat) (t : T),t.size≤n→t.size≤m→tkA n t=tkA m t
 | 0,_,t,h,_=>by have := t.size_pos; omega
 | _,0,t,_,h=>by have := t.size_pos; omega
 | n + 1,m + 1,t,hn,hm=>by
  rw [tkA,tkA]
  split
  ·rfl
  split
  ·rename_i hp
   have e : (untE t).map (tkA n)=(untE t).map (tkA m):=List.map_congr_left fun x hx=>by
    have := uDy hp hx
    exact uFF n m x (by omega) (by omega)
   rw [e]
  ·have e : t.kids.map (tkA n)=t.kids.map (tkA m):=List.map_congr_left fun x hx=>by
    have := uCA hx
    exact uFF n m x (by omega) (by omega)
   rw [e]
theorem uH4 (t : T) : tkE t=if t.kind=2 then [nmT t.name] else if uB5 t=true then [syT 60]++uBg ((untE t).map tkE)++[syT 62] else [nmT t.name]++[syT 40]++uBg (t.kids.map tkE)++[syT 41]:=by
 obtain ⟨m,hm⟩ : ∃ m,t.size=m + 1 := ⟨t.size - 1,by have := t.size_pos; omega⟩
 conv=>lhs; unfold tkE
 rw [hm,tkA]
 split
 ·rfl
 split
 ·rename_i hp
  have e : (untE t).map (tkA m)=(untE t).map tkE:=List.map_congr_left fun x hx=>by
   have := uDy hp hx
   exact uFF m x.size x (by omega) (by omega)
  rw [e]
 ·have e : t.kids.map (tkA m)=t.kids.map tkE:=List.map_congr_left fun x hx=>by
   have := uCA hx
   exact uFF m x.size x (by omega) (by omega)
  rw [e]
theorem fr0 {c : UInt8} (h : uBV (c.toNat : Int)=false) : Fr [c]:=⟨by simp,by simp [h]⟩
theorem uGd : ∀ (n : Nat) (t : T),t.size≤n→gdB t=true→Toks false (uBD t) (tkE t)
 | 0,t,h,_=>by have := t.size_pos; omega
 | n + 1,t,h,hg=>by
  obtain ⟨g1,g2,g3,g4⟩:=uFT hg
  rw [uEA,uH4]
  split
  ·exact Toks.name g2
  split
  ·rename_i hp
   have hj := Toks.join (f := uBD) (g := tkE) (l := untE t) fun x hx=>uGd n x (by have := uDy hp hx; omega) (uI8 _ hg x hx)
   exact (((Toks.sym (by decide)).app hj (.inl rfl)).app (Toks.sym (by decide)) (.inr (fr0 (by decide)))).weak
  ·have hj := Toks.join (f := uBD) (g := tkE) (l := t.kids) fun x hx=>uGd n x (by have := uCA hx; omega) (g4 x hx)
   exact ((((Toks.name g2).app (Toks.sym (by decide)) (.inr (fr0 (by decide)))).app hj (.inl rfl)).app (Toks.sym (by decide)) (.inr (fr0 (by decide)))).weak
theorem uKP {t : T} (h : gdB t=true) : Toks false (uBD t) (tkE t):=uGd t.size t (Nat.le_refl _) h
theorem uMD {l : List T} (h : ∀ x ∈ l,gdB x=true) : Toks false (uBU l) (uBg (l.map tkE)):=Toks.join fun x hx=>uKP (h x hx)
end Go.Proofs.YtnjjdbapadkomaaGreatDoor
namespace Go.Proofs.YtnjjdbapadkomaaGreatDoor
open Go Go.Abs
def At (l : List Tk) (p : PS) (ts : List Tk) : Prop:=p.bad=false∧p.at'≤l.length∧l.drop p.at'=ts
theorem At.cons {l : List Tk} {p : PS} {t : Tk} {ts : List Tk} (h : At l p (t :: ts)) : p.at' < l.length∧l.getD p.at' tk0=t∧At l p.go ts:=by
 obtain ⟨h1,h2,h3⟩:=h
 have hlt : p.at' < l.length:=by
  rcases Nat.lt_or_ge p.at' l.length with q | q
  ·exact q
  ·rw [List.drop_of_length_le q] at h3; cases h3
 rw [uHQ (d:=tk0) hlt] at h3
 simp only [List.cons.injEq] at h3
 exact ⟨hlt,h3.1,h1,hlt,h3.2⟩
theorem At.len {l : List Tk} {p : PS} {ts : List Tk} (h : At l p ts) : ts.length + p.at'=l.length:=by
 obtain ⟨h1,h2,h3⟩:=h
 rw [← h3,List.length_drop]; omega
theorem At.good {l : List Tk} {p : PS} {ts : List Tk} (h : At l p ts) : p.bad=false:=h.1
theorem uD5 {l : List Tk} {p : PS} {c : UInt8} {ts : List Tk} (h : At l p (syT c :: ts)) : symQ l p [c]=true:=by
 obtain ⟨h1,h2,h3⟩:=h.cons
 unfold symQ; rw [h.good,h2]; simp [h1,syT]
theorem uD7 {l : List Tk} {p : PS} {c : UInt8} {ts : List Tk} (h : At l p ts) (hc : ∀ r,ts≠syT c :: r) (hk : ∀ t ∈ ts,t.int=0∧t.str=[]∧t.line=0) : symQ l p [c]=false:=by
 rw [Bool.eq_false_iff]
 intro q
 simp only [symQ,Bool.and_eq_true,decide_eq_true_eq] at q
 obtain ⟨⟨⟨q1,q2⟩,q3⟩,q4⟩:=q
 cases ts with
 | nil=>have := h.len; simp at this; omega
 | cons t ts =>
  obtain ⟨h1,h2,h3⟩:=h.cons
  rw [h2] at q3 q4
  obtain ⟨k1,k2,k3⟩:=hk t (by simp)
  refine hc ts ?_
  obtain ⟨a,b,c',d,e⟩:=t
  dsimp only at q3 q4 k1 k2 k3
  subst q3 q4 k1 k2 k3
  rfl
def Pln (ts : List Tk) : Prop:=∀ t ∈ ts,t.int=0∧t.str=[]∧t.line=0
theorem Pln.nil : Pln []:=by intro t h; simp at h
theorem Pln.app {a b : List Tk} (h : Pln a) (h' : Pln b) : Pln (a++b):=fun t ht=>(List.mem_append.1 ht).elim (h t) (h' t)
theorem Pln.nm (w : List UInt8) : Pln [nmT w]:=by intro t h; simp at h; subst h; exact ⟨rfl,rfl,rfl⟩
theorem Pln.sy (c : UInt8) : Pln [syT c]:=by intro t h; simp at h; subst h; exact ⟨rfl,rfl,rfl⟩
theorem Pln.cons {t : Tk} {ts : List Tk} (h : Pln [t]) (h' : Pln ts) : Pln (t :: ts):=h.app (a:=[t]) h'
theorem Pln.right {a b : List Tk} (h : Pln (a++b)) : Pln b:=fun t ht=>h t (by simp [ht])
theorem Pln.tail {a : Tk} {b : List Tk} (h : Pln (a :: b)) : Pln b:=fun t ht=>h t (by simp [ht])
theorem needP_at' {l : List Tk} {p : PS} {c : UInt8} {ts : List Tk} (h : At l p (syT c :: ts)) : uA7 l [c] p=p.go∧At l p.go ts:=⟨by rw [uA7,if_pos (uD5 h)],h.cons.2.2⟩
theorem uPk {l : List Tk} {p : PS} {w : List UInt8} {ts : List Tk} {ws : List (List UInt8)} (h : At l p (nmT w :: ts)) (hw : ws=[]∨ws.contains w=true) : namQ l p ws=true:=by
 obtain ⟨h1,h2,h3⟩:=h.cons
 simp only [namQ,h.good,h2,Bool.not_false,Bool.true_and,Bool.and_eq_true,Bool.or_eq_true,decide_eq_true_eq]
 exact ⟨⟨h1,rfl⟩,hw.imp id id⟩
theorem nameP_at' {l : List Tk} {p : PS} {w : List UInt8} {ts : List Tk} {ws : List (List UInt8)} (h : At l p (nmT w :: ts)) (hw : ws=[]∨ws.contains w=true) : uAz l ws p=(w,p.go)∧At l p.go ts:=by
 obtain ⟨h1,h2,h3⟩:=h.cons
 exact ⟨by rw [uAz,if_pos (uPk h hw),h2]; rfl,h3⟩
def Stop (ts : List Tk) : Prop:=∀ r,ts≠syT 40 :: r
theorem uHF {c d : UInt8} (h : c≠d) {a b : List Tk} : syT c :: a≠syT d :: b:=by
 intro q; simp only [List.cons.injEq,syT,Tk.mk.injEq] at q; exact h q.1.2.1.1
theorem uKk {w : List UInt8} {d : UInt8} {a b : List Tk} : nmT w :: a≠syT d :: b:=by
 intro q; simp [nmT,syT] at q
theorem uDG {c : UInt8} (h : c≠40) (a : List Tk) : Stop (syT c :: a):=fun r=>uHF h
def uKr {α : Type} (l : List Tk) (f : PS→α × PS) (N : Nat) (x : α) (g : List Tk) : Prop :=
 ∀ (p : PS) (ts : List Tk),At l p (g++ts)→(g++ts).length < N→Stop ts→Pln (g++ts)→(f p).1=x∧At l (f p).2 ts
theorem uHG {α : Type} {l : List Tk} {f : PS→α × PS} {N : Nat} {g : α→List Tk} : ∀ (xs : List α),(∀ x ∈ xs,uKr l f N x (g x)) → ∀ (n : Nat) (p : PS) (ts : List Tk) (out : List α),xs.length≤n →
  At l p ((xs.map fun x=>syT 44 :: g x).flatten++ts)→((xs.map fun x=>syT 44 :: g x).flatten++ts).length < N + 1→(∀ r,ts≠syT 44 :: r)→Stop ts→Pln ((xs.map fun x=>syT 44 :: g x).flatten++ts) →
  (uBQ l f n p out).1=out++xs∧At l (uBQ l f n p out).2 ts
 | [],_,n,p,ts,out,_,h,_,hc,_,hp=>by
  rw [uCZ (uD7 h hc hp),List.append_nil]; exact ⟨rfl,h⟩
 | x :: xs,hx,0,p,ts,out,hn,_,_,_,_,_=>by simp at hn
 | x :: xs,hx,n + 1,p,ts,out,hn,h,hN,hc,hs,hp=>by
  have e : ((x :: xs).map fun x=>syT 44 :: g x).flatten++ts=syT 44 :: (g x++((xs.map fun x=>syT 44 :: g x).flatten++ts)):=by simp
  rw [e] at h hN hp
  have hst : Stop ((xs.map fun x=>syT 44 :: g x).flatten++ts):=by
   cases xs with
   | nil=>exact hs
   | cons y ys=>exact uDG (by decide) _
  obtain ⟨r1,r2⟩:=hx x (by simp) p.go _ h.cons.2.2 (by simp only [List.length_cons] at hN; omega) hst hp.tail
  rw [uFA (uD5 h)]
  have ih:=uHG xs (fun y hy=>hx y (by simp [hy])) n (f p.go).2 ts (out++[(f p.go).1]) (by simpa using hn) r2 (by simp only [List.length_cons,List.length_append] at hN ⊢; omega) hc hs hp.tail.right
  rw [r1] at ih ⊢
  refine ⟨?_,ih.2⟩
  rw [ih.1]; simp
theorem uD8 {α : Type} {l : List Tk} {f : PS→α × PS} {N : Nat} {g : α→List Tk} {xs : List α} (h0 : xs≠[]) (hx : ∀ x ∈ xs,uKr l f N x (g x)) (hl : xs.length≤l.length) {p : PS} {ts : List Tk}
  (h : At l p (uBg (xs.map g)++ts)) (hN : (uBg (xs.map g)++ts).length < N) (hc : ∀ r,ts≠syT 44 :: r) (hs : Stop ts) (hp : Pln (uBg (xs.map g)++ts)) : (uBi l f p).1=xs∧At l (uBi l f p).2 ts:=by
 cases xs with
 | nil=>exact absurd rfl h0
 | cons x xs =>
  have e : uBg ((x :: xs).map g)++ts=g x++((xs.map fun x=>syT 44 :: g x).flatten++ts):=by simp [uBg,List.map_map,Function.comp_def]
  rw [e] at h hN hp
  have hst : Stop ((xs.map fun x=>syT 44 :: g x).flatten++ts):=by
   cases xs with
   | nil=>exact hs
   | cons y ys=>exact uDG (by decide) _
  obtain ⟨r1,r2⟩:=hx x (by simp) p _ h hN hst hp
  have ih:=uHG xs (fun y hy=>hx y (by simp [hy])) (l.length + 1) (f p).2 ts [(f p).1] (by simp only [List.length_cons] at hl; omega) r2 (by simp only [List.length_append] at hN ⊢; omega) hc hs hp.right
  unfold uBi
  rw [r1] at ih ⊢
  exact ⟨ih.1,ih.2⟩
theorem uK6 (l : List Tk) (N : Nat) (w : List UInt8) : uKr l (uAz l []) N w [nmT w]:=fun p ts h _ _ _=>by
 obtain ⟨h1,h2⟩:=nameP_at' (ws:=[]) (h : At l p (nmT w :: ts)) (.inl rfl)
 rw [h1]; exact ⟨rfl,h2⟩
theorem uEf {xs : List (List Tk)} (h : ∀ x ∈ xs,0 < x.length) : xs.length≤(uBg xs).length:=by
 cases xs with
 | nil=>simp [uBg]
 | cons x xs =>
  have h1:=h x (by simp)
  have : ∀ ys : List (List Tk),ys.length≤(ys.map fun y=>syT 44 :: y).flatten.length:=by
   intro ys
   induction ys with
   | nil=>simp
   | cons y ys ih=>simp only [List.map_cons,List.flatten_cons,List.length_append,List.length_cons] at ih ⊢; omega
  have := this xs
  simp only [uBg,List.length_append,List.length_cons] at this ⊢; omega
theorem uDA {xs : List (List Tk)} (h : ∀ x ∈ xs,Pln x) : Pln (uBg xs):=by
 cases xs with
 | nil=>exact Pln.nil
 | cons x xs =>
  refine (h x (by simp)).app ?_
  intro t ht
  obtain ⟨y,hy,hty⟩:=List.mem_flatten.1 ht
  obtain ⟨z,hz,rfl⟩:=List.mem_map.1 hy
  exact ((Pln.sy 44).cons (h z (by simp [hz]))) t hty
theorem uJp : ∀ (t : T),0 < (tkE t).length:=by
 intro t
 rw [uH4]
 repeat' split
 all_goals simp
theorem uFE : ∀ (n : Nat) (t : T),t.size≤n→Pln (tkE t)
 | 0,t,h=>by have := t.size_pos; omega
 | n + 1,t,h=>by
  rw [uH4]
  split
  ·exact Pln.nm _
  split
  ·rename_i hp
   refine ((Pln.sy _).app (uDA fun y hy=>?_)).app (Pln.sy _)
   obtain ⟨x,hx,rfl⟩:=List.mem_map.1 hy
   exact uFE n x (by have := uDy hp hx; omega)
  ·refine (((Pln.nm _).app (Pln.sy _)).app (uDA fun y hy=>?_)).app (Pln.sy _)
   obtain ⟨x,hx,rfl⟩:=List.mem_map.1 hy
   exact uFE n x (by have := uCA hx; omega)
theorem uJQ : ∀ (n : Nat) (t : T),t.size≤n→gdB t=true→tupT (untE t)=t
 | 0,t,h,_=>by have := t.size_pos; omega
 | n + 1,t,h,hg=>by
  obtain ⟨g1,g2,g3,g4⟩:=uFT hg
  rw [uD0]
  split
  ·rename_i hp
   have hs:=uCl hp
   obtain ⟨a,b,hk⟩:=uKn hp
   rw [hk] at hs ⊢
   simp only [List.getD_cons_zero,List.getD_cons_succ] at hs ⊢
   have hpa:=a.size_pos
   have hb:=uJQ n b (by omega) (g4 b (by rw [hk]; simp))
   have hne : untE b≠[]:=by
    have := (uEH b.size b).1
    intro q; unfold untE at q; rw [q] at this; simp at this
   obtain ⟨u,us,hu⟩ : ∃ u us,untE b=u :: us:=by
    cases hz : untE b with
    | nil=>exact absurd hz hne
    | cons u us=>exact ⟨u,us,rfl⟩
   rw [hu] at hb ⊢
   rw [tupT,hb]
   simp only [uB5,Bool.and_eq_true,decide_eq_true_eq] at hp
   obtain ⟨k,nm,s,ks⟩:=t
   have k1 : k=3:=hp.1.1
   have k2 : nm=wPair:=hp.1.2
   have k3 : s=0:=g1
   have k4 : ks=[a,b]:=hk
   subst k1 k2 k3 k4
   rfl
  ·rfl
theorem uDV (l : List Tk) : ∀ (m : Nat) (t : T),t.size≤m→gdB t=true → ∀ N : Nat,uKr l (uAU l N) N t (tkE t)
 | 0,t,h,_,_=>by have := t.size_pos; omega
 | m + 1,t,h,hg,0=>fun p ts _ hN=>by omega
 | m + 1,t,h,hg,N + 1=>fun p ts hA hN hS hP=>by
  obtain ⟨g1,g2,g3,g4⟩:=uFT hg
  have hpl:=uFE t.size t (Nat.le_refl _)
  have hAl:=hA.len
  rw [uH4] at hA hN hP hAl
  by_cases hk : t.kind=2
  ·rw [if_pos hk] at hA hN hP hAl
   have hA : At l p (nmT t.name :: ts):=hA
   have hq : symQ l p [60]=false:=uD7 hA (fun r=>uKk) hP
   obtain ⟨n1,n2⟩:=nameP_at' (ws:=[]) hA (.inl rfl)
   have hq2 : symQ l p.go [40]=false:=uD7 n2 hS (Pln.tail hP)
   rw [uAU,hq,if_neg (by simp),n1,if_neg (by rw [hq2]; simp)]
   refine ⟨?_,n2⟩
   obtain ⟨k,nm,s,ks⟩:=t
   have k1 : k=2:=hk
   have k2 : s=0:=g1
   have k3 : ks=[]:=by
    rcases g3 with q | q
    ·exact q.2
    ·exact absurd (show k=3 from q) (by omega)
   subst k1 k2 k3
   rfl
  ·rw [if_neg hk] at hA hN hP hAl
   have hk3 : t.kind=3:=by
    rcases g3 with q | q
    ·exact absurd q.1 hk
    ·exact q
   by_cases hp : uB5 t=true
   ·rw [if_pos hp] at hA hN hP hAl
    obtain ⟨a,b,hkk⟩:=uKn hp
    have hu:=uD0 t
    rw [if_pos hp,hkk] at hu
    simp only [List.getD_cons_zero,List.getD_cons_succ] at hu
    obtain ⟨u,us,hb⟩ : ∃ u us,untE b=u :: us:=by
     cases hz : untE b with
     | nil=>have := (uEH b.size b).1; unfold untE at hz; rw [hz] at this; simp at this
     | cons u us=>exact ⟨u,us,rfl⟩
    have hmem : ∀ x ∈ untE t,uKr l (uAU l N) N x (tkE x) := fun x hx=>uDV l m x (by have := uDy hp hx; omega) (uI8 _ hg x hx) N
    have e1 : [syT 60]++uBg ((untE t).map tkE)++[syT 62]++ts=syT 60 :: (tkE a++(syT 44 :: (uBg ((untE b).map tkE)++(syT 62 :: ts)))):=by
     rw [hu,hb]; simp [uBg]
    rw [e1] at hA hN hP hAl
    have hq:=uD5 hA
    obtain ⟨c1,c2,c3⟩:=hA.cons
    obtain ⟨r1,r2⟩:=hmem a (by rw [hu]; simp) p.go _ c3 (by simp only [List.length_cons] at hN ⊢; omega) (uDG (by decide) _) hP.tail
    obtain ⟨m1,m2⟩:=needP_at' r2
    have hlen : (untE b).length≤l.length:=by
     have h1:=uEf (xs:=(untE b).map tkE) (fun x hx=>by obtain ⟨y,_,rfl⟩:=List.mem_map.1 hx; exact uJp y)
     have h2:=m2.len
     rw [List.length_map] at h1
     simp only [List.length_append,List.length_cons] at h2; omega
    obtain ⟨s1,s2⟩:=uD8 (f:=uAU l N) (N:=N) (xs:=untE b) (by rw [hb]; simp) (fun x hx=>hmem x (by rw [hu]; simp [hx])) hlen m2
     (by simp only [List.length_cons,List.length_append] at hN ⊢; omega) (fun r=>uHF (by decide)) (uDG (by decide) _) (Pln.right (a:=tkE a) hP.tail).tail
    obtain ⟨q1,q2⟩:=needP_at' s2
    rw [uAU,if_pos hq,m1,r1,s1,q1]
    refine ⟨?_,q2⟩
    have := uJQ t.size t (Nat.le_refl _) hg
    rw [hu] at this
    exact this
   ·rw [if_neg hp] at hA hN hP hAl
    have e1 : [nmT t.name]++[syT 40]++uBg (t.kids.map tkE)++[syT 41]++ts=nmT t.name :: syT 40 :: (uBg (t.kids.map tkE)++(syT 41 :: ts)):=by simp
    rw [e1] at hA hN hP hAl
    have hq : symQ l p [60]=false:=uD7 hA (fun r=>uKk) hP
    obtain ⟨n1,n2⟩:=nameP_at' (ws:=[]) hA (.inl rfl)
    have hq2:=uD5 n2
    obtain ⟨c1,c2,c3⟩:=n2.cons
    have hTk : ∀ ks,t=⟨t.kind,t.name,t.sort,ks⟩ ↔ t.kids=ks:=by
     intro ks; obtain ⟨k,nm,s,ks'⟩:=t
     show T.mk k nm s ks'=T.mk k nm s ks ↔ ks'=ks
     simp
    rw [uAU,hq,if_neg (by simp),n1,if_pos hq2]
    by_cases hkn : t.kids=[]
    ·rw [hkn] at c3
     have c3 : At l p.go.go (syT 41 :: ts):=c3
     rw [if_pos (uD5 c3)]
     refine ⟨?_,c3.cons.2.2⟩
     have := (hTk []).2 hkn
     rw [hk3,g1] at this
     exact this.symm
    ·obtain ⟨x,xs,hx⟩ : ∃ x xs,t.kids=x :: xs:=by
      cases hz : t.kids with
      | nil=>exact absurd hz hkn
      | cons u us=>exact ⟨u,us,rfl⟩
     have hns : symQ l p.go.go [41]=false:=by
      refine uD7 c3 (fun r=>?_) (Pln.tail (Pln.tail hP))
      rw [hx]
      intro q
      have e2 : (uBg ((x :: xs).map tkE)++(syT 41 :: ts))=tkE x++(((xs.map tkE).map fun y=>syT 44 :: y).flatten++(syT 41 :: ts)):=by simp [uBg]
      rw [e2,uH4] at q
      split at q
      ·exact uKk q
      split at q
      ·simp only [List.append_assoc] at q; exact uHF (by decide) q
      ·simp only [List.append_assoc] at q; exact uKk q
     have hlen : t.kids.length≤l.length:=by
      have h1:=uEf (xs:=t.kids.map tkE) (fun x hx=>by obtain ⟨y,_,rfl⟩:=List.mem_map.1 hx; exact uJp y)
      have h2:=c3.len
      rw [List.length_map] at h1
      simp only [List.length_append,List.length_cons] at h2; omega
     obtain ⟨s1,s2⟩ := uD8 (f := uAU l N) (N := N) hkn (fun x hx=>uDV l m x (by have := uCA hx; omega) (g4 x hx) N) hlen c3
      (by simp only [List.length_cons,List.length_append] at hN ⊢; omega) (fun r=>uHF (by decide)) (uDG (by decide) _) (Pln.tail (Pln.tail hP))
     obtain ⟨q1,q2⟩:=needP_at' s2
     rw [hns,if_neg (by simp),s1,q1]
     refine ⟨?_,q2⟩
     have := (hTk t.kids).2 rfl
     rw [hk3,g1] at this
     exact this.symm
end Go.Proofs.YtnjjdbapadkomaaGreatDoor
namespace Go.Proofs.YtnjjdbapadkomaaGreatDoor
open Go Go.Abs
def Sp.el (s : Sp) : Sp:={ s with line:=0 }
def Gl.el (g : Gl) : Gl:={ g with line:=0 }
def Nar.el (n : Nar) : Nar:={ n with steps:=n.steps.map Sp.el,goals:=n.goals.map Gl.el }
inductive Itm where
 | roles (l : List (List UInt8))
 | fresh (role : List UInt8) (l : List (List UInt8 × Int))
 | tags (l : List (List UInt8))
 | step (s : Sp)
 | goal (g : Gl)
def uCq (k : Int) : List UInt8:=sortW.getD (k - 2).toNat []
def uDP (k : Int) : List UInt8:=kindW.getD (k - 1).toNat []
def fsW (f : List UInt8 × Int) : List UInt8:=f.1++([32]++uCq f.2)
def Itm.text : Itm→List UInt8
 | .roles l=>hRole++(Lib.join l [44,32]++[59])
 | .fresh r l=>hFresh++(r++([58,32]++(Lib.join (l.map fsW) [44,32]++[59])))
 | .tags l=>hTag++(Lib.join l [44,32]++[59])
 | .step s=>hMsg++(s.frm++(arrow++(s.dst++([58,32]++(uBD s.msg++[59])))))
 | .goal g=>hGoal++(uDP g.kind++([32]++(g.role++((if uBo g.kind=true then [32]++g.wth else [])++([58,32]++(uBU g.data++[59]))))))
def Itm.tk : Itm→List Tk
 | .roles l=>[nmT uED]++(uBg (l.map fun w=>[nmT w])++[syT 59])
 | .fresh r l=>[nmT uDr]++([nmT r]++([syT 58]++(uBg (l.map fun f=>[nmT f.1,nmT (uCq f.2)])++[syT 59])))
 | .tags l=>[nmT uEw]++(uBg (l.map fun w=>[nmT w])++[syT 59])
 | .step s=>[nmT wMsg]++([nmT s.frm]++([syT 45,syT 62]++([nmT s.dst]++([syT 58]++(tkE s.msg++[syT 59])))))
 | .goal g=>[nmT uEm]++([nmT (uDP g.kind)]++([nmT g.role]++((if uBo g.kind=true then [nmT g.wth] else [])++([syT 58]++(uBg (g.data.map tkE)++[syT 59])))))
def Itm.ok : Itm→Prop
 | .roles l=>l≠[] ∧ ∀ w ∈ l,uAH w=true
 | .fresh r l=>uAH r=true∧l≠[] ∧ ∀ f ∈ l,uAH f.1=true∧2≤f.2∧f.2≤4
 | .tags l=>l≠[] ∧ ∀ w ∈ l,uAH w=true
 | .step s=>uAH s.frm=true∧uAH s.dst=true∧gdB s.msg=true
 | .goal g=>1≤g.kind∧g.kind≤5∧uAH g.role=true∧(uBo g.kind=true→uAH g.wth=true)∧(uBo g.kind=false→g.wth=[])∧g.data≠[] ∧ ∀ t ∈ g.data,gdB t=true
theorem uKH {k : Int} (h1 : 2≤k) (h2 : k≤4) : uAH (uCq k)=true:=by
 have : k=2∨k=3∨k=4:=by omega
 rcases this with rfl | rfl | rfl <;> decide
theorem uJ2 {k : Int} (h1 : 1≤k) (h2 : k≤5) : uAH (uDP k)=true:=by
 have : k=1∨k=2∨k=3∨k=4∨k=5:=by omega
 rcases this with rfl | rfl | rfl | rfl | rfl <;> decide
theorem frS {c : UInt8} {r : List UInt8} (h : uBV (c.toNat : Int)=false) : Fr (c :: r):=⟨by simp,by simp [h]⟩
theorem uDR {w : List UInt8} (h : uAH w=true) : Toks true ([32,32]++(w++[32])) [nmT w] :=
 ((Toks.sp.app Toks.sp (.inl rfl)).app ((Toks.name h).app Toks.sp (.inr (frS (by decide)))) (.inl rfl) : Toks true (([32]++[32])++(w++[32])) (([]++[])++([nmT w]++[])))
theorem uDN : Toks true [59] [syT 59]:=Toks.sym (by decide)
theorem toks_colon : Toks true [58,32] [syT 58]:=((Toks.sym (c:=58) (by decide)).app Toks.sp (.inl rfl) : Toks true ([58]++[32]) ([syT 58]++[]))
theorem uIG {l : List (List UInt8)} (h : ∀ w ∈ l,uAH w=true) : Toks false (Lib.join l [44,32]) (uBg (l.map fun w=>[nmT w])):=by
 have := Toks.join (f := fun w : List UInt8=>w) (g := fun w=>[nmT w]) (l := l) fun w hw=>Toks.name (h w hw)
 rwa [List.map_id'] at this
theorem uIW : ∀ {i : Itm},i.ok→Toks true i.text i.tk
 | .roles l,⟨_,h⟩=>(uDR (w:=uED) (by decide)).app ((uIG h).app uDN (.inr (frS (by decide)))) (.inl rfl)
 | .tags l,⟨_,h⟩=>(uDR (w:=uEw) (by decide)).app ((uIG h).app uDN (.inr (frS (by decide)))) (.inl rfl)
 | .fresh r l,⟨h1,_,h2⟩=>by
  refine (uDR (w:=uDr) (by decide)).app ((Toks.name h1).app (toks_colon.app (Toks.app (b:=false) ?_ uDN (.inr (frS (by decide)))) (.inl rfl)) (.inr (frS (by decide)))) (.inl rfl);refine Toks.join fun f hf=>?_
  obtain ⟨q1,q2,q3⟩:=h2 f hf
  exact (Toks.name q1).app (Toks.sp.app (Toks.name (uKH q2 q3)) (.inl rfl)) (.inr (frS (by decide)))
 | .step s,⟨h1,h2,h3⟩=>by
  have ha : Toks true arrow [syT 45,syT 62]:=(Toks.sp.app ((Toks.sym (c:=45) (by decide)).app ((Toks.sym (c:=62) (by decide)).app Toks.sp (.inl rfl)) (.inl rfl)) (.inl rfl) : Toks true ([32]++([45]++([62]++[32]))) ([]++([syT 45]++([syT 62]++[]))))
  exact (uDR (w:=wMsg) (by decide)).app ((Toks.name h1).app (ha.app ((Toks.name h2).app (toks_colon.app ((uKP h3).app uDN (.inr (frS (by decide)))) (.inl rfl)) (.inr (frS (by decide)))) (.inl rfl)) (.inr (frS (by decide)))) (.inl rfl)
 | .goal g,⟨h1,h2,h3,h4,h5,h6,h7⟩=>by
  have hd : Toks true ([58,32]++(uBU g.data++[59])) ([syT 58]++(uBg (g.data.map tkE)++[syT 59])):=toks_colon.app ((uMD h7).app uDN (.inr (frS (by decide)))) (.inl rfl)
  refine (uDR (w:=uEm) (by decide)).app ((Toks.name (uJ2 h1 h2)).app (Toks.sp.app ((Toks.name h3).app (b':=true) ?_ (.inr ?_)) (.inl rfl)) (.inr (frS (by decide)))) (.inl rfl)
  ·split
   ·rename_i ha
    exact (Toks.sp.app (Toks.name (h4 ha)) (.inl rfl) : Toks false ([32]++g.wth) ([]++[nmT g.wth])).app hd (.inr (frS (by decide)))
   ·exact hd
  ·split
   ·exact frS (by decide)
   ·exact frS (by decide)
theorem uG3 : ∀ {L : List Itm},(∀ i ∈ L,i.ok)→Toks true (L.map Itm.text).flatten (L.map Itm.tk).flatten
 | [],_=>Toks.nil
 | i :: L,h=>(uIW (h i (by simp))).app (uG3 fun j hj=>h j (by simp [hj])) (.inl rfl)
def Itm.rolesOf : Itm→List (List UInt8)
 | .roles l=>l
 | _=>[]
def Itm.freshOf : Itm→List Fs
 | .fresh r l=>l.map fun f=>⟨r,f.1,f.2⟩
 | _=>[]
def Itm.tagsOf : Itm→List (List UInt8)
 | .tags l=>l
 | _=>[]
def Itm.stepsOf : Itm→List Sp
 | .step s=>[s.el]
 | _=>[]
def Itm.goalsOf : Itm→List Gl
 | .goal g=>[g.el]
 | _=>[]
def addI (n : Nar) (i : Itm) : Nar:=⟨n.name,n.roles++i.rolesOf,n.fresh++i.freshOf,n.tags++i.tagsOf,n.steps++i.stepsOf,n.goals++i.goalsOf⟩
theorem uJA : ∀ (L : List Itm) (n : Nar),L.foldl addI n=⟨n.name,n.roles++L.flatMap Itm.rolesOf,n.fresh++L.flatMap Itm.freshOf,n.tags++L.flatMap Itm.tagsOf,n.steps++L.flatMap Itm.stepsOf,n.goals++L.flatMap Itm.goalsOf⟩
 | [],n=>by simp
 | i :: L,n=>by
  rw [List.foldl_cons,uJA L]
  simp only [addI,List.flatMap_cons,List.append_assoc]
theorem uHU {l : List Tk} {xs : List (List UInt8)} (h0 : xs≠[]) {p : PS} {ts : List Tk} (h : At l p (uBg (xs.map fun w=>[nmT w])++(syT 59 :: ts))) (hp : Pln (uBg (xs.map fun w=>[nmT w])++(syT 59 :: ts))) :
  (uBH l p).1=xs∧At l (uBH l p).2 (syT 59 :: ts):=by
 have hl : xs.length≤l.length:=by
  have h1:=uEf (xs:=xs.map fun w=>[nmT w]) (fun x hx=>by obtain ⟨y,_,rfl⟩:=List.mem_map.1 hx; simp)
  have h2:=h.len
  rw [List.length_map] at h1
  simp only [List.length_append,List.length_cons] at h2; omega
 exact uD8 (N := l.length + 1) h0 (fun w _=>uK6 l _ w) hl h (by have := h.len; omega) (fun r=>uHF (by decide)) (uDG (by decide) _) hp
theorem uLp {k : Int} (h1 : 2≤k) (h2 : k≤4) : sortW.contains (uCq k)=true∧2 + uBw sortW (uCq k)=k:=by
 have : k=2∨k=3∨k=4:=by omega
 rcases this with rfl | rfl | rfl <;> decide
theorem uLF {k : Int} (h1 : 1≤k) (h2 : k≤5) : kindW.contains (uDP k)=true∧1 + uBw kindW (uDP k)=k:=by
 have : k=1∨k=2∨k=3∨k=4∨k=5:=by omega
 rcases this with rfl | rfl | rfl | rfl | rfl <;> decide
theorem uHB {l : List Tk} {role : List UInt8} {ts : List Tk} : ∀ (xs : List (List UInt8 × Int)) (x : List UInt8 × Int),(∀ f ∈ x :: xs,2≤f.2∧f.2≤4) → ∀ (n : Nat) (p : PS) (out : List Fs),xs.length < n →
  At l p ([nmT x.1,nmT (uCq x.2)]++((xs.map fun f=>syT 44 :: [nmT f.1,nmT (uCq f.2)]).flatten++(syT 59 :: ts)))→Pln ([nmT x.1,nmT (uCq x.2)]++((xs.map fun f=>syT 44 :: [nmT f.1,nmT (uCq f.2)]).flatten++(syT 59 :: ts))) →
  (uBE l role n p out).1=out++(x :: xs).map (fun f=>⟨role,f.1,f.2⟩)∧At l (uBE l role n p out).2 (syT 59 :: ts)
 | xs,x,hx,0,p,out,hn,_,_=>by omega
 | xs,x,hx,n + 1,p,out,hn,h,hp=>by
  obtain ⟨b1,b2⟩:=hx x (by simp)
  obtain ⟨i1,i2⟩:=uLp b1 b2
  obtain ⟨n1,n2⟩:=nameP_at' (ws:=[]) h (.inl rfl)
  obtain ⟨n3,n4⟩:=nameP_at' (ws:=sortW) n2 (.inr i1)
  rw [uBE,if_neg (by rw [h.good]; simp),n1,n3]
  dsimp only
  rw [i2]
  have hp2:=Pln.tail (Pln.tail hp)
  cases xs with
  | nil =>
   have hq : symQ l p.go.go [44]=false:=uD7 n4 (fun r=>uHF (by decide)) hp2
   rw [if_neg (by rw [hq]; simp)]
   exact ⟨rfl,n4⟩
  | cons y ys =>
   have e : ((y :: ys).map fun f=>syT 44 :: [nmT f.1,nmT (uCq f.2)]).flatten++(syT 59 :: ts)=syT 44 :: ([nmT y.1,nmT (uCq y.2)]++((ys.map fun f=>syT 44 :: [nmT f.1,nmT (uCq f.2)]).flatten++(syT 59 :: ts))):=by simp
   have n4 : At l p.go.go (((y :: ys).map fun f=>syT 44 :: [nmT f.1,nmT (uCq f.2)]).flatten++(syT 59 :: ts)):=n4
   have hp2 : Pln (((y :: ys).map fun f=>syT 44 :: [nmT f.1,nmT (uCq f.2)]).flatten++(syT 59 :: ts)):=hp2
   rw [e] at n4 hp2
   rw [if_pos (uD5 n4)]
   have ih:=uHB (role:=role) ys y (fun f hf=>hx f (by simp at hf ⊢; exact .inr hf)) n p.go.go.go (out++[⟨role,x.1,x.2⟩]) (by simpa using hn) n4.cons.2.2 hp2.tail
   refine ⟨?_,ih.2⟩
   rw [ih.1]; simp
theorem uJS {l : List Tk} {p : PS} {ts : List Tk} (h : At l p ts) (hp : Pln ts) : uCz l p=0:=by
 unfold uCz
 split
 ·rename_i hlt
  have h3:=h.2.2
  rw [uHQ (d:=tk0) hlt] at h3
  exact (hp (l.getD p.at' tk0) (by rw [← h3]; simp)).2.2
 ·rfl
theorem uMO {l : List Tk} {i : Itm} (ho : i.ok) {n : Nar} {p : PS} {ts : List Tk} (h : At l p (i.tk++ts)) (hp : Pln (i.tk++ts)) : (uBX l n p).1=addI n i∧At l (uBX l n p).2 ts:=by
 have hline:=uJS h hp
 unfold uBX
 rw [hline]
 dsimp only
 cases i with
 | roles xs =>
  have e : (Itm.roles xs).tk++ts=nmT uED :: (uBg (xs.map fun w=>[nmT w])++(syT 59 :: ts)):=by simp [Itm.tk]
  rw [e] at h hp
  obtain ⟨n1,n2⟩:=nameP_at' (ws:=uBM) h (.inr (by decide))
  obtain ⟨r1,r2⟩:=uHU ho.1 n2 hp.tail
  obtain ⟨q1,q2⟩:=needP_at' r2
  rw [n1]
  dsimp only
  rw [uBB,if_pos rfl,r1,q1]
  refine ⟨?_,q2⟩
  simp [addI,Itm.rolesOf,Itm.freshOf,Itm.tagsOf,Itm.stepsOf,Itm.goalsOf]
 | tags xs =>
  have e : (Itm.tags xs).tk++ts=nmT uEw :: (uBg (xs.map fun w=>[nmT w])++(syT 59 :: ts)):=by simp [Itm.tk]
  rw [e] at h hp
  obtain ⟨n1,n2⟩:=nameP_at' (ws:=uBM) h (.inr (by decide))
  obtain ⟨r1,r2⟩:=uHU ho.1 n2 hp.tail
  obtain ⟨q1,q2⟩:=needP_at' r2
  rw [n1]
  dsimp only
  rw [uBB,if_neg (by decide),if_neg (by decide),if_pos rfl,r1,q1]
  refine ⟨?_,q2⟩
  simp [addI,Itm.rolesOf,Itm.freshOf,Itm.tagsOf,Itm.stepsOf,Itm.goalsOf]
 | fresh r xs =>
  obtain ⟨o1,o2,o3⟩:=ho
  obtain ⟨x,xs',rfl⟩ : ∃ x xs',xs=x :: xs':=by
   cases xs with
   | nil=>exact absurd rfl o2
   | cons x xs'=>exact ⟨x,xs',rfl⟩
  have e : (Itm.fresh r (x :: xs')).tk++ts=nmT uDr :: nmT r :: syT 58 :: ([nmT x.1,nmT (uCq x.2)]++((xs'.map fun f=>syT 44 :: [nmT f.1,nmT (uCq f.2)]).flatten++(syT 59 :: ts))):=by
   simp [Itm.tk,uBg,List.map_map,Function.comp_def]
  rw [e] at h hp
  obtain ⟨n1,n2⟩:=nameP_at' (ws:=uBM) h (.inr (by decide))
  obtain ⟨n3,n4⟩:=nameP_at' (ws:=[]) n2 (.inl rfl)
  obtain ⟨n5,n6⟩:=needP_at' n4
  have hlen : xs'.length < l.length + 1:=by
   have h2:=n6.len
   have : ∀ ys : List (List UInt8 × Int),ys.length≤(ys.map fun f=>syT 44 :: [nmT f.1,nmT (uCq f.2)]).flatten.length:=by
    intro ys
    induction ys with
    | nil=>simp
    | cons y ys ih=>simp only [List.map_cons,List.flatten_cons,List.length_append,List.length_cons] at ih ⊢; omega
   have := this xs'
   simp only [List.length_append,List.length_cons] at h2; omega
  obtain ⟨r1,r2⟩:=uHB (role:=r) xs' x (fun f hf=>(o3 f hf).2) (l.length + 1) p.go.go.go n.fresh hlen n6 hp.tail.tail.tail
  obtain ⟨q1,q2⟩:=needP_at' r2
  rw [n1]
  dsimp only
  rw [uBB,if_neg (by decide),if_pos rfl]
  have ef : uBK l p.go n.fresh=uBE l r (l.length + 1) p.go.go.go n.fresh:=by
   unfold uBK; rw [n3,n5]
  dsimp only
  rw [ef,r1,q1]
  refine ⟨?_,q2⟩
  simp [addI,Itm.rolesOf,Itm.freshOf,Itm.tagsOf,Itm.stepsOf,Itm.goalsOf]
 | step s =>
  obtain ⟨o1,o2,o3⟩:=ho
  have e : (Itm.step s).tk++ts=nmT wMsg :: nmT s.frm :: syT 45 :: syT 62 :: nmT s.dst :: syT 58 :: (tkE s.msg++(syT 59 :: ts)):=by simp [Itm.tk]
  rw [e] at h hp
  obtain ⟨n1,n2⟩:=nameP_at' (ws:=uBM) h (.inr (by decide))
  obtain ⟨n3,n4⟩:=nameP_at' (ws:=[]) n2 (.inl rfl)
  obtain ⟨n5,n6⟩:=needP_at' n4
  obtain ⟨n7,n8⟩:=needP_at' n6
  obtain ⟨n9,n10⟩:=nameP_at' (ws:=[]) n8 (.inl rfl)
  obtain ⟨n11,n12⟩:=needP_at' n10
  obtain ⟨r1,r2⟩ := uDV l s.msg.size s.msg (Nat.le_refl _) o3 (l.length + 1) _ _ n12 (by have := n12.len; omega) (uDG (by decide) _) hp.tail.tail.tail.tail.tail.tail
  obtain ⟨q1,q2⟩:=needP_at' r2
  rw [n1]
  dsimp only
  rw [uBB,if_neg (by decide),if_neg (by decide),if_neg (by decide),if_pos rfl]
  have es : uCs l 0 p.go=(⟨s.frm,s.dst,s.msg,0⟩,(uAU l (l.length + 1) p.go.go.go.go.go.go).2):=by
   unfold uCs; dsimp only; rw [n3,n5,n7,n9,n11,r1]
  dsimp only
  rw [es,q1]
  refine ⟨?_,q2⟩
  simp [addI,Itm.rolesOf,Itm.freshOf,Itm.tagsOf,Itm.stepsOf,Itm.goalsOf,Sp.el]
 | goal g =>
  obtain ⟨o1,o2,o3,o4,o5,o6,o7⟩:=ho
  have e : (Itm.goal g).tk++ts=nmT uEm :: nmT (uDP g.kind) :: nmT g.role :: ((if uBo g.kind=true then [nmT g.wth] else [])++syT 58 :: (uBg (g.data.map tkE)++(syT 59 :: ts))):=by simp [Itm.tk]
  rw [e] at h hp
  obtain ⟨i1,i2⟩:=uLF o1 o2
  obtain ⟨n1,n2⟩:=nameP_at' (ws:=uBM) h (.inr (by decide))
  obtain ⟨n3,n4⟩:=nameP_at' (ws:=kindW) n2 (.inr i1)
  obtain ⟨n5,n6⟩:=nameP_at' (ws:=[]) n4 (.inl rfl)
  obtain ⟨w,hw,n8⟩ : ∃ w,(if uBo g.kind=true then uAz l [] p.go.go.go else ([],p.go.go.go))=(g.wth,w)∧At l w (syT 58 :: (uBg (g.data.map tkE)++(syT 59 :: ts))):=by
   by_cases ha : uBo g.kind=true
   ·rw [if_pos ha] at n6 ⊢
    obtain ⟨x1,x2⟩:=nameP_at' (ws:=[]) n6 (.inl rfl)
    exact ⟨_,x1,x2⟩
   ·rw [if_neg ha] at n6 ⊢
    exact ⟨_,by rw [o5 (by simpa using ha)],n6⟩
  obtain ⟨n9,n10⟩:=needP_at' n8
  have hpd : Pln (uBg (g.data.map tkE)++(syT 59 :: ts)):=(Pln.right hp.tail.tail.tail).tail
  have hlen : g.data.length≤l.length:=by
   have h1:=uEf (xs:=g.data.map tkE) (fun x hx=>by obtain ⟨y,_,rfl⟩:=List.mem_map.1 hx; exact uJp y)
   have h2:=n10.len
   rw [List.length_map] at h1
   simp only [List.length_append,List.length_cons] at h2; omega
  obtain ⟨r1,r2⟩:=uD8 (f:=uAU l (l.length + 1)) (N:=l.length + 1) o6 (fun x hx=>uDV l x.size x (Nat.le_refl _) (o7 x hx) (l.length + 1)) hlen n10
   (by have := n10.len; omega) (fun r=>uHF (by decide)) (uDG (by decide) _) hpd
  obtain ⟨q1,q2⟩:=needP_at' r2
  rw [n1]
  dsimp only
  rw [uBB,if_neg (by decide),if_neg (by decide),if_neg (by decide),if_neg (by decide),if_pos rfl]
  have es : uB6 l 0 p.go=(⟨g.kind,g.role,g.wth,g.data,0⟩,(uBi l (uAU l (l.length + 1)) w.go).2):=by
   unfold uB6; dsimp only; rw [n3]; dsimp only; rw [i2,n5]; dsimp only; rw [hw,n9,r1]
  dsimp only
  rw [es,q1]
  refine ⟨?_,q2⟩
  simp [addI,Itm.rolesOf,Itm.freshOf,Itm.tagsOf,Itm.stepsOf,Itm.goalsOf,Gl.el]
theorem uHk {i : Itm} : ∃ w r,i.tk=nmT w :: r:=by
 cases i <;> exact ⟨_,_,rfl⟩
theorem uHp {l : List Tk} : ∀ (L : List Itm),(∀ i ∈ L,i.ok) → ∀ (m : Nat) (n : Nar) (p : PS),L.length < m→At l p ((L.map Itm.tk).flatten++[syT 125])→Pln ((L.map Itm.tk).flatten++[syT 125]) →
  (uB8 l m n p).1=L.foldl addI n∧At l (uB8 l m n p).2 []
 | _,_,0,n,p,hm,_,_=>by omega
 | [],_,m + 1,n,p,_,h,hp=>by
  have h : At l p (syT 125 :: []):=h
  rw [uB8,if_neg (by rw [h.good]; simp),if_pos (uD5 h)]
  exact ⟨rfl,h.cons.2.2⟩
 | i :: L,ho,m + 1,n,p,hm,h,hp=>by
  have e : ((i :: L).map Itm.tk).flatten++[syT 125]=i.tk++((L.map Itm.tk).flatten++[syT 125]):=by simp
  rw [e] at h hp
  have hq : symQ l p [125]=false:=by
   refine uD7 h (fun r=>?_) hp
   obtain ⟨w,r',hw⟩:=@uHk i
   rw [hw]; exact uKk
  rw [uB8,if_neg (by rw [h.good]; simp),if_neg (by rw [hq]; simp)]
  obtain ⟨r1,r2⟩:=uMO (n:=n) (ho i (by simp)) h hp
  rw [r1]
  exact uHp L (fun j hj=>ho j (by simp [hj])) m (addI n i) _ (by simpa using hm) r2 hp.right
def uCY (nm : List UInt8) (L : List Itm) : List Tk:=nmT uC4 :: nmT nm :: syT 123 :: ((L.map Itm.tk).flatten++[syT 125])
theorem uN9 (i : Itm) : Pln i.tk:=by
 have hn : ∀ xs : List (List UInt8),Pln (uBg (xs.map fun w=>[nmT w])):=fun xs=>uDA fun x hx=>by
  obtain ⟨y,_,rfl⟩:=List.mem_map.1 hx; exact Pln.nm _
 have ht : ∀ xs : List T,Pln (uBg (xs.map tkE)):=fun xs=>uDA fun x hx=>by
  obtain ⟨y,_,rfl⟩:=List.mem_map.1 hx; exact uFE y.size y (Nat.le_refl _)
 cases i with
 | roles l=>exact (Pln.nm _).app ((hn l).app (Pln.sy _))
 | tags l=>exact (Pln.nm _).app ((hn l).app (Pln.sy _))
 | fresh r l=>exact (Pln.nm _).app ((Pln.nm _).app ((Pln.sy _).app ((uDA fun x hx=>by
   obtain ⟨y,_,rfl⟩:=List.mem_map.1 hx; exact (Pln.nm _).cons (Pln.nm _)).app (Pln.sy _))))
 | step s=>exact (Pln.nm _).app ((Pln.nm _).app (((Pln.sy _).cons (Pln.sy _)).app ((Pln.nm _).app ((Pln.sy _).app ((uFE _ _ (Nat.le_refl _)).app (Pln.sy _))))))
 | goal g =>
  refine (Pln.nm _).app ((Pln.nm _).app ((Pln.nm _).app (Pln.app ?_ ((Pln.sy _).app ((ht _).app (Pln.sy _))))))
  split
  ·exact Pln.nm _
  ·exact Pln.nil
theorem uF2 : ∀ L : List Itm,Pln (L.map Itm.tk).flatten
 | []=>Pln.nil
 | i :: L=>(uN9 i).app (uF2 L)
theorem uN6 {nm : List UInt8} {L : List Itm} (ho : ∀ i ∈ L,i.ok) : (uBL (uCY nm L)).1=L.foldl addI { nar0 with name:=nm } ∧ endE (uCY nm L) (uBL (uCY nm L)).2=(0,0):=by
 have hp : Pln (uCY nm L):=(Pln.nm _).cons ((Pln.nm _).cons ((Pln.sy _).cons ((uF2 L).app (Pln.sy _))))
 have h : At (uCY nm L) ⟨0,false⟩ (nmT uC4 :: nmT nm :: syT 123 :: ((L.map Itm.tk).flatten++[syT 125])):=⟨rfl,by simp,rfl⟩
 obtain ⟨n1,n2⟩:=nameP_at' (ws:=[uC4]) h (.inr (by decide))
 obtain ⟨n3,n4⟩:=nameP_at' (ws:=[]) n2 (.inl rfl)
 obtain ⟨n5,n6⟩:=needP_at' n4
 have hlen : L.length < (uCY nm L).length + 2:=by
  have h2:=n6.len
  have : ∀ L : List Itm,L.length≤(L.map Itm.tk).flatten.length:=by
   intro L
   induction L with
   | nil=>simp
   | cons i L ih =>
    obtain ⟨w,r,hw⟩:=@uHk i
    simp only [List.map_cons,List.flatten_cons,List.length_append,List.length_cons,hw] at ih ⊢; omega
  have := this L
  simp only [List.length_append] at h2; omega
 have hp3:=hp.tail.tail.tail
 obtain ⟨r1,r2⟩:=uHp L ho ((uCY nm L).length + 2) { nar0 with name:=nm } _ hlen n6 hp3
 unfold uBL
 dsimp only
 rw [n1]
 dsimp only
 rw [n3]
 dsimp only
 rw [n5]
 refine ⟨r1,?_⟩
 have hl:=r2.len
 unfold endE
 rw [if_neg (by rintro (q | q); { rw [r2.good] at q; cases q }; { simp at hl; omega })]
end Go.Proofs.YtnjjdbapadkomaaGreatDoor
namespace Go.Proofs.YtnjjdbapadkomaaGreatDoor
open Go Go.Abs
def Itm.more (f : List UInt8 × Int) : Itm→Itm
 | .fresh r l=>.fresh r (l++[f])
 | i=>i
def glue (f : List UInt8 × Int) : List Itm→List Itm
 | []=>[]
 | [i]=>[i.more f]
 | i :: j :: r=>i :: glue f (j :: r)
theorem uGg (f : List UInt8 × Int) (r : List UInt8) (l : List (List UInt8 × Int)) : ∀ I : List Itm,glue f (I++[.fresh r l])=I++[.fresh r (l++[f])]
 | []=>rfl
 | [i]=>rfl
 | i :: j :: I=>by
  have ih:=uGg f r l (j :: I)
  rw [List.cons_append,List.cons_append] at ih
  rw [List.cons_append,List.cons_append,glue,ih]
  rfl
def uCE (fs : List Fs) (k : Nat) : Prop:=0 < k∧(fs.getD (k - 1) default).role=(fs.getD k default).role
instance (fs : List Fs) (k : Nat) : Decidable (uCE fs k):=by unfold uCE; infer_instance
def Fs.pr (f : Fs) : List UInt8 × Int:=(f.name,f.sort)
def frI (fs : List Fs) : Nat→List Itm
 | 0=>[]
 | k + 1=>if uCE fs k then glue (fs.getD k default).pr (frI fs k) else frI fs k++[.fresh (fs.getD k default).role [(fs.getD k default).pr]]
theorem uKj (fs : List Fs) : ∀ k,0 < k → ∃ I l,l≠[]∧frI fs k=I++[.fresh (fs.getD (k - 1) default).role l]
 | 0,h=>by omega
 | k + 1,_=>by
  rw [frI,Nat.add_sub_cancel]
  split
  ·rename_i hs
   obtain ⟨I,l,h1,h2⟩:=uKj fs k hs.1
   rw [h2,uGg,hs.2]
   exact ⟨I,_,by simp,rfl⟩
  ·exact ⟨_,_,by simp,rfl⟩
theorem uDO {fs : List Fs} {k : Nat} (hs : uCE fs k) : ∃ I l,l≠[]∧frI fs k=I++[.fresh (fs.getD k default).role l]∧frI fs (k + 1)=I++[.fresh (fs.getD k default).role (l++[(fs.getD k default).pr])]:=by
 obtain ⟨I,l,h1,h2⟩:=uKj fs k hs.1
 rw [hs.2] at h2
 exact ⟨I,l,h1,h2,by rw [frI,if_pos hs,h2,uGg]⟩
theorem uEW {fs : List Fs} {k : Nat} (hs : ¬uCE fs k) : frI fs (k + 1)=frI fs k++[.fresh (fs.getD k default).role [(fs.getD k default).pr]]:=by rw [frI,if_neg hs]
theorem uEQ (fs : List Fs) : ∀ k,(frI fs k).length≤k
 | 0=>by simp [frI]
 | k + 1=>by
  have ih:=uEQ fs k
  by_cases hs : uCE fs k
  ·obtain ⟨I,l,_,h2,h3⟩:=uDO hs
   rw [h2] at ih
   rw [h3]
   simp only [List.length_append,List.length_singleton] at ih ⊢; omega
  ·rw [uEW hs]
   simp only [List.length_append,List.length_singleton]; omega
theorem uIF (fs : List Fs) : ∀ k,k≤fs.length→(frI fs k).flatMap Itm.freshOf=fs.take k
 | 0,_=>by simp [frI]
 | k + 1,h=>by
  have ih:=uIF fs k (by omega)
  have ht : fs.take (k + 1)=fs.take k++[fs.getD k default]:=by
   rw [List.take_add_one,List.getD_eq_getElem?_getD,List.getElem?_eq_getElem (by omega)]; rfl
  rw [ht]
  by_cases hs : uCE fs k
  ·obtain ⟨I,l,_,h2,h3⟩:=uDO hs
   rw [h2] at ih
   rw [h3]
   simp only [List.flatMap_append,List.flatMap_cons,List.flatMap_nil,List.append_nil,Itm.freshOf,List.map_append,List.map_cons,List.map_nil] at ih ⊢
   rw [← ih,List.append_assoc]; rfl
  ·rw [uEW hs,List.flatMap_append,ih]; rfl
theorem uL6 (fs : List Fs) : ∀ k,∀ i ∈ frI fs k,∃ r l,i = .fresh r l
 | 0,i,h=>by simp [frI] at h
 | k + 1,i,h=>by
  have ih:=uL6 fs k
  by_cases hs : uCE fs k
  ·obtain ⟨I,l,_,h2,h3⟩:=uDO hs
   rw [h3] at h
   rw [h2] at ih
   rcases List.mem_append.1 h with q | q
   ·exact ih i (by simp [q])
   ·simp at q; exact ⟨_,_,q⟩
  ·rw [uEW hs] at h
   rcases List.mem_append.1 h with q | q
   ·exact ih i q
   ·simp at q; exact ⟨_,_,q⟩
theorem uI4 (sep x : List UInt8) : ∀ l : List (List UInt8),l≠[]→Lib.join (l++[x]) sep=Lib.join l sep++(sep++x)
 | [],h=>absurd rfl h
 | y :: l,_=>by
  rw [List.cons_append,Lib.join_cons,Lib.join_cons]
  have : ∀ l : List (List UInt8),Lib.joinTail sep (l++[x])=Lib.joinTail sep l++(sep++x):=by
   intro l
   simp [Lib.joinTail]
  rw [this,List.append_assoc]
theorem uFH (sep x : List UInt8) : Lib.join [x] sep=x:=by rw [Lib.join_cons]; simp [Lib.joinTail]
theorem uIp {r : List UInt8} {l : List (List UInt8 × Int)} (f : List UInt8 × Int) (h : l≠[]) : (Itm.fresh r (l++[f])).text=(Itm.fresh r l).text.dropLast++([44,32]++(fsW f++[59])):=by
 have e : (Itm.fresh r l).text=(hFresh++(r++([58,32]++Lib.join (l.map fsW) [44,32])))++[59]:=by simp [Itm.text]
 rw [e,List.dropLast_concat]
 simp only [Itm.text,List.map_append,List.map_cons,List.map_nil]
 rw [uI4 _ _ _ (by simpa using h)]
 simp
theorem uIK (r : List UInt8) (l : List (List UInt8 × Int)) : ∃ s,(Itm.fresh r l).text=s++[59]:=⟨hFresh++(r++([58,32]++Lib.join (l.map fsW) [44,32])),by simp [Itm.text]⟩
def Nar.itms (n : Nar) : List Itm:=[.roles n.roles]++(frI n.fresh n.fresh.length++((if n.tags=[] then [] else [.tags n.tags])++(n.steps.map .step++n.goals.map .goal)))
def uDc (n : Nar) : List UInt8:=hProt++(n.name++[32,123])
def Nar.lines (n : Nar) : List (List UInt8):=[uDc n]++(n.itms.map Itm.text++[[125]])
def nl (L : List (List UInt8)) : List UInt8:=(L.map fun s=>s++[10]).flatten
theorem uCP (a b : List (List UInt8)) : nl (a++b)=nl a++nl b:=by simp [nl]
theorem uMl : ∀ L : List (List UInt8),L≠[]→Lib.join L [10]++[10]=nl L
 | [],h=>absurd rfl h
 | [x],_=>by rw [uFH]; simp [nl]
 | x :: y :: L,_=>by
  have ih:=uMl (y :: L) (by simp)
  have e : Lib.join (x :: y :: L) [10]=x++([10]++Lib.join (y :: L) [10]):=by
   rw [Lib.join_cons,Lib.join_cons]; simp [Lib.joinTail]
  have e2 : nl (x :: y :: L)=x++([10]++nl (y :: L)):=by simp [nl]
  rw [e,e2,← ih]; simp
def Nar.text (n : Nar) : List UInt8:=Lib.join n.lines [10]++[10]
theorem Nar.text_eq (n : Nar) : n.text=nl n.lines:=uMl _ (by simp [Nar.lines])
structure MsgOk (t : T) : Prop where
 raw : uDd uAH t=0
 size : t.size≤40
structure GlOk (g : Gl) : Prop where
 k1 : 1≤g.kind
 k2 : g.kind≤5
 role : uAH g.role=true
 w1 : uBo g.kind=true→uAH g.wth=true
 w0 : uBo g.kind=false→g.wth=[]
 d1 : 1≤g.data.length
 d2 : g.data.length≤4
 data : ∀ t ∈ g.data,MsgOk t
structure NarOk (n : Nar) : Prop where
 name : uAH n.name=true
 r1 : 2≤n.roles.length
 r2 : n.roles.length≤4
 roles : ∀ w ∈ n.roles,uAH w=true
 f2 : n.fresh.length≤12
 fresh : ∀ f ∈ n.fresh,uAH f.role=true∧uAH f.name=true∧2≤f.sort∧f.sort≤4
 t2 : n.tags.length≤8
 tags : ∀ w ∈ n.tags,uAH w=true
 s1 : 1≤n.steps.length
 s2 : n.steps.length≤8
 steps : ∀ s ∈ n.steps,uAH s.frm=true∧uAH s.dst=true∧MsgOk s.msg
 g2 : n.goals.length≤8
 goals : ∀ g ∈ n.goals,GlOk g
theorem uNX {t : T} (h : msgE uAH t=0) : MsgOk t:=by
 unfold msgE at h
 split at h
 ·rename_i hz; exact absurd h hz
 ·rename_i hz
  split at h
  ·simp at h
  ·exact ⟨Decidable.not_not.1 hz,by omega⟩
theorem uOW {g : Gl} (h : uB4 uAH g=0) : GlOk g:=by
 unfold uB4 at h
 split at h
 ·simp at h
 rename_i h1
 split at h
 ·simp at h
 rename_i h2
 split at h
 ·simp at h
 rename_i h3
 split at h
 ·simp at h
 rename_i h4
 have h5:=errs_zero.1 h
 refine ⟨by omega,by omega,?_,fun ha=>?_,fun ha=>?_,?_,?_,fun t ht=>uNX (h5 t ht)⟩
 ·cases hz : uAH g.role with
  | true=>rfl
  | false=>exact absurd (.inl hz) h2
 ·cases hz : uAH g.wth with
  | true=>rfl
  | false=>exact absurd (.inr ⟨ha,hz⟩) h2
 ·exact Decidable.byContradiction fun q=>h3 ⟨ha,q⟩
 ·cases ha : uBo g.kind with
  | true=>exact Decidable.byContradiction fun q=>h4 (.inl ⟨ha,by omega⟩)
  | false=>exact Decidable.byContradiction fun q=>h4 (.inr ⟨ha,by omega⟩)
 ·cases ha : uBo g.kind with
  | true=>exact Decidable.byContradiction fun q=>h4 (.inl ⟨ha,by omega⟩)
  | false=>exact Decidable.byContradiction fun q=>h4 (.inr ⟨ha,by omega⟩)
theorem uPJ {n : Nar} (h : cntE n=0) : 2≤n.roles.length∧n.roles.length≤4∧n.fresh.length≤12∧n.tags.length≤8∧1≤n.steps.length∧n.steps.length≤8∧n.goals.length≤8:=by
 unfold cntE at h
 repeat' split at h
 all_goals first
  | (simp at h; done)
  | omega
theorem uEp {n : Nar} (h : narE uAH n=0) : NarOk n:=by
 unfold narE at h
 split at h
 ·rename_i hz; exact absurd h hz
 rename_i h1
 split at h
 ·rename_i hz; exact absurd h hz
 rename_i h2
 have h1:=Decidable.not_not.1 h1
 have h2:=errs_zero.1 (Decidable.not_not.1 h2)
 have h3:=errs_zero.1 h
 unfold uDg at h1
 split at h1
 ·simp at h1
 rename_i a1
 split at h1
 ·rename_i hz; exact absurd h1 hz
 rename_i a2
 split at h1
 ·simp at h1
 rename_i a3
 split at h1
 ·rename_i hz; exact absurd h1 hz
 rename_i a4
 split at h1
 ·simp at h1
 rename_i a5
 obtain ⟨c1,c2,c3,c4,c5,c6,c7⟩:=uPJ (Decidable.not_not.1 a2)
 have a4:=errs_zero.1 (Decidable.not_not.1 a4)
 refine ⟨by simpa using a1,c1,c2,fun w hw=>List.all_eq_true.1 (by simpa using a3) w hw,c3,fun f hf=>?_,c4,fun w hw=>List.all_eq_true.1 (by simpa using a5) w hw,c5,c6,fun s hs=>?_,c7,fun g hg=>uOW (h3 g hg)⟩
 ·have := a4 f hf
  unfold frE at this
  split at this
  ·simp at this
  rename_i q
  split at this
  ·simp at this
  ·refine ⟨?_,?_,by omega,by omega⟩
   ·cases hz : uAH f.role with
    | true=>rfl
    | false=>exact absurd (.inl hz) q
   ·cases hz : uAH f.name with
    | true=>rfl
    | false=>exact absurd (.inr hz) q
 ·have := h2 s hs
  unfold spE at this
  split at this
  ·simp at this
  rename_i q
  refine ⟨?_,?_,uNX this⟩
  ·cases hz : uAH s.frm with
   | true=>rfl
   | false=>exact absurd (.inl hz) q
  ·cases hz : uAH s.dst with
   | true=>rfl
   | false=>exact absurd (.inr hz) q
theorem uBz {w : List UInt8} (h : uAH w=true) : w.length≤24:=(uHm h).2.2.2
theorem MsgOk.ok {t : T} (h : MsgOk t) : okB t=true:=(uOE h.raw).1
theorem MsgOk.gd {t : T} (h : MsgOk t) : gdB t=true:=uP2 h.raw
theorem MsgOk.len {t : T} (h : MsgOk t) : (uBD t).length≤1120 := by have := uFL h.ok; have := h.size; omega
theorem uKp : ∀ {l : List T} {M : Nat},(∀ t ∈ l,t.size≤M)→T.sizes l≤M * l.length
 | [],M,_=>by simp [T.sizes]
 | t :: l,M,h=>by
  have h1:=h t (by simp)
  have h2:=uKp (M:=M) fun x hx=>h x (List.mem_cons_of_mem t hx)
  rw [T.sizes,List.length_cons,Nat.mul_succ]; omega
theorem GlOk.sizes {g : Gl} (h : GlOk g) : T.sizes g.data≤160:=by
 have := uKp (M := 40) fun t ht=>(h.data t ht).size
 have := h.d2; omega
theorem GlOk.oks {g : Gl} (h : GlOk g) : ∀ t ∈ g.data,okB t=true:=fun t ht=>(h.data t ht).ok
theorem GlOk.len {g : Gl} (h : GlOk g) : (uBU g.data).length≤4480 := by have := uHb h.oks; have := h.sizes; omega
theorem GlOk.wth {g : Gl} (h : GlOk g) : g.wth.length≤24:=by
 cases ha : uBo g.kind with
 | true=>exact uBz (h.w1 ha)
 | false=>rw [h.w0 ha]; simp
theorem uJe (fs : List Fs) : ∀ k,k≤fs.length → ∀ i ∈ frI fs k,∃ r l,i = .fresh r l∧l≠[]∧l.length≤k ∧ ∀ p ∈ l,∃ f ∈ fs,p=f.pr∧f.role=r
 | 0,_,i,h=>by simp [frI] at h
 | k + 1,hk,i,h=>by
  have ih:=uJe fs k (by omega)
  have hm : fs.getD k default ∈ fs:=by
   rw [List.getD_eq_getElem?_getD,List.getElem?_eq_getElem (by omega)]; exact List.getElem_mem _
  by_cases hs : uCE fs k
  ·obtain ⟨I,l,_,h2,h3⟩:=uDO hs
   rw [h3] at h
   rw [h2] at ih
   rcases List.mem_append.1 h with q | q
   ·obtain ⟨r,l',e1,e2,e3,e4⟩:=ih i (by simp [q])
    exact ⟨r,l',e1,e2,by omega,e4⟩
   ·obtain ⟨r,l',e1,e2,e3,e4⟩:=ih _ (List.mem_append.2 (.inr (List.mem_singleton.2 rfl)))
    simp only [Itm.fresh.injEq] at e1
    obtain ⟨rfl,rfl⟩:=e1
    refine ⟨_,_,List.mem_singleton.1 q,by simp,by simp only [List.length_append,List.length_singleton]; omega,fun p hp=>?_⟩
    rcases List.mem_append.1 hp with z | z
    ·exact e4 p z
    ·exact ⟨_,hm,List.mem_singleton.1 z,rfl⟩
  ·rw [uEW hs] at h
   rcases List.mem_append.1 h with q | q
   ·obtain ⟨r,l',e1,e2,e3,e4⟩:=ih i q
    exact ⟨r,l',e1,e2,by omega,e4⟩
   ·refine ⟨_,_,List.mem_singleton.1 q,by simp,by simp,fun p hp=>⟨_,hm,List.mem_singleton.1 hp,rfl⟩⟩
def FsOk (fs : List Fs) : Prop:=∀ f ∈ fs,uAH f.role=true∧uAH f.name=true∧2≤f.sort∧f.sort≤4
theorem uNG {fs : List Fs} (h : FsOk fs) {k : Nat} (hk : k≤fs.length) : ∀ i ∈ frI fs k,i.ok:=by
 intro i hi
 obtain ⟨r,l,rfl,h2,h3,h4⟩:=uJe fs k hk i hi
 refine ⟨?_,h2,fun p hp=>?_⟩
 ·obtain ⟨p,q,rfl⟩ : ∃ p q,l=p :: q:=by
   cases l with
   | nil=>exact absurd rfl h2
   | cons p q=>exact ⟨p,q,rfl⟩
  obtain ⟨f,hf,_,e⟩:=h4 p (by simp)
  rw [← e]; exact (h f hf).1
 ·obtain ⟨f,hf,e,_⟩:=h4 p hp
  subst e
  exact ⟨(h f hf).2.1,(h f hf).2.2.1,(h f hf).2.2.2⟩
theorem uOw {L : List (List UInt8)} {M : Nat} (h : ∀ x ∈ L,x.length≤M) : uEu L≤(M + 2) * L.length:=by
 induction L with
 | nil=>simp [uEu]
 | cons x L ih =>
  have h1:=h x (by simp)
  have h2:=ih fun y hy=>h y (by simp [hy])
  simp only [uEu,List.map_cons,List.sum_cons,List.length_cons,Nat.mul_succ] at h2 ⊢
  omega
theorem uJu {L : List (List UInt8)} {M : Nat} (h : ∀ x ∈ L,x.length≤M) : (Lib.join L [44,32]).length≤(M + 2) * L.length:=Nat.le_trans (uEI L).1 (uOw h)
theorem uM6 (k : Int) : (uCq k).length≤5:=by
 unfold uCq
 have : ∀ j : Nat,(sortW.getD j []).length≤5:=by
  intro j
  match j with
  | 0=>decide
  | 1=>decide
  | 2=>decide
  | j + 3=>simp [sortW,List.getD_eq_getElem?_getD]
 exact this _
theorem uFN {fs : List Fs} (h : FsOk fs) {k : Nat} (hk : k≤fs.length) (h12 : fs.length≤12) : ∀ i ∈ frI fs k,i.text.length≤500:=by
 intro i hi
 have ho:=uNG h hk i hi
 obtain ⟨r,l,rfl,h2,h3,h4⟩:=uJe fs k hk i hi
 obtain ⟨o1,o2,o3⟩:=ho
 have h5:=uBz o1
 have h6 : (Lib.join (l.map fsW) [44,32]).length≤(30 + 2) * l.length:=by
  have := uJu (L := l.map fsW) (M := 30) fun x hx=>by
   obtain ⟨p,hp,rfl⟩:=List.mem_map.1 hx
   have := uBz (o3 p hp).1
   have := uM6 p.2
   simp only [fsW,List.length_append,List.length_cons,List.length_nil]; omega
  rwa [List.length_map] at this
 have : hFresh.length=8:=rfl
 simp only [Itm.text,List.length_append,List.length_cons,List.length_nil]
 omega
theorem uCx {l : List (List UInt8)} (h : ∀ w ∈ l,uAH w=true) : (Lib.join l [44,32]).length≤26 * l.length:=uJu fun x hx=>uBz (h x hx)
theorem uIm {s : Sp} (h1 : uAH s.frm=true) (h2 : uAH s.dst=true) (h3 : MsgOk s.msg) : (Itm.step s).text.length≤1300:=by
 have a:=uBz h1
 have b:=uBz h2
 have c:=h3.len
 have : hMsg.length=10:=rfl
 have : arrow.length=4:=rfl
 simp only [Itm.text,List.length_append,List.length_cons,List.length_nil]; omega
theorem uNr (k : Int) : (uDP k).length≤7:=by
 unfold uDP
 have : ∀ j : Nat,(kindW.getD j []).length≤7:=by
  intro j
  match j with
  | 0=>decide
  | 1=>decide
  | 2=>decide
  | 3=>decide
  | 4=>decide
  | j + 5=>simp [kindW,List.getD_eq_getElem?_getD]
 exact this _
theorem uEd (g : Gl) : (Itm.goal g).text=hGoal++(uEi g++[59]):=by
 simp only [Itm.text,uEi,uDP]
 split <;> simp
theorem uDo {g : Gl} (h : GlOk g) : (Itm.goal g).text.length≤4600:=by
 have a:=uBz h.role
 have b:=h.wth
 have c:=h.len
 have d:=uNr g.kind
 have : hGoal.length=7:=rfl
 simp only [Itm.text,List.length_append,List.length_cons,List.length_nil]
 split <;> (simp only [List.length_append,List.length_cons,List.length_nil]; omega)
theorem NarOk.itm_text {n : Nar} (h : NarOk n) : ∀ i ∈ n.itms,i.text.length≤4600:=by
 intro i hi
 unfold Nar.itms at hi
 rcases List.mem_append.1 hi with q | q
 ·rw [List.mem_singleton.1 q]
  have := uCx h.roles
  have := h.r2
  have : hRole.length=7:=rfl
  simp only [Itm.text,List.length_append,List.length_cons,List.length_nil]; omega
 rcases List.mem_append.1 q with q | q
 ·exact Nat.le_trans (uFN h.fresh (Nat.le_refl _) h.f2 i q) (by omega)
 rcases List.mem_append.1 q with q | q
 ·split at q
  ·simp at q
  ·rw [List.mem_singleton.1 q]
   have := uCx h.tags
   have := h.t2
   have : hTag.length=6:=rfl
   simp only [Itm.text,List.length_append,List.length_cons,List.length_nil]; omega
 rcases List.mem_append.1 q with q | q
 ·obtain ⟨s,hs,rfl⟩:=List.mem_map.1 q
  obtain ⟨s1,s2,s3⟩:=h.steps s hs
  exact Nat.le_trans (uIm s1 s2 s3) (by omega)
 ·obtain ⟨g,hg,rfl⟩:=List.mem_map.1 q
  exact uDo (h.goals g hg)
theorem NarOk.itm_len {n : Nar} (h : NarOk n) : n.itms.length≤30:=by
 have := uEQ n.fresh n.fresh.length
 have := h.f2
 have := h.s2
 have := h.g2
 unfold Nar.itms
 split <;> (simp only [List.length_append,List.length_map,List.length_singleton,List.length_nil]; omega)
theorem NarOk.line_len {n : Nar} (h : NarOk n) : ∀ x ∈ n.lines,x.length≤4600:=by
 intro x hx
 unfold Nar.lines at hx
 rcases List.mem_append.1 hx with q | q
 ·rw [List.mem_singleton.1 q]
  have := uBz h.name
  have : hProt.length=9:=rfl
  simp only [uDc,List.length_append,List.length_cons,List.length_nil]; omega
 rcases List.mem_append.1 q with q | q
 ·obtain ⟨i,hi,rfl⟩:=List.mem_map.1 q
  exact h.itm_text i hi
 ·rw [List.mem_singleton.1 q]; simp
theorem NarOk.lines_len {n : Nar} (h : NarOk n) : n.lines.length≤32:=by
 have := h.itm_len
 simp only [Nar.lines,List.length_append,List.length_map,List.length_singleton]; omega
theorem uN0 (L : List (List UInt8)) {M : Nat} (h : ∀ x ∈ L,x.length≤M) : (nl L).length≤(M + 1) * L.length:=by
 induction L with
 | nil=>simp [nl]
 | cons x L ih =>
  have h1:=h x (by simp)
  have h2:=ih fun y hy=>h y (by simp [hy])
  have e : nl (x :: L)=x++([10]++nl L):=by simp [nl]
  rw [e]
  simp only [List.length_append,List.length_cons,List.length_nil,Nat.mul_succ]
  omega
theorem uJq {α : Type} (f : α→List UInt8) (l : List α) {M : Nat} (h : ∀ x ∈ l,(f x).length≤M) : (nl (l.map f)).length≤(M + 1) * l.length:=by
 have := uN0 (l.map f) (M := M) fun x hx=>by
  obtain ⟨y,hy,rfl⟩:=List.mem_map.1 hx; exact h y hy
 rwa [List.length_map] at this
theorem NarOk.text_len {n : Nar} (h : NarOk n) : n.text.length≤60000:=by
 rw [n.text_eq]
 have e : n.lines=[uDc n]++([(Itm.roles n.roles).text]++((frI n.fresh n.fresh.length).map Itm.text++((if n.tags=[] then [] else [.tags n.tags]).map Itm.text++(n.steps.map (fun s=>(Itm.step s).text)++(n.goals.map (fun g=>(Itm.goal g).text)++[[125]]))))):=by
  unfold Nar.lines Nar.itms
  simp [List.map_map,Function.comp_def]
 rw [e]
 simp only [uCP,List.length_append]
 have h1 : (nl [uDc n]).length≤60:=by
  have := uBz h.name
  have : hProt.length=9:=rfl
  simp only [nl,uDc,List.map_cons,List.map_nil,List.flatten_cons,List.flatten_nil,List.length_append,List.length_cons,List.length_nil]; omega
 have h2 : (nl [(Itm.roles n.roles).text]).length≤200:=by
  have := uCx h.roles
  have := h.r2
  have : hRole.length=7:=rfl
  simp only [nl,Itm.text,List.map_cons,List.map_nil,List.flatten_cons,List.flatten_nil,List.length_append,List.length_cons,List.length_nil]; omega
 have h3:=uJq Itm.text (frI n.fresh n.fresh.length) (uFN h.fresh (Nat.le_refl _) h.f2)
 have h3':=uEQ n.fresh n.fresh.length
 have h4 : (nl ((if n.tags=[] then [] else [.tags n.tags]).map Itm.text)).length≤300:=by
  split
  ·simp [nl]
  ·have := uCx h.tags
   have := h.t2
   have : hTag.length=6:=rfl
   simp only [nl,Itm.text,List.map_cons,List.map_nil,List.flatten_cons,List.flatten_nil,List.length_append,List.length_cons,List.length_nil]; omega
 have h5:=uJq (fun s=>(Itm.step s).text) n.steps (M:=1300) fun s hs=>by
  obtain ⟨s1,s2,s3⟩:=h.steps s hs
  exact uIm s1 s2 s3
 have h6:=uJq (fun g=>(Itm.goal g).text) n.goals (M:=4600) fun g hg=>uDo (h.goals g hg)
 have h7 : (nl [[125]]).length=2:=rfl
 have := h.f2
 have := h.s2
 have := h.g2
 omega
end Go.Proofs.YtnjjdbapadkomaaGreatDoor
namespace Go.Proofs.YtnjjdbapadkomaaGreatDoor
open Go Go.Abs
def SmT (l l' : List Tk) : Prop:=l.length=l'.length ∧ ∀ k,(l.getD k tk0).kind=(l'.getD k tk0).kind∧(l.getD k tk0).text=(l'.getD k tk0).text
theorem uLZ (l : List Tk) (k : Nat) : (l.getD k tk0).nl false=(l.map (·.nl false)).getD k tk0:=by
 rw [List.getD_eq_getElem?_getD,List.getD_eq_getElem?_getD,List.getElem?_map]
 cases l[k]? <;> rfl
theorem SmT.of_nl {l l' : List Tk} (h : l.map (·.nl false)=l'.map (·.nl false)) : SmT l l':=by
 refine ⟨by have := congrArg List.length h; simpa using this,fun k=>?_⟩
 have e : (l.getD k tk0).nl false=(l'.getD k tk0).nl false:=by rw [uLZ,uLZ,h]
 have e1 : ((l.getD k tk0).nl false).kind=((l'.getD k tk0).nl false).kind:=by rw [e]
 have e2 : ((l.getD k tk0).nl false).text=((l'.getD k tk0).nl false).text:=by rw [e]
 exact ⟨e1,e2⟩
theorem uFJ {l l' : List Tk} (h : SmT l l') : symQ l=symQ l':=by
 funext p c
 unfold symQ
 rw [h.1,(h.2 _).1,(h.2 _).2]
theorem uPe {l l' : List Tk} (h : SmT l l') : namQ l=namQ l':=by
 funext p ws
 unfold namQ
 rw [h.1,(h.2 _).1,(h.2 _).2]
theorem uDM {l l' : List Tk} (h : SmT l l') : uA7 l=uA7 l':=by
 funext c p
 unfold uA7
 rw [uFJ h]
theorem uC9 {l l' : List Tk} (h : SmT l l') : uAz l=uAz l':=by
 funext ws p
 unfold uAz
 rw [uPe h,(h.2 _).2]
theorem uKD {α : Type} {l l' : List Tk} (h : SmT l l') (f : PS→α × PS) : ∀ (n : Nat) (p : PS) (out : List α),uBQ l f n p out=uBQ l' f n p out
 | 0,p,out=>rfl
 | n + 1,p,out=>by
  rw [uBQ,uBQ,uFJ h,uKD h f n]
theorem uG7 {α : Type} {l l' : List Tk} (h : SmT l l') (f : PS→α × PS) : uBi l f=uBi l' f:=by
 funext p
 unfold uBi
 rw [h.1,uKD h]
theorem uHo {l l' : List Tk} (h : SmT l l') : ∀ n : Nat,uAU l n=uAU l' n
 | 0=>by funext p; rfl
 | n + 1=>by
  funext p
  rw [uAU,uAU,uFJ h,uC9 h,uDM h,uHo h n,uG7 h]
theorem uID {l l' : List Tk} (h : SmT l l') (role : List UInt8) : ∀ (n : Nat) (p : PS) (out : List Fs),uBE l role n p out=uBE l' role n p out
 | 0,p,out=>rfl
 | n + 1,p,out=>by
  rw [uBE,uBE,uFJ h,uC9 h]
  split
  ·rfl
  ·split
   ·exact uID h role n _ _
   ·rfl
theorem uNe {l l' : List Tk} (h : SmT l l') : uBK l=uBK l':=by
 funext p out
 unfold uBK
 rw [uC9 h,uDM h,h.1,uID h]
theorem uNU {l l' : List Tk} (h : SmT l l') (k k' : Int) (p : PS) : (uCs l k p).1.el=(uCs l' k' p).1.el∧(uCs l k p).2=(uCs l' k' p).2:=by
 unfold uCs
 dsimp only
 rw [uC9 h,uDM h,h.1,uHo h]
 exact ⟨rfl,rfl⟩
theorem uOc {l l' : List Tk} (h : SmT l l') (k k' : Int) (p : PS) : (uB6 l k p).1.el=(uB6 l' k' p).1.el∧(uB6 l k p).2=(uB6 l' k' p).2:=by
 unfold uB6
 dsimp only
 rw [uC9 h,uDM h,h.1,uHo h,uG7 h]
 exact ⟨rfl,rfl⟩
theorem el_inj {n n' : Nar} : n.el=n'.el ↔ n.name=n'.name∧n.roles=n'.roles∧n.fresh=n'.fresh∧n.tags=n'.tags∧n.steps.map Sp.el=n'.steps.map Sp.el∧n.goals.map Gl.el=n'.goals.map Gl.el:=by
 cases n; cases n'
 simp [Nar.el]
theorem uNY {l l' : List Tk} (h : SmT l l') {n n' : Nar} (hn : n.el=n'.el) (k k' : Int) (w : List UInt8) (q : PS) : (uBB l n k w q).1.el=(uBB l' n' k' w q).1.el∧(uBB l n k w q).2=(uBB l' n' k' w q).2:=by
 obtain ⟨h1,h2,h3,h4,h5,h6⟩:=el_inj.1 hn
 have s1:=uNU h k k' q
 have s2:=uOc h k k' q
 unfold uBB uBH
 rw [uC9 h,uG7 h,uNe h,h3]
 split
 ·exact ⟨el_inj.2 ⟨h1,by dsimp only; rw [h2],rfl,h4,h5,h6⟩,rfl⟩
 split
 ·exact ⟨el_inj.2 ⟨h1,h2,rfl,h4,h5,h6⟩,rfl⟩
 split
 ·exact ⟨el_inj.2 ⟨h1,h2,rfl,by dsimp only; rw [h4],h5,h6⟩,rfl⟩
 split
 ·exact ⟨el_inj.2 ⟨h1,h2,rfl,h4,by dsimp only; rw [List.map_append,List.map_append,h5,List.map_cons,List.map_cons,s1.1],h6⟩,s1.2⟩
 split
 ·exact ⟨el_inj.2 ⟨h1,h2,rfl,h4,h5,by dsimp only; rw [List.map_append,List.map_append,h6,List.map_cons,List.map_cons,s2.1]⟩,s2.2⟩
 ·exact ⟨hn,rfl⟩
theorem itemP_sm' {l l' : List Tk} (h : SmT l l') {n n' : Nar} (hn : n.el=n'.el) (p : PS) : (uBX l n p).1.el=(uBX l' n' p).1.el∧(uBX l n p).2=(uBX l' n' p).2:=by
 unfold uBX
 rw [uC9 h,uDM h]
 obtain ⟨e1,e2⟩:=uNY h hn (uCz l p) (uCz l' p) (uAz l' uBM p).1 (uAz l' uBM p).2
 exact ⟨e1,by dsimp only; rw [e2]⟩
theorem uIz {l l' : List Tk} (h : SmT l l') : ∀ (m : Nat) {n n' : Nar} (hn : n.el=n'.el) (p : PS),(uB8 l m n p).1.el=(uB8 l' m n' p).1.el∧(uB8 l m n p).2=(uB8 l' m n' p).2
 | 0,n,n',hn,p=>⟨hn,rfl⟩
 | m + 1,n,n',hn,p=>by
  rw [uB8,uB8,uFJ h]
  split
  ·exact ⟨hn,rfl⟩
  split
  ·exact ⟨hn,rfl⟩
  ·obtain ⟨e1,e2⟩:=itemP_sm' h hn p
   rw [e2]
   exact uIz h m e1 _
theorem uN8 {l l' : List Tk} (h : SmT l l') : (uBL l).1.el=(uBL l').1.el∧(uBL l).2=(uBL l').2:=by
 unfold uBL
 dsimp only
 rw [uC9 h,uDM h,h.1]
 exact uIz h _ rfl _
theorem uO9 {l l' : List Tk} (h : SmT l l') (p : PS) : (endE l p).2=(endE l' p).2∧((endE l p).2=0→endE l p=(0,0)):=by
 unfold endE
 rw [h.1]
 split
 ·exact ⟨rfl,fun q=>by simp at q⟩
 ·exact ⟨rfl,fun _=>rfl⟩
theorem uH5 {α β : Type} (f : β→Int) (g : α→β) : ∀ l : List α,errs f (l.map g)=errs (fun x=>f (g x)) l
 | []=>rfl
 | x :: r=>by rw [List.map_cons,errs,errs,uH5 f g r]
theorem uMf (nm : NmB) (n : Nar) : narE nm n.el=narE nm n:=by
 have h1 : uDg nm n.el=uDg nm n:=by
  unfold uDg
  have : cntE n.el=cntE n:=by
   unfold cntE
   have e1 : n.el.steps.length=n.steps.length:=by simp [Nar.el]
   have e2 : n.el.goals.length=n.goals.length:=by simp [Nar.el]
   rw [e1,e2]; rfl
  rw [this]; rfl
 have h2 : errs (spE nm) n.el.steps=errs (spE nm) n.steps:=by
  show errs (spE nm) (n.steps.map Sp.el)=_
  rw [uH5]; rfl
 have h3 : errs (uB4 nm) n.el.goals=errs (uB4 nm) n.goals:=by
  show errs (uB4 nm) (n.goals.map Gl.el)=_
  rw [uH5]; rfl
 unfold narE
 rw [h1,h2,h3]
theorem NarOk.itm_ok {n : Nar} (h : NarOk n) : ∀ i ∈ n.itms,i.ok:=by
 intro i hi
 unfold Nar.itms at hi
 rcases List.mem_append.1 hi with q | q
 ·rw [List.mem_singleton.1 q]
  exact ⟨fun z=>by have := h.r1; rw [z] at this; simp at this,h.roles⟩
 rcases List.mem_append.1 q with q | q
 ·exact uNG h.fresh (Nat.le_refl _) i q
 rcases List.mem_append.1 q with q | q
 ·split at q
  ·simp at q
  ·rename_i hz
   rw [List.mem_singleton.1 q]
   exact ⟨hz,h.tags⟩
 rcases List.mem_append.1 q with q | q
 ·obtain ⟨s,hs,rfl⟩:=List.mem_map.1 q
  obtain ⟨s1,s2,s3⟩:=h.steps s hs
  exact ⟨s1,s2,s3.gd⟩
 ·obtain ⟨g,hg,rfl⟩:=List.mem_map.1 q
  have hk:=h.goals g hg
  exact ⟨hk.k1,hk.k2,hk.role,hk.w1,hk.w0,fun z=>by have := hk.d1; rw [z] at this; simp at this,fun t ht=>(hk.data t ht).gd⟩
theorem uFR {β : Type} (f : Itm→List β) (hf : ∀ r l,f (.fresh r l)=[]) (fs : List Fs) (k : Nat) : (frI fs k).flatMap f=[]:=by
 rw [List.flatMap_eq_nil_iff]
 intro i hi
 obtain ⟨r,l,rfl⟩:=uL6 fs k i hi
 exact hf r l
theorem map_none {α β : Type} (f : Itm→List β) (g : α→Itm) (hf : ∀ x,f (g x)=[]) (l : List α) : (l.map g).flatMap f=[]:=by
 rw [List.flatMap_eq_nil_iff]
 intro i hi
 obtain ⟨x,_,rfl⟩:=List.mem_map.1 hi
 exact hf x
theorem uHj {α β : Type} (f : Itm→List β) (g : α→Itm) (e : α→β) (hf : ∀ x,f (g x)=[e x]) : ∀ l : List α,(l.map g).flatMap f=l.map e
 | []=>rfl
 | x :: l=>by rw [List.map_cons,List.flatMap_cons,hf,uHj f g e hf l]; rfl
theorem uMj (n : Nar) : n.itms.flatMap Itm.rolesOf=n.roles∧n.itms.flatMap Itm.freshOf=n.fresh∧n.itms.flatMap Itm.tagsOf=n.tags∧n.itms.flatMap Itm.stepsOf=n.steps.map Sp.el∧n.itms.flatMap Itm.goalsOf=n.goals.map Gl.el:=by
 have ht : ∀ {β : Type} (f : Itm→List β),(∀ l,f (.tags l)=[])→(if n.tags=[] then [] else [Itm.tags n.tags]).flatMap f=[]:=by
  intro β f hf
  split
  ·rfl
  ·simp [hf]
 have ht2 : (if n.tags=[] then [] else [Itm.tags n.tags]).flatMap Itm.tagsOf=n.tags:=by
  split
  ·rename_i h; rw [h]; rfl
  ·simp [Itm.tagsOf]
 unfold Nar.itms
 simp only [List.flatMap_append]
 refine ⟨?_,?_,?_,?_,?_⟩
 ·rw [uFR _ (fun _ _=>rfl),ht _ (fun _=>rfl),map_none _ _ (fun _=>rfl),map_none _ _ (fun _=>rfl)]
  simp [Itm.rolesOf]
 ·rw [uIF n.fresh _ (Nat.le_refl _),ht _ (fun _=>rfl),map_none _ _ (fun _=>rfl),map_none _ _ (fun _=>rfl)]
  simp [Itm.freshOf]
 ·rw [uFR _ (fun _ _=>rfl),ht2,map_none _ _ (fun _=>rfl),map_none _ _ (fun _=>rfl)]
  simp [Itm.tagsOf]
 ·rw [uFR _ (fun _ _=>rfl),ht _ (fun _=>rfl),uHj _ _ Sp.el (fun _=>rfl),map_none _ _ (fun _=>rfl)]
  simp [Itm.stepsOf]
 ·rw [uFR _ (fun _ _=>rfl),ht _ (fun _=>rfl),map_none _ _ (fun _=>rfl),uHj _ _ Gl.el (fun _=>rfl)]
  simp [Itm.goalsOf]
theorem uMm {n : Nar} {L : List Itm} (h1 : L.flatMap Itm.rolesOf=n.roles) (h2 : L.flatMap Itm.freshOf=n.fresh) (h3 : L.flatMap Itm.tagsOf=n.tags) (h4 : L.flatMap Itm.stepsOf=n.steps.map Sp.el) (h5 : L.flatMap Itm.goalsOf=n.goals.map Gl.el) :
  L.foldl addI { nar0 with name:=n.name } = n.el:=by
 rw [uJA,h1,h2,h3,h4,h5]; rfl
theorem uHR {n : Nar} (h : uAH n.name=true) : Toks true (uDc n) [nmT uC4,nmT n.name,syT 123] :=
 (((Toks.name (w:=uC4) (by decide)).app Toks.sp (.inr (frS (by decide)))).app ((Toks.name h).app (Toks.sp.app (Toks.sym (c:=123) (by decide)) (.inl rfl)) (.inr (frS (by decide)))) (.inl rfl) :
  Toks true ((uC4++[32])++(n.name++([32]++[123]))) (([nmT uC4]++[])++([nmT n.name]++([]++[syT 123]))))
theorem uL9 : ∀ {L : List Itm},(∀ i ∈ L,i.ok)→Toks true (nl (L.map Itm.text)) (L.map Itm.tk).flatten
 | [],_=>Toks.nil
 | i :: L,h=>by
  have e : nl ((i :: L).map Itm.text)=i.text++([10]++nl (L.map Itm.text)):=by simp [nl]
  have e2 : ((i :: L).map Itm.tk).flatten=i.tk++([]++(L.map Itm.tk).flatten):=by simp
  rw [e,e2]
  exact (uIW (h i (by simp))).app (Toks.nl.app (uL9 fun j hj=>h j (by simp [hj])) (.inl rfl)) (.inl rfl)
theorem uMF {n : Nar} (h : NarOk n) : Toks true n.text (uCY n.name n.itms):=by
 have e : n.text=uDc n++([10]++(nl (n.itms.map Itm.text)++([125]++[10]))):=by
  rw [n.text_eq]
  unfold Nar.lines
  rw [uCP,uCP]
  simp [nl]
 have e2 : uCY n.name n.itms=[nmT uC4,nmT n.name,syT 123]++([]++((n.itms.map Itm.tk).flatten++([syT 125]++[]))):=by simp [uCY]
 rw [e,e2]
 exact (uHR h.name).app (Toks.nl.app ((uL9 h.itm_ok).app ((Toks.sym (c:=125) (by decide)).app Toks.nl (.inl rfl)) (.inl rfl)) (.inl rfl)) (.inl rfl)
theorem uIt {n : Nar} (h : narE uAH n=0) {L : List Itm} (ho : ∀ i ∈ L,i.ok) (hL : L.foldl addI { nar0 with name:=n.name } = n.el) {l : List Tk} (hs : l.map (·.nl false)=uCY n.name L) : (uBL l).1.el=n.el∧endE l (uBL l).2=(0,0)∧narE uAH (uBL l).1=0:=by
 have hp : Pln (uCY n.name L):=(Pln.nm _).cons ((Pln.nm _).cons ((Pln.sy _).cons ((uF2 L).app (Pln.sy _))))
 have hn : (uCY n.name L).map (·.nl false)=uCY n.name L:=by
  rw [List.map_congr_left (g:=id),List.map_id]
  intro t ht
  obtain ⟨q1,q2,q3⟩:=hp t ht
  cases t
  simp only at q3
  subst q3
  rfl
 have hsm : SmT l (uCY n.name L):=SmT.of_nl (by rw [hs,hn])
 obtain ⟨r1,r2⟩:=uN8 hsm
 obtain ⟨r3,r4⟩:=uN6 (nm:=n.name) ho
 rw [r3,hL] at r1
 have hel : n.el.el=n.el:=by
  simp [Nar.el,Sp.el,Gl.el,Function.comp_def]
 rw [hel] at r1
 refine ⟨r1,?_,?_⟩
 ·have e:=uO9 hsm (uBL l).2
  rw [r2,r4] at e
  rw [r2]
  exact e.2 e.1
 ·rw [← uMf,r1,uMf]; exact h
theorem uMX {n : Nar} (h : narE uAH n=0) : (tokP n.text).2=(0,0)∧(uBL (tokP n.text).1).1.el=n.el∧endE (tokP n.text).1 (uBL (tokP n.text).1).2=(0,0)∧narE uAH (uBL (tokP n.text).1).1=0:=by
 have hok:=uEp h
 obtain ⟨t1,t2⟩ := (uMF hok).end' (by have := hok.text_len; omega)
 obtain ⟨i1,i2,i3,i4,i5⟩:=uMj n
 exact ⟨t1,uIt h hok.itm_ok (uMm i1 i2 i3 i4 i5) t2⟩
end Go.Proofs.YtnjjdbapadkomaaGreatDoor
