/- Our abstract program logic and contracts of this seat's functions, part 6: no statement of its own (long names of ours are shortened by a program). -/
import Derived.Test.YteidahabkfgfjaaGreatM5
import Derived.SizedLaws
import Derived.Test.YteidahabkfgfjaaGreatChecked
import Derived.Handed
import Derived.Test.YteidahabkfgfjaaGreatRows
import Derived.Deep.DeepHandedRow
import Derived.Stop.Joined
set_option linter.unusedVariables false
set_option linter.unusedSimpArgs false
namespace Go.Proofs.YteidahabkfgfjaaGreat
open Go Go.Abs
def lkI (R : List (List UInt8)) (t : T) : Int:=match uBo R t with
 | none=>-1
 | some k=>(k : Int)
theorem uCo {t : T} (h3 : t.kind=3) (w : List UInt8) (k : Int) : isT t w k=true ↔ t.name=w∧(t.kids.length : Int)=k:=by simp [isT,h3]
theorem uJl {R : List (List UInt8)} {t : T} : shkT R t=true ↔ ((isT t wShk 2=true∧uFf R (kid t 0)=true)∧uFf R (kid t 1)=true) ∧ ¬ (kid t 0).name=(kid t 1).name:=by simp [shkT]
theorem uJT (n : Nar) (t : T) (h3 : t.kind=3) : Ctr sys 120 [xn n,xm t] [] (xi (lkI n.roles t)) none []:=by
 have hr:=T.rows_len t.kids
 refine uAA Tryz.func120 rfl rfl rfl rfl rfl rfl ?_;refine uAe (uAb ?_);refine uAt rfl (uAI rfl rfl rfl rfl) ?_;refine uAt rfl (uAI rfl rfl rfl rfl) ?_;refine uAa rfl rfl rfl (uAc rfl gU) ?_;refine uAf ?_;refine uAe (uAb ?_);refine uAa rfl rfl rfl (uAg rfl gU rfl rfl) ?_;refine uAa rfl rfl rfl (uAj rfl gU rfl rfl rfl rfl) ?_;refine uAN rfl rfl rfl rfl rfl gU rfl rfl ?_ (fun hh=>by simp at hh); intro hlen;refine uAa rfl rfl rfl (uAc rfl gU) ?_;refine uAf ?_;refine uAl (s:=⟨[(2,_,_),(3,_,_),(5,_,_)],[(.l 2,_),(.l 3,_)],[],[]⟩) (uAi (⟨sx rfl,sx rfl,sx rfl,trivial⟩) (⟨sx rfl,sx rfl,trivial⟩) trivial) ?_;refine uAe ?_;refine uAw ?_;refine uAe (uAb ?_);refine uAa rfl rfl rfl (uAg rfl gU rfl rfl) ?_;refine uAa rfl rfl rfl (uAj rfl gU rfl rfl rfl rfl) ?_;refine uAa rfl rfl rfl (uA3 rfl rfl gU gU rfl) ?_;refine uAa rfl rfl rfl (uAd rfl gU) ?_;refine uAa rfl rfl rfl (uAd rfl gU) ?_;refine uAa rfl rfl rfl (uAk rfl rfl (fun hh=>hh) gU rfl) ?_;refine uAa rfl rfl rfl (uAH rfl rfl gU (fun _ hi=>gP rfl hi)) ?_;refine uAa rfl rfl rfl (uAd rfl gU) ?_;refine uAa rfl rfl rfl (uAg rfl gU rfl rfl) ?_;refine uAa rfl rfl rfl (uAj rfl (fun hh=>hh) rfl rfl rfl rfl) ?_;refine uAa rfl rfl rfl (uA3 rfl rfl (fun hh=>hh) gU rfl) ?_
 refine uAa rfl rfl rfl (uAd rfl (fun hh=>hh)) ?_;refine uA7 (s:=⟨[(2,_,_),(3,_,_),(5,_,_),(17,_,_),(21,_,_)],[(.l 2,_),(.l 3,_)],[],[]⟩) (uAi (⟨sx rfl,sx rfl,sx rfl,sx rfl,sx rfl,trivial⟩) (⟨sx rfl,sx rfl,trivial⟩) trivial) ?_;refine uAa rfl rfl rfl (uAd rfl gU) ?_;refine uAa rfl rfl rfl (uAk rfl rfl (fun hh=>hh) gU rfl) ?_;refine uAa rfl rfl rfl (uAH rfl rfl (fun hh=>hh) (fun hh hi=>gP hh hi)) ?_;refine uAa rfl rfl rfl (uAM rfl rfl gU (fun _ hi=>gP rfl hi)) ?_;refine uAa rfl rfl rfl (uAc rfl gU) ?_;refine uAf ?_;refine uAl (s:=⟨[(2,_,_),(3,_,_),(5,_,_),(9,_,_)],[(.l 2,_),(.l 3,_)],[],[]⟩) (uAi (⟨sx rfl,sx rfl,sx rfl,sx rfl,trivial⟩) (⟨sx rfl,sx rfl,trivial⟩) trivial) ?_;refine uAn rfl (fun hc=>?_) (fun hc=>?_)
 ·try simp only [nn,uAh,uAB,T.rows_len,Gl.rows_len,Fs.rows_len,Sp.rows_len] at hc
  have h1 : isT t uFP 2=true∨isT t wEnc 2=true:=by rw [uCo h3,uCo h3]; first | exact hc | (rw [hr] at hc; exact hc) | omega
  have hk : uBo n.roles t=some 2:=by rw [uBo,if_pos h1]
  refine uAe (uAb ?_);refine uAa rfl rfl rfl (uAc rfl gU) ?_;refine uAf ?_;refine uAo ?_
  repeat (first | refine tR ?_ | refine bR ?_)
  refine uAs rfl ?_ trivial
  (rw [lkI,hk]; rfl)
 ·try simp only [nn,uAh,uAB,T.rows_len,Gl.rows_len,Fs.rows_len,Sp.rows_len] at hc
  have h1 : ¬(isT t uFP 2=true∨isT t wEnc 2=true):=by rw [uCo h3,uCo h3]; exact fun q=>q.elim (fun q=>hc.1.elim (fun z=>z q.1) fun z=>z q.2) (fun q=>hc.2.elim (fun z=>z q.1) fun z=>z q.2)
  refine uAe (uAb ?_);refine uAa rfl rfl rfl (uAg rfl gU rfl rfl) ?_;refine uAa rfl rfl rfl (uAj rfl gU rfl rfl rfl rfl) ?_;refine uAa rfl rfl rfl (uA3 rfl rfl gU gU rfl) ?_;refine uAa rfl rfl rfl (uAd rfl gU) ?_;refine uAa rfl rfl rfl (uAd rfl gU) ?_;refine uAa rfl rfl rfl (uAk rfl rfl (fun hh=>hh) gU rfl) ?_;refine uAa rfl rfl rfl (uAH rfl rfl gU (fun _ hi=>gP rfl hi)) ?_;refine uAa rfl rfl rfl (uAc rfl gU) ?_;refine uAf ?_;refine uAl (s:=⟨[(2,_,_),(3,_,_),(5,_,_),(26,_,_)],[(.l 2,_),(.l 3,_)],[],[]⟩) (uAi (⟨sx rfl,sx rfl,sx rfl,sx rfl,trivial⟩) (⟨sx rfl,sx rfl,trivial⟩) trivial) ?_;refine uAn rfl (fun hc2=>?_) (fun hc2=>?_)
  ·try simp only [nn,uAh,uAB,T.rows_len,Gl.rows_len,Fs.rows_len,Sp.rows_len] at hc2
   have h2 : isT t uJv 1=true:=by rw [uCo h3]; first | exact hc2 | (rw [hr] at hc2; exact hc2) | omega
   have hk : uBo n.roles t=some 1:=by rw [uBo,if_neg h1,if_pos h2]
   refine uAe (uAb ?_);refine uAa rfl rfl rfl (uAc rfl gU) ?_;refine uAf ?_;refine uAo ?_
   repeat (first | refine tR ?_ | refine bR ?_)
   refine uAs rfl ?_ trivial
   (rw [lkI,hk]; rfl)
  ·try simp only [nn,uAh,uAB,T.rows_len,Gl.rows_len,Fs.rows_len,Sp.rows_len] at hc2
   have h2 : ¬ isT t uJv 1=true:=by rw [uCo h3]; exact fun q=>hc2.elim (fun z=>z q.1) fun z=>z q.2
   refine uAe ?_;refine awp_drawn' (by kernel_rfl) ?_;refine uAq rfl rfl rfl rfl (uAg rfl gU rfl rfl) ?_;refine uBj rfl rfl rfl rfl rfl rfl rfl gU rfl rfl rfl rfl ?_;refine uAq rfl rfl rfl rfl (uA3 rfl rfl gU gU rfl) ?_;refine uAq rfl rfl rfl rfl (uAd rfl gU) ?_;refine uAq rfl rfl rfl rfl (uAd rfl gU) ?_;refine uAq rfl rfl rfl rfl (uAk rfl rfl (fun hh=>hh) gU rfl) ?_;refine uAq rfl rfl rfl rfl (uAH rfl rfl gU (fun _ hi=>gP rfl hi)) ?_;refine uAq rfl rfl rfl rfl (uAd rfl gU) ?_;refine uAD rfl rfl rfl rfl rfl rfl rfl gU rfl rfl rfl rfl rfl ?_;refine uAq rfl rfl rfl rfl (uAg rfl gU rfl rfl) ?_;refine uBj rfl rfl rfl rfl rfl rfl rfl (fun hh=>hh) rfl rfl rfl rfl ?_;refine uAq rfl rfl rfl rfl (uAu (j:=1) rfl rfl (fun hh=>hh) gU rfl rfl (by first | omega | (simp at hh ⊢; omega) | (simp [isT] at hh ⊢; omega)) (fun hh=>T.rows_at (by first | omega | (simp at hh ⊢; omega) | (simp [isT] at hh ⊢; omega)))) ?_;refine uAq rfl rfl rfl rfl (uAE rfl (fun hh=>hh) rfl rfl rfl rfl) ?_;refine uAS rfl rfl rfl rfl rfl rfl rfl gU (fun hh=>gA ((fun hh=>hh) hh) (gA ((fun hh=>hh) hh) (rfl))) (uHn _ _) rfl ?_;refine uAq rfl rfl rfl rfl (uAH rfl rfl gU (fun _ hi=>gP rfl hi)) ?_;refine uAq rfl rfl rfl rfl (uAc rfl gU) ?_;refine uA1 (by kernel_rfl) ?_;refine uAl (s:=⟨[(2,_,_),(3,_,_),(5,_,_),(34,_,_)],[(.l 2,_),(.l 3,_)],[],[]⟩) (uAi (⟨sx rfl,sx rfl,sx rfl,sx rfl,trivial⟩) (⟨sx rfl,sx rfl,trivial⟩) trivial) ?_
   refine uAn rfl (fun hc3=>?_) (fun hc3=>?_)
   ·try simp only [nn,uAh,uAB,T.rows_len,Gl.rows_len,Fs.rows_len,Sp.rows_len] at hc3
    have a1 : isT t uG0 2=true∧pubT n.roles (kid t 1)=true:=by rw [uCo h3]; first | exact hc3 | (rw [hr] at hc3; exact hc3) | omega
    have hk : uBo n.roles t=some 1:=by rw [uBo,if_neg h1,if_neg h2,if_pos (.inl a1)]
    refine uAe (uAb ?_);refine uAa rfl rfl rfl (uAc rfl gU) ?_;refine uAf ?_;refine uAo ?_
    repeat (first | refine tR ?_ | refine bR ?_)
    refine uAs rfl ?_ trivial
    (rw [lkI,hk]; rfl)
   ·try simp only [nn,uAh,uAB,T.rows_len,Gl.rows_len,Fs.rows_len,Sp.rows_len] at hc3
    have a1 : ¬(isT t uG0 2=true∧pubT n.roles (kid t 1)=true):=by rw [uCo h3]; exact fun q=>hc3.elim (fun z=>z.elim (fun z=>z q.1.1) fun z=>z q.1.2) fun z=>Bool.noConfusion (q.2.symm.trans z)
    refine uAe ?_;refine awp_drawn' (by kernel_rfl) ?_;refine uAq rfl rfl rfl rfl (uAg rfl gU rfl rfl) ?_;refine uBj rfl rfl rfl rfl rfl rfl rfl gU rfl rfl rfl rfl ?_;refine uAq rfl rfl rfl rfl (uA3 rfl rfl gU gU rfl) ?_;refine uAq rfl rfl rfl rfl (uAd rfl gU) ?_;refine uAq rfl rfl rfl rfl (uAd rfl gU) ?_;refine uAq rfl rfl rfl rfl (uAk rfl rfl (fun hh=>hh) gU rfl) ?_;refine uAq rfl rfl rfl rfl (uAH rfl rfl gU (fun _ hi=>gP rfl hi)) ?_;refine uAq rfl rfl rfl rfl (uAd rfl gU) ?_;refine uAD rfl rfl rfl rfl rfl rfl rfl gU rfl rfl rfl rfl rfl ?_;refine uAq rfl rfl rfl rfl (uAg rfl gU rfl rfl) ?_;refine uBj rfl rfl rfl rfl rfl rfl rfl (fun hh=>hh) rfl rfl rfl rfl ?_;refine uAq rfl rfl rfl rfl (uAu (j:=1) rfl rfl (fun hh=>hh) gU rfl rfl (by first | omega | (simp at hh ⊢; omega) | (simp [isT] at hh ⊢; omega)) (fun hh=>T.rows_at (by first | omega | (simp at hh ⊢; omega) | (simp [isT] at hh ⊢; omega)))) ?_;refine uAq rfl rfl rfl rfl (uAE rfl (fun hh=>hh) rfl rfl rfl rfl) ?_;refine uAS rfl rfl rfl rfl rfl rfl rfl gU (fun hh=>gA ((fun hh=>hh) hh) (gA ((fun hh=>hh) hh) (rfl))) (uGA _ _) rfl ?_;refine uAq rfl rfl rfl rfl (uAH rfl rfl gU (fun _ hi=>gP rfl hi)) ?_;refine uAq rfl rfl rfl rfl (uAc rfl gU) ?_;refine uA1 (by kernel_rfl) ?_;refine uAl (s:=⟨[(2,_,_),(3,_,_),(5,_,_),(50,_,_)],[(.l 2,_),(.l 3,_)],[],[]⟩) (uAi (⟨sx rfl,sx rfl,sx rfl,sx rfl,trivial⟩) (⟨sx rfl,sx rfl,trivial⟩) trivial) ?_
    refine uAn rfl (fun hc4=>?_) (fun hc4=>?_)
    ·try simp only [nn,uAh,uAB,T.rows_len,Gl.rows_len,Fs.rows_len,Sp.rows_len] at hc4
     have a2 : isT t uGt 2=true∧uEi n.roles (kid t 1)=true:=by rw [uCo h3]; first | exact hc4 | (rw [hr] at hc4; exact hc4) | omega
     have hk : uBo n.roles t=some 1:=by rw [uBo,if_neg h1,if_neg h2,if_pos (.inr a2)]
     refine uAe (uAb ?_);refine uAa rfl rfl rfl (uAc rfl gU) ?_;refine uAf ?_;refine uAo ?_
     repeat (first | refine tR ?_ | refine bR ?_)
     refine uAs rfl ?_ trivial
     (rw [lkI,hk]; rfl)
    ·try simp only [nn,uAh,uAB,T.rows_len,Gl.rows_len,Fs.rows_len,Sp.rows_len] at hc4
     have a2 : ¬(isT t uGt 2=true∧uEi n.roles (kid t 1)=true):=by rw [uCo h3]; exact fun q=>hc4.elim (fun z=>z.elim (fun z=>z q.1.1) fun z=>z q.1.2) fun z=>Bool.noConfusion (q.2.symm.trans z)
     have a3 : ¬((isT t uG0 2=true∧pubT n.roles (kid t 1)=true)∨(isT t uGt 2=true∧uEi n.roles (kid t 1)=true)):=fun q=>q.elim a1 a2
     refine uAe (uAb ?_);refine uAa rfl rfl rfl (uAm rfl gU rfl rfl rfl rfl rfl) ?_;refine uAa rfl rfl rfl (uAm rfl gU rfl rfl rfl rfl rfl) ?_;refine uAx rfl rfl rfl rfl rfl rfl gU gU (uHn _ _) rfl ?_;refine uAa rfl rfl rfl (uAc rfl gU) ?_;refine uAf ?_;refine uAn rfl (fun hc5=>?_) (fun hc5=>?_)
     ·try simp only [nn,uAh,uAB,T.rows_len,Gl.rows_len,Fs.rows_len,Sp.rows_len] at hc5
      have hk : uBo n.roles t=some 0:=by rw [uBo,if_neg h1,if_neg h2,if_neg a3,if_pos (.inl hc5)]
      refine uAe (uAb ?_);refine uAa rfl rfl rfl (uAc rfl gU) ?_;refine uAf ?_;refine uAo ?_
      repeat (first | refine tR ?_ | refine bR ?_)
      refine uAs rfl ?_ trivial
      (rw [lkI,hk]; rfl)
     ·try simp only [nn,uAh,uAB,T.rows_len,Gl.rows_len,Fs.rows_len,Sp.rows_len] at hc5
      have a4 : ¬ pubT n.roles t=true:=by rw [Bool.not_eq_true]; exact hc5
      refine uAe ?_;refine awp_drawn' (by kernel_rfl) ?_;refine uAq rfl rfl rfl rfl (uAg rfl gU rfl rfl) ?_;refine uBj rfl rfl rfl rfl rfl rfl rfl gU rfl rfl rfl rfl ?_;refine uAq rfl rfl rfl rfl (uA3 rfl rfl gU gU rfl) ?_;refine uAq rfl rfl rfl rfl (uAd rfl gU) ?_;refine uAq rfl rfl rfl rfl (uAd rfl gU) ?_;refine uAq rfl rfl rfl rfl (uAk rfl rfl (fun hh=>hh) gU rfl) ?_;refine uAq rfl rfl rfl rfl (uAH rfl rfl gU (fun _ hi=>gP rfl hi)) ?_;refine uAq rfl rfl rfl rfl (uAd rfl gU) ?_;refine uAD rfl rfl rfl rfl rfl rfl rfl gU rfl rfl rfl rfl rfl ?_;refine uAq rfl rfl rfl rfl (uAg rfl gU rfl rfl) ?_;refine uBj rfl rfl rfl rfl rfl rfl rfl (fun hh=>hh) rfl rfl rfl rfl ?_;refine uAq rfl rfl rfl rfl (uAu (j:=0) rfl rfl (fun hh=>hh) gU rfl rfl (by first | omega | (simp at hh ⊢; omega) | (simp [isT] at hh ⊢; omega)) (fun hh=>T.rows_at (by first | omega | (simp at hh ⊢; omega) | (simp [isT] at hh ⊢; omega)))) ?_;refine uAq rfl rfl rfl rfl (uAE rfl (fun hh=>hh) rfl rfl rfl rfl) ?_;refine uAS rfl rfl rfl rfl rfl rfl rfl gU (fun hh=>gA ((fun hh=>hh) hh) (gA ((fun hh=>hh) hh) (rfl))) (uE2 _ _) rfl ?_;refine uAq rfl rfl rfl rfl (uAH rfl rfl gU (fun _ hi=>gP rfl hi)) ?_;refine uAq rfl rfl rfl rfl (uAd rfl gU) ?_;refine uAD rfl rfl rfl rfl rfl rfl rfl gU rfl rfl rfl rfl rfl ?_;refine uAq rfl rfl rfl rfl (uAg rfl gU rfl rfl) ?_
      refine uBj rfl rfl rfl rfl rfl rfl rfl (fun hh=>hh) rfl rfl rfl rfl ?_;refine uAq rfl rfl rfl rfl (uAu (j:=1) rfl rfl (fun hh=>hh) gU rfl rfl (by first | omega | (simp at hh ⊢; omega) | (simp [isT] at hh ⊢; omega)) (fun hh=>T.rows_at (by first | omega | (simp at hh ⊢; omega) | (simp [isT] at hh ⊢; omega)))) ?_;refine uAq rfl rfl rfl rfl (uAE rfl (fun hh=>hh) rfl rfl rfl rfl) ?_;refine uAS rfl rfl rfl rfl rfl rfl rfl gU (fun hh=>gA ((fun hh=>hh) hh) (gA ((fun hh=>hh) hh) (rfl))) (uE2 _ _) rfl ?_;refine uAq rfl rfl rfl rfl (uAH rfl rfl gU (fun _ hi=>gP rfl hi)) ?_;refine uAq rfl rfl rfl rfl (uAd rfl gU) ?_;refine uAq rfl rfl rfl rfl (uAg rfl gU rfl rfl) ?_;refine uBj rfl rfl rfl rfl rfl rfl rfl (fun hh=>hh) rfl rfl rfl rfl ?_;refine uAq rfl rfl rfl rfl (uAu (j:=0) rfl rfl (fun hh=>hh) gU rfl rfl (by first | omega | (simp at hh ⊢; omega) | (simp [isT] at hh ⊢; omega)) (fun hh=>T.rows_at (by first | omega | (simp at hh ⊢; omega) | (simp [isT] at hh ⊢; omega)))) ?_;refine uAq rfl rfl rfl rfl (uA2 rfl (fun hh=>hh) rfl rfl) ?_;refine uAq rfl rfl rfl rfl (uAQ rfl (fun hh=>hh) rfl rfl rfl) ?_;refine uAq rfl rfl rfl rfl (uAg rfl gU rfl rfl) ?_;refine uBj rfl rfl rfl rfl rfl rfl rfl (fun hh=>hh) rfl rfl rfl rfl ?_;refine uAq rfl rfl rfl rfl (uAu (j:=1) rfl rfl (fun hh=>hh) gU rfl rfl (by first | omega | (simp at hh ⊢; omega) | (simp [isT] at hh ⊢; omega)) (fun hh=>T.rows_at (by first | omega | (simp at hh ⊢; omega) | (simp [isT] at hh ⊢; omega)))) ?_
      refine uAq rfl rfl rfl rfl (uA2 rfl (fun hh=>hh) rfl rfl) ?_;refine uAq rfl rfl rfl rfl (uAQ rfl (fun hh=>hh) rfl rfl rfl) ?_;refine uAq rfl rfl rfl rfl (uA3 rfl rfl (fun hh=>hh) (fun hh=>hh) rfl) ?_;refine uAq rfl rfl rfl rfl (uAH rfl rfl gU (fun _ hi=>gP rfl hi)) ?_;refine uAq rfl rfl rfl rfl (uAc rfl gU) ?_;refine uA1 (by kernel_rfl) ?_;refine uAl (s:=⟨[(70,_,_)],[],[],[]⟩) (uAi (⟨sx rfl,trivial⟩) trivial trivial) ?_;refine uAn rfl (fun hc6=>?_) (fun hc6=>?_)
      ·try simp only [nn,uAh,uAB,T.rows_len,Gl.rows_len,Fs.rows_len,Sp.rows_len] at hc6
       have a5 : shkT n.roles t=true:=by rw [uJl,uCo h3]; exact ⟨⟨⟨hc6.1.1.1,hc6.1.1.2⟩,hc6.1.2⟩,hc6.2⟩
       have hk : uBo n.roles t=some 0:=by rw [uBo,if_neg h1,if_neg h2,if_neg a3,if_pos (.inr a5)]
       refine uAe (uAb ?_);refine uAa rfl rfl rfl (uAc rfl gU) ?_;refine uAf ?_;refine uAo ?_
       repeat (first | refine tR ?_ | refine bR ?_)
       refine uAs rfl ?_ trivial
       (rw [lkI,hk]; rfl)
      ·try simp only [nn,uAh,uAB,T.rows_len,Gl.rows_len,Fs.rows_len,Sp.rows_len] at hc6
       have a5 : ¬ shkT n.roles t=true:=by rw [uJl,uCo h3]; exact fun q=>hc6.elim (fun z=>z.elim (fun z=>z.elim (fun z=>z.elim (fun z=>z q.1.1.1.1) fun z=>z q.1.1.1.2) fun z=>Bool.noConfusion (q.1.1.2.symm.trans z)) fun z=>Bool.noConfusion (q.1.2.symm.trans z)) fun z=>q.2 z
       have hk : uBo n.roles t=none:=by rw [uBo,if_neg h1,if_neg h2,if_neg a3,if_neg (fun q=>q.elim a4 a5)]
       refine uAp ?_;refine uAe (uAb ?_);refine uAa rfl rfl rfl (uAc rfl gU) ?_;refine uAf ?_;refine uAo ?_
       repeat (first | refine tR ?_ | refine bR ?_)
       refine uAs rfl ?_ trivial
       (rw [lkI,hk]; rfl)
theorem uNt {R : List (List UInt8)} {t : T} {k : Nat} (h : uBo R t=some k) : k≤t.kids.length:=by
 unfold uBo at h
 split at h
 ·rename_i q
  have : 2=k:=Option.some.inj h
  simp [isT] at q; omega
 split at h
 ·rename_i q
  have : 1=k:=Option.some.inj h
  simp [isT] at q; omega
 split at h
 ·rename_i q
  have : 1=k:=Option.some.inj h
  simp [isT] at q; omega
 split at h
 ·have : 0=k:=Option.some.inj h
  omega
 ·cases h
theorem uNr {R : List (List UInt8)} {t : T} (h : lkI R t < 0) : uBo R t=none:=by
 unfold lkI at h
 split at h
 ·assumption
 ·omega
theorem uNG {R : List (List UInt8)} {t : T} (h : ¬ lkI R t < 0) : ∃ k,uBo R t=some k∧lkI R t=(k : Int):=by
 unfold lkI at h ⊢
 split at h
 ·omega
 ·rename_i k hk; exact ⟨k,hk,rfl⟩
theorem uJL {α : Type} {l : List α} {d : α} {k j : Nat} (h : j < k) : (l.take k).getD j d=l.getD j d:=by
 simp only [List.getD_eq_getElem?_getD,List.getElem?_take_of_lt h]
theorem uDQ (n : Nar) (h1 : n.roles.length≤900000) (h2 : n.fresh.length≤900000) (h4 : n.tags.length≤900000) : ∀ (m : Nat) (t : T),t.size≤m→m≤900000→Ctr sys 87 [xn n,xm t] [] (xi (uCi n.roles (uBa n) t)) none []:=by
 intro m
 induction m with
 | zero=>intro t h; have := t.size_pos; omega
 | succ m ih =>
  intro t ht hm
  have hr:=T.rows_len t.kids
  have hls:=T.len_sizes t.kids
  have hse:=t.size_eq
  refine uAA Tryz.func87 rfl rfl rfl rfl rfl rfl ?_;refine uAe (uAb ?_);refine uAt rfl (uAI rfl rfl rfl rfl) ?_;refine uAt rfl (uAI rfl rfl rfl rfl) ?_;refine uAa rfl rfl rfl (uAc rfl gU) ?_;refine uAf ?_;refine uAe ?_;refine uAe (uAb ?_);refine uAa rfl rfl rfl (uAg rfl gU rfl rfl) ?_;refine uAa rfl rfl rfl (uAj rfl gU rfl rfl rfl rfl) ?_;refine uAa rfl rfl rfl (uAk rfl rfl gU gU rfl) ?_;refine uAf ?_;refine uAl (s:=⟨[(2,_,_),(3,_,_),(12,_,_)],[(.l 2,_),(.l 3,_)],[],[]⟩) (uAi (⟨sx rfl,sx rfl,sx rfl,trivial⟩) (⟨sx rfl,sx rfl,trivial⟩) trivial) ?_;refine uAn rfl (fun hc=>?_) (fun hc=>?_)
  ·try simp only [nn,uAh,uAB,T.rows_len,Gl.rows_len,Fs.rows_len,Sp.rows_len] at hc
   refine uAe (uAb ?_);refine uAa rfl rfl rfl (uAm rfl gU rfl rfl rfl rfl rfl) ?_;refine uAx rfl rfl rfl rfl rfl rfl gU gU (uEf n h1 h2 h4) rfl ?_;refine uAa rfl rfl rfl (uAd rfl gU) ?_;refine uAa rfl rfl rfl (uAr rfl gU rfl) ?_;refine uAa rfl rfl rfl (uAr rfl gU rfl) ?_;refine uAa rfl rfl rfl (uAc rfl gU) ?_;refine uAa rfl rfl rfl (uAc rfl gU) ?_;refine uAf ?_;refine uAl (s:=⟨[(3,_,_),(5,_,_)],[(.l 3,_)],[],[]⟩) (uAi (⟨sx rfl,sx rfl,trivial⟩) (⟨sx rfl,trivial⟩) trivial) ?_;refine uAe ?_;refine uAe (uAb ?_);refine uAa rfl rfl rfl (uAd rfl gU) ?_;refine uAa rfl rfl rfl (uAg rfl gU rfl rfl) ?_;refine uAa rfl rfl rfl (uAj rfl gU rfl rfl rfl rfl) ?_;refine uAx rfl rfl rfl rfl rfl rfl gU gU (uCm _ _) rfl ?_;refine uAa rfl rfl rfl (uAk rfl rfl gU gU rfl) ?_;refine uAf ?_;refine uAl (s:=⟨[(22,_,_)],[],[],[]⟩) (uAi (⟨sx rfl,trivial⟩) trivial trivial) ?_;refine uAn rfl (fun hc2=>?_) (fun hc2=>?_)
   ·try simp only [nn,uAh,uAB,T.rows_len,Gl.rows_len,Fs.rows_len,Sp.rows_len] at hc2
    have hx:=(uCy _ _).1 hc2
    refine uAe (uAb ?_);refine uAa rfl rfl rfl (uAc rfl gU) ?_;refine uAf ?_;refine uAo ?_
    repeat (first | refine tR ?_ | refine bR ?_)
    refine uAs rfl ?_ trivial
    (rw [uCW,if_pos hc,if_neg (by rw [hx]; simp)]; rfl)
   ·try simp only [nn,uAh,uAB,T.rows_len,Gl.rows_len,Fs.rows_len,Sp.rows_len] at hc2
    have hx:=(uDW (uBa n) t.name).1 (by omega)
    refine uAp ?_;refine uAe (uAb ?_);refine uAa rfl rfl rfl (uAc rfl gU) ?_;refine uAf ?_;refine uAo ?_
    repeat (first | refine tR ?_ | refine bR ?_)
    refine uAs rfl ?_ trivial
    (rw [uCW,if_pos hc,if_pos hx]; rfl)
  ·try simp only [nn,uAh,uAB,T.rows_len,Gl.rows_len,Fs.rows_len,Sp.rows_len] at hc
   have h3 : t.kind=3:=by omega
   refine uAp ?_;refine uAe (uAb ?_);refine uAa rfl rfl rfl (uAm rfl gU rfl rfl rfl rfl rfl) ?_;refine uAa rfl rfl rfl (uAm rfl gU rfl rfl rfl rfl rfl) ?_;refine uAx rfl rfl rfl rfl rfl rfl gU gU (uJT n t h3) rfl ?_;refine uAa rfl rfl rfl (uAc rfl gU) ?_;refine uAf ?_;refine uAe ?_;refine uAe (uAb ?_);refine uAa rfl rfl rfl (uAd rfl gU) ?_;refine uAa rfl rfl rfl (uAk rfl rfl gU gU rfl) ?_;refine uAf ?_;refine uAl (s:=⟨[(2,_,_),(3,_,_),(7,_,_),(27,_,_)],[(.l 2,_),(.l 3,_)],[],[]⟩) (uAi (⟨sx rfl,sx rfl,sx rfl,sx rfl,trivial⟩) (⟨sx rfl,sx rfl,trivial⟩) trivial) ?_;refine uAn rfl (fun hc2=>?_) (fun hc2=>?_)
   ·try simp only [nn,uAh,uAB,T.rows_len,Gl.rows_len,Fs.rows_len,Sp.rows_len] at hc2
    have hk:=uNr hc2
    refine uAe (uAb ?_);refine uAa rfl rfl rfl (uAc rfl gU) ?_;refine uAf ?_;refine uAo ?_
    repeat (first | refine tR ?_ | refine bR ?_)
    refine uAs rfl ?_ trivial
    (rw [uCW,if_neg (by omega),hk]; rfl)
   ·try simp only [nn,uAh,uAB,T.rows_len,Gl.rows_len,Fs.rows_len,Sp.rows_len] at hc2
    obtain ⟨k,hk,hk2⟩:=uNG (R:=n.roles) (t:=t) (by omega)
    have hle:=uNt hk
    rw [hk2]
    have hE : uCi n.roles (uBa n) t=errs (uCi n.roles (uBa n)) (t.kids.take k):=by rw [uCW,if_neg (by omega),hk]
    rw [hE]
    refine uAp ?_;refine uAe ?_;refine uAe (uAb ?_);refine uAa rfl rfl rfl (uAc rfl gU) ?_;refine uAf ?_;refine uAw ?_;refine uAW (ι:=Nat) { t:=[(2,_,_),(3,_,_),(7,_,_)],bx:=[(.l 2,_),(.l 3,_)],ow:=[] } (fun j=>[(8,true,xi (j : Int))]) (fun j=>[]) (fun j=>j≤k ∧ ∀ i,i < j→uCi n.roles (uBa n) ((t.kids.take k).getD i default)=0) (fun j=>k - j) (0) (⟨by omega,fun j hj=>by omega⟩) (uAi (⟨sx rfl,sx rfl,sx rfl,sx rfl,trivial⟩) (⟨sx rfl,sx rfl,trivial⟩) trivial) ?_
    intro j hok
    dsimp only [List.cons_append,List.nil_append]
    obtain ⟨hj,hi⟩:=hok
    refine uAe ?_;refine uAe (uAb ?_);refine uAa rfl rfl rfl (uAd rfl gU) ?_;refine uAa rfl rfl rfl (uAd rfl gU) ?_;refine uAa rfl rfl rfl (uAk rfl rfl gU gU rfl) ?_;refine uAf ?_;refine uAn rfl (fun hc3=>?_) (fun hc3=>?_)
    ·try simp only [nn,uAh,uAB,T.rows_len,Gl.rows_len,Fs.rows_len,Sp.rows_len] at hc3
     have hlt : j < k:=by omega
     have hg : (t.kids.take k).getD j default=t.kids.getD j default:=uJL hlt
     have hlen : (t.kids.take k).length=k:=by rw [List.length_take]; omega
     have hks:=uCk (uCE (d:=default) (l:=t.kids) (k:=j) (by omega))
     refine uAp ?_;refine uAe ?_;refine uAw ?_;refine uAe ?_;refine awp_drawn' (by kernel_rfl) ?_;refine uAD rfl rfl rfl rfl rfl rfl rfl gU rfl rfl rfl rfl rfl ?_;refine uAq rfl rfl rfl rfl (uAg rfl gU rfl rfl) ?_;refine uBj rfl rfl rfl rfl rfl rfl rfl gU rfl rfl rfl rfl ?_;refine uAq rfl rfl rfl rfl (uAd rfl gU) ?_;refine uAq rfl rfl rfl rfl (uAu rfl rfl gU gU rfl rfl rfl (fun hh=>T.rows_at (by first | omega | (simp at hh ⊢; omega) | (simp [isT] at hh ⊢; omega)))) ?_;refine uAq rfl rfl rfl rfl (uAE rfl gU rfl rfl rfl rfl) ?_;refine uAS rfl rfl rfl rfl rfl rfl rfl gU gU (ih (t.kids.getD j default) (by omega) (by omega)) rfl ?_;refine uAq rfl rfl rfl rfl (uAc rfl gU) ?_;refine uA1 (by kernel_rfl) ?_;refine uAl (s:=⟨[(2,_,_),(3,_,_),(7,_,_),(8,_,_),(9,_,_)],[(.l 2,_),(.l 3,_)],[],[]⟩) (uAi (⟨sx rfl,sx rfl,sx rfl,sx rfl,sx rfl,trivial⟩) (⟨sx rfl,sx rfl,trivial⟩) trivial) ?_;refine uAe (uAb ?_);refine uAa rfl rfl rfl (uAd rfl gU) ?_;refine uAa rfl rfl rfl (uAk rfl rfl gU gU rfl) ?_;refine uAf ?_;refine uAn rfl (fun hc4=>?_) (fun hc4=>?_)
     ·try simp only [nn,uAh,uAB,T.rows_len,Gl.rows_len,Fs.rows_len,Sp.rows_len] at hc4
      have he:=uDI (d:=default) (by omega) hi (by rw [hg]; exact hc4)
      rw [hg] at he
      refine uAe (uAb ?_);refine uAa rfl rfl rfl (uAd rfl gU) ?_;refine uAa rfl rfl rfl (uAc rfl gU) ?_;refine uAf ?_;refine uAo ?_
      repeat (first | refine tR ?_ | refine bR ?_)
      refine uAs rfl ?_ trivial
      (rw [he]; rfl)
     ·try simp only [nn,uAh,uAB,T.rows_len,Gl.rows_len,Fs.rows_len,Sp.rows_len] at hc4
      refine uAp ?_;refine uAb ?_;refine uAa rfl rfl rfl (uAd rfl gU) ?_;refine uAa rfl rfl rfl (uAz rfl rfl gU gU rfl (IntWalk.i64_in _ (by omega))) ?_;refine uAa rfl rfl rfl (uAc rfl gU) ?_;refine uAf ?_;refine ⟨j + 1,?_,?_,uAi (⟨⟨_,rfl,?_⟩,⟨sx rfl,sx rfl,sx rfl,trivial⟩⟩) (⟨sx rfl,sx rfl,trivial⟩) trivial⟩
      all_goals (first | rfl | omega | exact ⟨by omega,uCl hi (by rw [hg]; exact hc4)⟩)
    ·try simp only [nn,uAh,uAB,T.rows_len,Gl.rows_len,Fs.rows_len,Sp.rows_len] at hc3
     have hlen : (t.kids.take k).length=k:=by rw [List.length_take]; omega
     refine uAO ?_
     repeat (first | refine uAF ?_ | refine uAG ?_ | refine uAC rfl ?_)
     refine uAe (uAb ?_);refine uAa rfl rfl rfl (uAc rfl gU) ?_;refine uAf ?_;refine uAo ?_
     repeat (first | refine tR ?_ | refine bR ?_)
     refine uAs rfl ?_ trivial
     (rw [uDf (d:=default) (fun i q=>hi i (by omega))]; rfl)
theorem uH4 (n : Nar) (s : Sp) (h1 : n.roles.length≤900000) (h2 : n.fresh.length≤900000) (h4 : n.tags.length≤900000) (hs : s.msg.size≤900000) : Ctr sys 45 [xn n,xsp s] [] (xi (uDi n s)) none []:=by
 refine uAA Tryz.func45 rfl rfl rfl rfl rfl rfl ?_;refine uAe (uAb ?_);refine uAt rfl (uAI rfl rfl rfl rfl) ?_;refine uAt rfl (uAI rfl rfl rfl rfl) ?_;refine uAa rfl rfl rfl (uAc rfl gU) ?_;refine uAf ?_;refine uAe ?_;refine uAe (uAb ?_);refine uAa rfl rfl rfl (uAg rfl gU rfl rfl) ?_;refine uAa rfl rfl rfl (uAj rfl gU rfl rfl rfl rfl) ?_;refine uAa rfl rfl rfl (uAg rfl gU rfl rfl) ?_;refine uAa rfl rfl rfl (uAj rfl gU rfl rfl rfl rfl) ?_;refine uAx rfl rfl rfl rfl rfl rfl gU gU (uCm _ _) rfl ?_;refine uAa rfl rfl rfl (uAk rfl rfl gU gU rfl) ?_;refine uAa rfl rfl rfl (uAd rfl gU) ?_;refine uAa rfl rfl rfl (uAg rfl gU rfl rfl) ?_;refine uAa rfl rfl rfl (uAj rfl (fun hh=>hh) rfl rfl rfl rfl) ?_;refine uA7 (s:=⟨[(2,_,_),(3,_,_),(11,_,_),(13,_,_)],[(.l 2,_),(.l 3,_)],[],[]⟩) (uAi (⟨sx rfl,sx rfl,sx rfl,sx rfl,trivial⟩) (⟨sx rfl,sx rfl,trivial⟩) trivial) ?_;refine uAa rfl rfl rfl (uAg rfl gU rfl rfl) ?_;refine uAa rfl rfl rfl (uAj rfl (fun hh=>hh) rfl rfl rfl rfl) ?_;refine uAx rfl rfl rfl rfl rfl rfl gU (fun hh=>gA ((fun hh=>hh) hh) (gA ((fun hh=>hh) hh) (rfl))) (uCm _ _) rfl ?_;refine uAa rfl rfl rfl (uAk rfl rfl (fun hh=>hh) gU rfl) ?_;refine uAa rfl rfl rfl (uAM rfl rfl gU (fun _ hi=>gP rfl hi)) ?_
 refine uAf ?_;refine uAl (s:=⟨[(2,_,_),(3,_,_),(18,_,_)],[(.l 2,_),(.l 3,_)],[],[]⟩) (uAi (⟨sx rfl,sx rfl,sx rfl,trivial⟩) (⟨sx rfl,sx rfl,trivial⟩) trivial) ?_;refine uAn rfl (fun hc=>?_) (fun hc=>?_)
 ·try simp only [nn,uAh,uAB,T.rows_len,Gl.rows_len,Fs.rows_len,Sp.rows_len] at hc
  have h : n.roles.contains s.frm=false∨n.roles.contains s.dst=false:=by rw [← uCy,← uCy]; exact hc
  have ht : twoE n.roles s.frm s.dst=13:=by rw [twoE,if_pos h]
  refine uAe (uAb ?_);refine uAa rfl rfl rfl (uAc rfl gU) ?_;refine uAf ?_;refine uAo ?_
  repeat (first | refine tR ?_ | refine bR ?_)
  refine uAs rfl ?_ trivial
  (rw [uDi,ht]; rfl)
 ·try simp only [nn,uAh,uAB,T.rows_len,Gl.rows_len,Fs.rows_len,Sp.rows_len] at hc
  have h : ¬(n.roles.contains s.frm=false∨n.roles.contains s.dst=false):=by rw [← uCy,← uCy]; omega
  refine uAp ?_;refine uAe ?_;refine uAe (uAb ?_);refine uAa rfl rfl rfl (uAg rfl gU rfl rfl) ?_;refine uAa rfl rfl rfl (uAj rfl gU rfl rfl rfl rfl) ?_;refine uAa rfl rfl rfl (uAg rfl gU rfl rfl) ?_;refine uAa rfl rfl rfl (uAj rfl gU rfl rfl rfl rfl) ?_;refine uAa rfl rfl rfl (uA3 rfl rfl gU gU rfl) ?_;refine uAf ?_;refine uAl (s:=⟨[(2,_,_),(3,_,_),(23,_,_)],[(.l 2,_),(.l 3,_)],[],[]⟩) (uAi (⟨sx rfl,sx rfl,sx rfl,trivial⟩) (⟨sx rfl,sx rfl,trivial⟩) trivial) ?_;refine uAn rfl (fun hc2=>?_) (fun hc2=>?_)
  ·try simp only [nn,uAh,uAB,T.rows_len,Gl.rows_len,Fs.rows_len,Sp.rows_len] at hc2
   have ht : twoE n.roles s.frm s.dst=1:=by rw [twoE,if_neg h,if_pos hc2]
   refine uAe (uAb ?_);refine uAa rfl rfl rfl (uAc rfl gU) ?_;refine uAf ?_;refine uAo ?_
   repeat (first | refine tR ?_ | refine bR ?_)
   refine uAs rfl ?_ trivial
   (rw [uDi,ht]; rfl)
  ·try simp only [nn,uAh,uAB,T.rows_len,Gl.rows_len,Fs.rows_len,Sp.rows_len] at hc2
   have ht : twoE n.roles s.frm s.dst=0:=by rw [twoE,if_neg h,if_neg hc2]
   refine uAp ?_;refine uAe (uAb ?_);refine uAa rfl rfl rfl (uAm rfl gU rfl rfl rfl rfl rfl) ?_;refine uAa rfl rfl rfl (uAg rfl gU rfl rfl) ?_;refine uAa rfl rfl rfl (uAm rfl gU rfl rfl rfl rfl rfl) ?_;refine uAx rfl rfl rfl rfl rfl rfl gU gU (uDQ n h1 h2 h4 _ _ (Nat.le_refl _) hs) rfl ?_;refine uAa rfl rfl rfl (uAc rfl gU) ?_;refine uAf ?_;refine uAo ?_
   repeat (first | refine tR ?_ | refine bR ?_)
   refine uAs rfl ?_ trivial
   (rw [uDi,ht]; rfl)
theorem uHV (n : Nar) (g : Gl) (h1 : n.roles.length≤900000) (h2 : n.fresh.length≤900000) (h4 : n.tags.length≤900000) (hg : T.sizes g.data≤900000) : Ctr sys 46 [xn n,xg g] [] (xi (uCx n g)) none []:=by
 have hr:=T.rows_len g.data
 have hls:=T.len_sizes g.data
 refine uAA Tryz.func46 rfl rfl rfl rfl rfl rfl ?_;refine uAe (uAb ?_);refine uAt rfl (uAI rfl rfl rfl rfl) ?_;refine uAt rfl (uAI rfl rfl rfl rfl) ?_;refine uAa rfl rfl rfl (uAc rfl gU) ?_;refine uAf ?_;refine uAe ?_;refine uAe (uAb ?_);refine uAa rfl rfl rfl (uAg rfl gU rfl rfl) ?_;refine uAa rfl rfl rfl (uAj rfl gU rfl rfl rfl rfl) ?_;refine uAa rfl rfl rfl (uAg rfl gU rfl rfl) ?_;refine uAa rfl rfl rfl (uAj rfl gU rfl rfl rfl rfl) ?_;refine uAx rfl rfl rfl rfl rfl rfl gU gU (uCm _ _) rfl ?_;refine uAa rfl rfl rfl (uAk rfl rfl gU gU rfl) ?_;refine uAf ?_;refine uAl (s:=⟨[(2,_,_),(3,_,_),(12,_,_)],[(.l 2,_),(.l 3,_)],[],[]⟩) (uAi (⟨sx rfl,sx rfl,sx rfl,trivial⟩) (⟨sx rfl,sx rfl,trivial⟩) trivial) ?_;refine uAn rfl (fun hc=>?_) (fun hc=>?_)
 ·try simp only [nn,uAh,uAB,T.rows_len,Gl.rows_len,Fs.rows_len,Sp.rows_len] at hc
  have h:=(uCy _ _).1 hc
  refine uAe (uAb ?_);refine uAa rfl rfl rfl (uAc rfl gU) ?_;refine uAf ?_;refine uAo ?_
  repeat (first | refine tR ?_ | refine bR ?_)
  refine uAs rfl ?_ trivial
  (rw [uCx,if_pos h]; rfl)
 ·try simp only [nn,uAh,uAB,T.rows_len,Gl.rows_len,Fs.rows_len,Sp.rows_len] at hc
  have hc':=(uDW n.roles g.role).1 (by omega)
  have c1 : ¬ n.roles.contains g.role=false:=by rw [hc']; simp
  refine uAp ?_;refine uAe ?_;refine uAe (uAb ?_);refine uAa rfl rfl rfl (uAg rfl gU rfl rfl) ?_;refine uAa rfl rfl rfl (uAj rfl gU rfl rfl rfl rfl) ?_;refine uAa rfl rfl rfl (uAk rfl rfl gU gU rfl) ?_;refine uAa rfl rfl rfl (uAd rfl gU) ?_;refine uAa rfl rfl rfl (uAg rfl gU rfl rfl) ?_;refine uAa rfl rfl rfl (uAj rfl (fun hh=>hh) rfl rfl rfl rfl) ?_;refine uAa rfl rfl rfl (uAk rfl rfl (fun hh=>hh) gU rfl) ?_;refine uAa rfl rfl rfl (uAM rfl rfl gU (fun _ hi=>gP rfl hi)) ?_;refine uAf ?_;refine uAl (s:=⟨[(2,_,_),(3,_,_),(20,_,_)],[(.l 2,_),(.l 3,_)],[],[]⟩) (uAi (⟨sx rfl,sx rfl,sx rfl,trivial⟩) (⟨sx rfl,sx rfl,trivial⟩) trivial) ?_;refine uAn rfl (fun hc2=>?_) (fun hc2=>?_)
  ·try simp only [nn,uAh,uAB,T.rows_len,Gl.rows_len,Fs.rows_len,Sp.rows_len] at hc2
   have ha : uBm g.kind=true:=sagree_iff.2 hc2
   refine uAe ?_;refine uAe (uAb ?_);refine uAa rfl rfl rfl (uAg rfl gU rfl rfl) ?_;refine uAa rfl rfl rfl (uAj rfl gU rfl rfl rfl rfl) ?_;refine uAa rfl rfl rfl (uAg rfl gU rfl rfl) ?_;refine uAa rfl rfl rfl (uAj rfl gU rfl rfl rfl rfl) ?_;refine uAx rfl rfl rfl rfl rfl rfl gU gU (uCm _ _) rfl ?_;refine uAa rfl rfl rfl (uAk rfl rfl gU gU rfl) ?_;refine uAf ?_;refine uAl (s:=⟨[(2,_,_),(3,_,_),(26,_,_)],[(.l 2,_),(.l 3,_)],[],[]⟩) (uAi (⟨sx rfl,sx rfl,sx rfl,trivial⟩) (⟨sx rfl,sx rfl,trivial⟩) trivial) ?_;refine uAn rfl (fun hc3=>?_) (fun hc3=>?_)
   ·try simp only [nn,uAh,uAB,T.rows_len,Gl.rows_len,Fs.rows_len,Sp.rows_len] at hc3
    have h:=(uCy _ _).1 hc3
    have ht : twoE n.roles g.role g.wth=13:=by rw [twoE,if_pos (.inr h)]
    refine uAe (uAb ?_);refine uAa rfl rfl rfl (uAc rfl gU) ?_;refine uAf ?_;refine uAo ?_
    repeat (first | refine tR ?_ | refine bR ?_)
    refine uAs rfl ?_ trivial
    (rw [uCx,if_neg c1,if_pos ⟨ha,by rw [ht]; simp⟩,ht]; rfl)
   ·try simp only [nn,uAh,uAB,T.rows_len,Gl.rows_len,Fs.rows_len,Sp.rows_len] at hc3
    have h:=(uDW n.roles g.wth).1 (by omega)
    have hn : ¬(n.roles.contains g.role=false∨n.roles.contains g.wth=false):=by rw [hc',h]; simp
    refine uAp ?_;refine uAe (uAb ?_);refine uAa rfl rfl rfl (uAg rfl gU rfl rfl) ?_;refine uAa rfl rfl rfl (uAj rfl gU rfl rfl rfl rfl) ?_;refine uAa rfl rfl rfl (uAg rfl gU rfl rfl) ?_;refine uAa rfl rfl rfl (uAj rfl gU rfl rfl rfl rfl) ?_;refine uAa rfl rfl rfl (uA3 rfl rfl gU gU rfl) ?_;refine uAf ?_;refine uAl (s:=⟨[(2,_,_),(3,_,_),(31,_,_)],[(.l 2,_),(.l 3,_)],[],[]⟩) (uAi (⟨sx rfl,sx rfl,sx rfl,trivial⟩) (⟨sx rfl,sx rfl,trivial⟩) trivial) ?_;refine uAn rfl (fun hc4=>?_) (fun hc4=>?_)
    ·try simp only [nn,uAh,uAB,T.rows_len,Gl.rows_len,Fs.rows_len,Sp.rows_len] at hc4
     have ht : twoE n.roles g.role g.wth=1:=by rw [twoE,if_neg hn,if_pos hc4.symm]
     refine uAe (uAb ?_);refine uAa rfl rfl rfl (uAc rfl gU) ?_;refine uAf ?_;refine uAo ?_
     repeat (first | refine tR ?_ | refine bR ?_)
     refine uAs rfl ?_ trivial
     (rw [uCx,if_neg c1,if_pos ⟨ha,by rw [ht]; simp⟩,ht]; rfl)
    ·try simp only [nn,uAh,uAB,T.rows_len,Gl.rows_len,Fs.rows_len,Sp.rows_len] at hc4
     have ht : twoE n.roles g.role g.wth=0:=by rw [twoE,if_neg hn,if_neg (fun q=>hc4 q.symm)]
     have hE : uCx n g=errs (uCi n.roles (uBa n)) g.data:=by rw [uCx,if_neg c1,if_neg (fun q=>q.2 ht)]
     rw [hE]
     refine uAp ?_;refine uAe ?_;refine uAe (uAb ?_);refine uAa rfl rfl rfl (uAc rfl gU) ?_;refine uAf ?_;refine uAw ?_;refine uAW (ι:=Nat) { t:=[(2,_,_),(3,_,_)],bx:=[(.l 2,_),(.l 3,_)],ow:=[] } (fun k=>[(5,true,xi (k : Int))]) (fun k=>[]) (fun k=>k≤g.data.length ∧ ∀ j,j < k→uCi n.roles (uBa n) (g.data.getD j default)=0) (fun k=>g.data.length - k) (0) (⟨by omega,fun j hj=>by omega⟩) (uAi (⟨sx rfl,sx rfl,sx rfl,trivial⟩) (⟨sx rfl,sx rfl,trivial⟩) trivial) ?_
     intro k hoka
     dsimp only [List.cons_append,List.nil_append]
     obtain ⟨hk,hi⟩:=hoka
     refine uAe ?_;refine uAe (uAb ?_);refine uAa rfl rfl rfl (uAd rfl gU) ?_;refine uAa rfl rfl rfl (uAg rfl gU rfl rfl) ?_;refine uAa rfl rfl rfl (uAj rfl gU rfl rfl rfl rfl) ?_;refine uAN rfl rfl rfl rfl rfl gU rfl rfl ?_ (fun hh=>by simp at hh); intro hlen;refine uAa rfl rfl rfl (uAk rfl rfl gU gU rfl) ?_;refine uAf ?_;refine uAl (s:=⟨[(2,_,_),(3,_,_),(5,_,_),(36,_,_)],[(.l 2,_),(.l 3,_)],[],[]⟩) (uAi (⟨sx rfl,sx rfl,sx rfl,sx rfl,trivial⟩) (⟨sx rfl,sx rfl,trivial⟩) trivial) ?_;refine uAn rfl (fun hc5=>?_) (fun hc5=>?_)
     ·try simp only [nn,uAh,uAB,T.rows_len,Gl.rows_len,Fs.rows_len,Sp.rows_len] at hc5
      have hlt : k < g.data.length:=by omega
      have hks:=T.getD_size hlt
      have hts:=T.sizes_take_le g.data k
      refine uAp ?_;refine uAe ?_;refine uAw ?_;refine uAe ?_;refine awp_drawn' (by kernel_rfl) ?_;refine uAD rfl rfl rfl rfl rfl rfl rfl gU rfl rfl rfl rfl rfl ?_;refine uAq rfl rfl rfl rfl (uAg rfl gU rfl rfl) ?_;refine uBj rfl rfl rfl rfl rfl rfl rfl gU rfl rfl rfl rfl ?_;refine uAq rfl rfl rfl rfl (uAd rfl gU) ?_;refine uAq rfl rfl rfl rfl (uAu rfl rfl gU gU rfl rfl rfl (fun hh=>T.rows_at (by first | omega | (simp at hh ⊢; omega) | (simp [isT] at hh ⊢; omega)))) ?_;refine uAq rfl rfl rfl rfl (uAE rfl gU rfl rfl rfl rfl) ?_;refine uAS rfl rfl rfl rfl rfl rfl rfl gU gU (uDQ n h1 h2 h4 _ (g.data.getD k default) (Nat.le_refl _) (by omega)) rfl ?_;refine uAq rfl rfl rfl rfl (uAc rfl gU) ?_;refine uA1 (by kernel_rfl) ?_;refine uAl (s:=⟨[(2,_,_),(3,_,_),(5,_,_),(6,_,_)],[(.l 2,_),(.l 3,_)],[],[]⟩) (uAi (⟨sx rfl,sx rfl,sx rfl,sx rfl,trivial⟩) (⟨sx rfl,sx rfl,trivial⟩) trivial) ?_;refine uAe (uAb ?_);refine uAa rfl rfl rfl (uAd rfl gU) ?_;refine uAa rfl rfl rfl (uAk rfl rfl gU gU rfl) ?_;refine uAf ?_;refine uAn rfl (fun hc6=>?_) (fun hc6=>?_)
      ·try simp only [nn,uAh,uAB,T.rows_len,Gl.rows_len,Fs.rows_len,Sp.rows_len] at hc6
       refine uAe (uAb ?_);refine uAa rfl rfl rfl (uAd rfl gU) ?_;refine uAa rfl rfl rfl (uAc rfl gU) ?_;refine uAf ?_;refine uAo ?_
       repeat (first | refine tR ?_ | refine bR ?_)
       refine uAs rfl ?_ trivial
       (rw [uDI hlt hi hc6]; rfl)
      ·try simp only [nn,uAh,uAB,T.rows_len,Gl.rows_len,Fs.rows_len,Sp.rows_len] at hc6
       refine uAp ?_;refine uAb ?_;refine uAa rfl rfl rfl (uAd rfl gU) ?_;refine uAa rfl rfl rfl (uAz rfl rfl gU gU rfl (IntWalk.i64_in _ (by omega))) ?_;refine uAa rfl rfl rfl (uAc rfl gU) ?_;refine uAf ?_;refine ⟨k + 1,?_,?_,uAi (⟨⟨_,rfl,?_⟩,⟨sx rfl,sx rfl,trivial⟩⟩) (⟨sx rfl,sx rfl,trivial⟩) trivial⟩
       all_goals (first | rfl | omega | exact ⟨by omega,uCl hi hc6⟩)
     ·try simp only [nn,uAh,uAB,T.rows_len,Gl.rows_len,Fs.rows_len,Sp.rows_len] at hc5
      have hke : k=g.data.length:=by omega
      subst hke
      refine uAO ?_
      repeat (first | refine uAF ?_ | refine uAG ?_ | refine uAC rfl ?_)
      refine uAe (uAb ?_);refine uAa rfl rfl rfl (uAc rfl gU) ?_;refine uAf ?_;refine uAo ?_
      repeat (first | refine tR ?_ | refine bR ?_)
      refine uAs rfl ?_ trivial
      (rw [uDf hi]; rfl)
  ·try simp only [nn,uAh,uAB,T.rows_len,Gl.rows_len,Fs.rows_len,Sp.rows_len] at hc2
   have ha : ¬ uBm g.kind=true := fun q=>by have := sagree_iff.1 q; omega
   have hE : uCx n g=errs (uCi n.roles (uBa n)) g.data:=by rw [uCx,if_neg c1,if_neg (fun q=>ha q.1)]
   rw [hE]
   refine uAp ?_;refine uAe ?_;refine uAe (uAb ?_);refine uAa rfl rfl rfl (uAc rfl gU) ?_;refine uAf ?_;refine uAw ?_;refine uAW (ι:=Nat) { t:=[(2,_,_),(3,_,_)],bx:=[(.l 2,_),(.l 3,_)],ow:=[] } (fun k=>[(5,true,xi (k : Int))]) (fun k=>[]) (fun k=>k≤g.data.length ∧ ∀ j,j < k→uCi n.roles (uBa n) (g.data.getD j default)=0) (fun k=>g.data.length - k) (0) (⟨by omega,fun j hj=>by omega⟩) (uAi (⟨sx rfl,sx rfl,sx rfl,trivial⟩) (⟨sx rfl,sx rfl,trivial⟩) trivial) ?_
   intro k hokb
   dsimp only [List.cons_append,List.nil_append]
   obtain ⟨hk,hi⟩:=hokb
   refine uAe ?_;refine uAe (uAb ?_);refine uAa rfl rfl rfl (uAd rfl gU) ?_;refine uAa rfl rfl rfl (uAg rfl gU rfl rfl) ?_;refine uAa rfl rfl rfl (uAj rfl gU rfl rfl rfl rfl) ?_;refine uAN rfl rfl rfl rfl rfl gU rfl rfl ?_ (fun hh=>by simp at hh); intro hlen;refine uAa rfl rfl rfl (uAk rfl rfl gU gU rfl) ?_;refine uAf ?_;refine uAl (s:=⟨[(2,_,_),(3,_,_),(5,_,_),(36,_,_)],[(.l 2,_),(.l 3,_)],[],[]⟩) (uAi (⟨sx rfl,sx rfl,sx rfl,sx rfl,trivial⟩) (⟨sx rfl,sx rfl,trivial⟩) trivial) ?_;refine uAn rfl (fun hc3=>?_) (fun hc3=>?_)
   ·try simp only [nn,uAh,uAB,T.rows_len,Gl.rows_len,Fs.rows_len,Sp.rows_len] at hc3
    have hlt : k < g.data.length:=by omega
    have hks:=T.getD_size hlt
    have hts:=T.sizes_take_le g.data k
    refine uAp ?_;refine uAe ?_;refine uAw ?_;refine uAe ?_;refine awp_drawn' (by kernel_rfl) ?_;refine uAD rfl rfl rfl rfl rfl rfl rfl gU rfl rfl rfl rfl rfl ?_;refine uAq rfl rfl rfl rfl (uAg rfl gU rfl rfl) ?_;refine uBj rfl rfl rfl rfl rfl rfl rfl gU rfl rfl rfl rfl ?_;refine uAq rfl rfl rfl rfl (uAd rfl gU) ?_;refine uAq rfl rfl rfl rfl (uAu rfl rfl gU gU rfl rfl rfl (fun hh=>T.rows_at (by first | omega | (simp at hh ⊢; omega) | (simp [isT] at hh ⊢; omega)))) ?_;refine uAq rfl rfl rfl rfl (uAE rfl gU rfl rfl rfl rfl) ?_;refine uAS rfl rfl rfl rfl rfl rfl rfl gU gU (uDQ n h1 h2 h4 _ (g.data.getD k default) (Nat.le_refl _) (by omega)) rfl ?_;refine uAq rfl rfl rfl rfl (uAc rfl gU) ?_;refine uA1 (by kernel_rfl) ?_;refine uAl (s:=⟨[(2,_,_),(3,_,_),(5,_,_),(6,_,_)],[(.l 2,_),(.l 3,_)],[],[]⟩) (uAi (⟨sx rfl,sx rfl,sx rfl,sx rfl,trivial⟩) (⟨sx rfl,sx rfl,trivial⟩) trivial) ?_;refine uAe (uAb ?_);refine uAa rfl rfl rfl (uAd rfl gU) ?_;refine uAa rfl rfl rfl (uAk rfl rfl gU gU rfl) ?_;refine uAf ?_;refine uAn rfl (fun hc4=>?_) (fun hc4=>?_)
    ·try simp only [nn,uAh,uAB,T.rows_len,Gl.rows_len,Fs.rows_len,Sp.rows_len] at hc4
     refine uAe (uAb ?_);refine uAa rfl rfl rfl (uAd rfl gU) ?_;refine uAa rfl rfl rfl (uAc rfl gU) ?_;refine uAf ?_;refine uAo ?_
     repeat (first | refine tR ?_ | refine bR ?_)
     refine uAs rfl ?_ trivial
     (rw [uDI hlt hi hc4]; rfl)
    ·try simp only [nn,uAh,uAB,T.rows_len,Gl.rows_len,Fs.rows_len,Sp.rows_len] at hc4
     refine uAp ?_;refine uAb ?_;refine uAa rfl rfl rfl (uAd rfl gU) ?_;refine uAa rfl rfl rfl (uAz rfl rfl gU gU rfl (IntWalk.i64_in _ (by omega))) ?_;refine uAa rfl rfl rfl (uAc rfl gU) ?_;refine uAf ?_;refine ⟨k + 1,?_,?_,uAi (⟨⟨_,rfl,?_⟩,⟨sx rfl,sx rfl,trivial⟩⟩) (⟨sx rfl,sx rfl,trivial⟩) trivial⟩
     all_goals (first | rfl | omega | exact ⟨by omega,uCl hi hc4⟩)
   ·try simp only [nn,uAh,uAB,T.rows_len,Gl.rows_len,Fs.rows_len,Sp.rows_len] at hc3
    have hke : k=g.data.length:=by omega
    subst hke
    refine uAO ?_
    repeat (first | refine uAF ?_ | refine uAG ?_ | refine uAC rfl ?_)
    refine uAe (uAb ?_);refine uAa rfl rfl rfl (uAc rfl gU) ?_;refine uAf ?_;refine uAo ?_
    repeat (first | refine tR ?_ | refine bR ?_)
    refine uAs rfl ?_ trivial
    (rw [uDf hi]; rfl)
end Go.Proofs.YteidahabkfgfjaaGreat
namespace Go.Proofs.YteidahabkfgfjaaGreat
open Go Go.Abs
theorem uLo (l : List (List UInt8)) (rs : List (List C)) (s : List UInt8) (h : rs=strR l) : Ctr sys 52 [.v (.c (.sl 1 rs)),xs s] [] (xi (ixS l s)) none []:=by
 subst h; exact uCm l s
theorem uIS (n : Nar) : (uBa n).length=n.roles.length + (n.fresh.length + n.tags.length):=by rw [uGM]; simp
theorem uGm (n : Nar) : (dclL n).map (·.1)=uBa n:=by
 rw [dclL,uGM]
 simp [List.map_append,List.map_map,Function.comp_def]
theorem uOv {n : Nar} {i : Nat} (h : i < (uBa n).length) : ∃ o,(dclL n)[i]? = some ((uBa n).getD i [],o)∧(if n.roles.length≤i∧i < n.roles.length + n.fresh.length then o=some (n.fresh.getD (i - n.roles.length) default).role else o=none):=by
 have hl:=uIS n
 have hk : (uBa n)[i]? = ((dclL n)[i]?).map (·.1):=by rw [← uGm,List.getElem?_map]
 by_cases h1 : i < n.roles.length
 ·have := uJi h1
  refine ⟨none,?_,by rw [if_neg (by omega)]⟩
  rw [List.getD_eq_getElem?_getD,hk,this]; rfl
 ·by_cases h2 : i < n.roles.length + n.fresh.length
  ·have := uHH (n := n) (k := i - n.roles.length) (by omega)
   rw [show n.roles.length + (i - n.roles.length)=i by omega] at this
   refine ⟨_,?_,by rw [if_pos (by omega)]⟩
   rw [List.getD_eq_getElem?_getD,hk,this]; rfl
  ·have := uKW (n := n) (k := i - n.roles.length - n.fresh.length) (by omega)
   rw [show n.roles.length + (n.fresh.length + (i - n.roles.length - n.fresh.length))=i by omega] at this
   refine ⟨none,?_,by rw [if_neg (by omega)]⟩
   rw [List.getD_eq_getElem?_getD,hk,this]; rfl
theorem uOs {l : List UInt8} {c : UInt8} (h : ∀ j,j < l.length → ¬ (((l.getD j 0).toNat : Nat) : Int)=(c.toNat : Nat)) : l.contains c=false:=by
 rw [Bool.eq_false_iff]
 intro q
 obtain ⟨j,hj,e⟩:=List.mem_iff_getElem.1 (List.contains_iff_mem.1 q)
 exact h j hj (by rw [List.getD_eq_getElem?_getD,List.getElem?_eq_getElem hj,Option.getD_some,e])
theorem uOk {l : List UInt8} {c : UInt8} {j : Nat} (hj : j < l.length) (h : (((l.getD j 0).toNat : Nat) : Int)=(c.toNat : Nat)) : l.contains c=true:=by
 have e : l.getD j 0=c:=UInt8.toNat.inj (by omega)
 rw [List.contains_iff_mem,← e]; exact uCE hj
theorem uGZ (n : Nar) (h1 : n.roles.length≤900000) (h2 : n.fresh.length≤900000) (h4 : n.tags.length≤900000) : Ctr sys 44 [xn n] [] (xi (decE n)) none []:=by
 have l1:=uAh n.roles
 have l2:=Fs.rows_len n.fresh
 have l3:=uAh n.tags
 have lk:=uAh (uBa n)
 have hl:=uIS n
 refine uAA Tryz.func44 rfl rfl rfl rfl rfl rfl ?_;refine uAe (uAb ?_);refine uAt rfl (uAI rfl rfl rfl rfl) ?_;refine uAa rfl rfl rfl (uAc rfl gU) ?_;refine uAf ?_;refine uAe (uAb ?_);refine uAa rfl rfl rfl (uAm rfl gU rfl rfl rfl rfl rfl) ?_;refine uAx rfl rfl rfl rfl rfl rfl gU gU (uEf n h1 h2 h4) rfl ?_;refine uAa rfl rfl rfl (uAd rfl gU) ?_;refine uAa rfl rfl rfl (uAr rfl gU rfl) ?_;refine uAa rfl rfl rfl (uAr rfl gU rfl) ?_;refine uAa rfl rfl rfl (uAc rfl gU) ?_;refine uAa rfl rfl rfl (uAc rfl gU) ?_;refine uAf ?_;refine uAl (s:=⟨[(1,_,_),(3,_,_)],[(.l 1,_)],[],[]⟩) (uAi (⟨sx rfl,sx rfl,trivial⟩) (⟨sx rfl,trivial⟩) trivial) ?_;refine uAe ?_;refine uAe (uAb ?_);refine uAa rfl rfl rfl (uAc rfl gU) ?_;refine uAf ?_;refine uAw ?_;refine uAW (ι:=Nat) { t:=[(1,_,_),(3,_,_)],bx:=[(.l 1,_)],ow:=[] } (fun i=>[(5,true,xi (i : Int))]) (fun i=>[]) (fun i=>i≤(uBa n).length∧decA n.roles ((uBa n).take i) ((dclL n).drop i)=decE n) (fun i=>(uBa n).length - i) (0) (⟨by omega,by simp [decE]⟩) (uAi (⟨sx rfl,sx rfl,sx rfl,trivial⟩) (⟨sx rfl,trivial⟩) trivial) ?_
 intro i hoka
 dsimp only [List.cons_append,List.nil_append]
 obtain ⟨hi,hd⟩:=hoka
 refine uAe ?_;refine uAe (uAb ?_);refine uAa rfl rfl rfl (uAd rfl gU) ?_;refine uAa rfl rfl rfl (uAd rfl gU) ?_;refine uAN rfl rfl rfl rfl rfl gU rfl rfl ?_ (fun hh=>by simp at hh); intro hlen;refine uAa rfl rfl rfl (uAk rfl rfl gU gU rfl) ?_;refine uAf ?_;refine uAn rfl (fun hc=>?_) (fun hc=>?_)
 ·try simp only [nn,uAh,uAB,T.rows_len,Gl.rows_len,Fs.rows_len,Sp.rows_len] at hc
  have hlt : i < (uBa n).length:=by omega
  obtain ⟨o,hx,ho⟩:=uOv hlt
  have hF : o.isSome=true ↔ (n.roles.length≤i∧i < n.roles.length + n.fresh.length):=by
   split at ho
   ·rename_i q; rw [ho]; exact ⟨fun _=>q,fun _=>rfl⟩
   ·rename_i q; rw [ho]; exact ⟨fun z=>by simp at z,fun z=>absurd z q⟩
  refine uAp ?_;refine uAe ?_;refine uAw ?_;refine uAe (uAb ?_);refine uAa rfl rfl rfl (uAd rfl gU) ?_;refine uAa rfl rfl rfl (uAg rfl gU rfl rfl) ?_;refine uAa rfl rfl rfl (uAj rfl gU rfl rfl rfl rfl) ?_;refine uAN rfl rfl rfl rfl rfl gU rfl rfl ?_ (fun hh=>by simp at hh); intro hlen;refine uAa rfl rfl rfl (uAk rfl rfl gU gU rfl) ?_;refine uAa rfl rfl rfl (uAd rfl gU) ?_;refine uAa rfl rfl rfl (uAd rfl gU) ?_;refine uAa rfl rfl rfl (uAg rfl gU rfl rfl) ?_;refine uA7 (s:=⟨[(1,_,_),(3,_,_),(5,_,_),(24,_,_),(25,_,_),(26,_,_)],[(.l 1,_)],[],[]⟩) (uAi (⟨sx rfl,sx rfl,sx rfl,sx rfl,sx rfl,sx rfl,trivial⟩) (⟨sx rfl,trivial⟩) trivial) ?_;refine uAa rfl rfl rfl (uAj rfl (fun hh=>hh) rfl rfl rfl rfl) ?_;refine uAa rfl rfl rfl (uA6 rfl (fun hh=>hh) rfl rfl) ?_;refine uAa rfl rfl rfl (uAg rfl gU rfl rfl) ?_;refine uAa rfl rfl rfl (uAj rfl (fun hh=>hh) rfl rfl rfl rfl) ?_;refine uAa rfl rfl rfl (uA6 rfl (fun hh=>hh) rfl rfl) ?_;refine uAa rfl rfl rfl (uAz rfl rfl (fun hh=>hh) (fun hh=>hh) rfl (IntWalk.i64_in _ (by omega))) ?_;refine uAa rfl rfl rfl (uAk rfl rfl (fun hh=>hh) (fun hh=>hh) rfl) ?_;refine uAa rfl rfl rfl (uAH rfl rfl gU (fun _ hi=>gP rfl hi)) ?_;refine uAa rfl rfl rfl (uAc rfl gU) ?_;refine uAf ?_
  refine uAl (s:=⟨[(1,_,_),(3,_,_),(5,_,_),(6,_,_)],[(.l 1,_)],[],[]⟩) (uAi (⟨sx rfl,sx rfl,sx rfl,sx rfl,trivial⟩) (⟨sx rfl,trivial⟩) trivial) ?_;refine uAe ?_;refine uAe (uAb ?_);refine uAa rfl rfl rfl (uAc rfl gU) ?_;refine uAf ?_;refine uAw ?_;refine uAW (ι:=Nat) { t:=[(1,_,_),(3,_,_),(5,_,_),(6,_,_)],bx:=[(.l 1,_)],ow:=[] } (fun k=>[(7,true,xi (k : Int))]) (fun k=>[]) (fun k=>k≤((uBa n).getD i []).length ∧ ∀ j,j < k → ¬ (((((uBa n).getD i []).getD j 0).toNat : Nat) : Int)=35) (fun k=>((uBa n).getD i []).length - k) (0) (⟨by omega,fun j hj=>by omega⟩) (uAi (⟨sx rfl,sx rfl,sx rfl,sx rfl,sx rfl,trivial⟩) (⟨sx rfl,trivial⟩) trivial) ?_
  intro k hokb
  dsimp only [List.cons_append,List.nil_append]
  obtain ⟨hk,hj⟩:=hokb
  refine uAe ?_;refine uAe (uAb ?_);refine uAa rfl rfl rfl (uAd rfl gU) ?_;refine uAa rfl rfl rfl (uAd rfl gU) ?_;refine uAa rfl rfl rfl (uAd rfl gU) ?_;refine uAa rfl rfl rfl (uAu rfl rfl gU gU rfl rfl rfl (fun hh=>uBQ (by first | omega | (simp at hh ⊢; omega)))) ?_;refine uAa rfl rfl rfl (uAQ rfl gU rfl rfl rfl) ?_;refine uBI rfl rfl rfl rfl rfl gU (Tryz.underlying9) ?_ (fun hh=>by simp at hh); intro hlen;refine uAa rfl rfl rfl (uAk rfl rfl gU gU rfl) ?_;refine uAf ?_;refine uAl (s:=⟨[(1,_,_),(3,_,_),(5,_,_),(6,_,_),(7,_,_),(41,_,_)],[(.l 1,_)],[],[]⟩) (uAi (⟨sx rfl,sx rfl,sx rfl,sx rfl,sx rfl,sx rfl,trivial⟩) (⟨sx rfl,trivial⟩) trivial) ?_;refine uAn rfl (fun hc2=>?_) (fun hc2=>?_)
  ·try simp only [nn,uAh,uAB,T.rows_len,Gl.rows_len,Fs.rows_len,Sp.rows_len] at hc2
   refine uAp ?_;refine uAe ?_;refine uAw ?_;refine uAe (uAb ?_);refine uAa rfl rfl rfl (uAd rfl gU) ?_;refine uAa rfl rfl rfl (uAd rfl gU) ?_;refine uAa rfl rfl rfl (uAu rfl rfl gU gU rfl rfl rfl (fun hh=>uBQ (by first | omega | (simp at hh ⊢; omega)))) ?_;refine uAa rfl rfl rfl (uAQ rfl gU rfl rfl rfl) ?_;refine uAa rfl rfl rfl (uAd rfl gU) ?_;refine uAa rfl rfl rfl (uAK rfl rfl gU gU Tryz.underlying9 rfl (fun hh=>by first | omega | (simp at hh ⊢; omega))) ?_;refine uAa rfl rfl rfl (uAk rfl rfl gU gU rfl) ?_;refine uAf ?_;refine uAl (s:=⟨[(1,_,_),(3,_,_),(5,_,_),(6,_,_),(7,_,_),(50,_,_)],[(.l 1,_)],[],[]⟩) (uAi (⟨sx rfl,sx rfl,sx rfl,sx rfl,sx rfl,sx rfl,trivial⟩) (⟨sx rfl,trivial⟩) trivial) ?_;refine uAn rfl (fun hc3=>?_) (fun hc3=>?_)
   ·try simp only [nn,uAh,uAB,T.rows_len,Gl.rows_len,Fs.rows_len,Sp.rows_len] at hc3
    have he : dclE n.roles ((uBa n).take i) ((uBa n).getD i [],o)=2:=by rw [dclE,if_pos (uOk (c:=35) (l:=(uBa n).getD i []) (j:=k) (by omega) hc3)]
    have hh:=uCY hx (by rw [he]; simp)
    rw [hd,he] at hh
    refine uAe (uAb ?_);refine uAa rfl rfl rfl (uAc rfl gU) ?_;refine uAf ?_;refine uAo ?_
    repeat (first | refine tR ?_ | refine bR ?_)
    refine uAs rfl ?_ trivial
    (rw [hh]; rfl)
   ·try simp only [nn,uAh,uAB,T.rows_len,Gl.rows_len,Fs.rows_len,Sp.rows_len] at hc3
    refine uAp ?_;refine uAb ?_;refine uAa rfl rfl rfl (uAd rfl gU) ?_;refine uAa rfl rfl rfl (uAz rfl rfl gU gU rfl (IntWalk.i64_in _ (by omega))) ?_;refine uAa rfl rfl rfl (uAc rfl gU) ?_;refine uAf ?_;refine ⟨k + 1,?_,?_,uAi (⟨⟨_,rfl,?_⟩,⟨sx rfl,sx rfl,sx rfl,sx rfl,trivial⟩⟩) (⟨sx rfl,trivial⟩) trivial⟩
    all_goals (first | rfl | omega | exact ⟨by omega,fun j q=>by by_cases e : j=k; subst e; exact hc3; exact hj j (by omega)⟩)
  ·try simp only [nn,uAh,uAB,T.rows_len,Gl.rows_len,Fs.rows_len,Sp.rows_len] at hc2
   have hno : ((uBa n).getD i []).contains 35=false:=uOs (fun j q=>hj j (by omega))
   refine uAO ?_
   repeat (first | refine uAF ?_ | refine uAG ?_ | refine uAC rfl ?_)
   refine uAe ?_;refine uAe (uAb ?_);refine uAa rfl rfl rfl (uAd rfl gU) ?_;refine uAa rfl rfl rfl (uAd rfl gU) ?_;refine uAa rfl rfl rfl (uAd rfl gU) ?_;refine uAa rfl rfl rfl (uAd rfl gU) ?_;refine uAa rfl rfl rfl (uAu rfl rfl (fun hh=>hh) (fun hh=>hh) rfl rfl rfl (fun hh=>uBQ (by first | omega | (simp at hh ⊢; omega)))) ?_;refine uAa rfl rfl rfl (uAQ rfl (fun hh=>hh) rfl rfl rfl) ?_;refine uAa rfl rfl rfl (uA3 rfl rfl (fun hh=>hh) gU rfl) ?_;refine uAa rfl rfl rfl (uAd rfl (fun hh=>hh)) ?_;refine uAa rfl rfl rfl (uAd rfl gU) ?_;refine uAa rfl rfl rfl (uAd rfl gU) ?_;refine uAa rfl rfl rfl (uAu rfl rfl (fun hh=>hh) (fun hh=>hh) rfl rfl rfl (fun hh=>uBQ (by first | omega | (simp at hh ⊢; omega)))) ?_;refine uAa rfl rfl rfl (uAQ rfl (fun hh=>hh) rfl rfl rfl) ?_;refine uA7 (s:=⟨[(1,_,_),(3,_,_),(5,_,_),(6,_,_),(52,_,_),(58,_,_),(62,_,_)],[(.l 1,_)],[],[]⟩) (uAi (⟨sx rfl,sx rfl,sx rfl,sx rfl,sx rfl,sx rfl,sx rfl,trivial⟩) (⟨sx rfl,trivial⟩) trivial) ?_;refine uAa rfl rfl rfl (uA3 rfl rfl (fun hh=>hh) gU rfl) ?_;refine uAa rfl rfl rfl (uAM rfl rfl (fun hh=>hh) (fun hh hi=>gP hh hi)) ?_;refine uAa rfl rfl rfl (uAH rfl rfl gU (fun _ hi=>gP rfl hi)) ?_;refine uAf ?_
   have n1 : ¬((uBa n).getD i []).contains 35=true:=by rw [hno]; simp
   refine uAn rfl (fun hc3=>?_) (fun hc3=>?_)
   ·try simp only [nn,uAh,uAB,T.rows_len,Gl.rows_len,Fs.rows_len,Sp.rows_len] at hc3
    have he : dclE n.roles ((uBa n).take i) ((uBa n).getD i [],o)=1:=by rw [dclE,if_neg n1,if_pos ⟨hF.2 (by omega),hc3.2⟩]
    have hh:=uCY hx (by rw [he]; simp)
    rw [hd,he] at hh
    refine uAe (uAb ?_);refine uAa rfl rfl rfl (uAc rfl gU) ?_;refine uAf ?_;refine uAo ?_
    repeat (first | refine tR ?_ | refine bR ?_)
    refine uAs rfl ?_ trivial
    (rw [hh]; rfl)
   ·try simp only [nn,uAh,uAB,T.rows_len,Gl.rows_len,Fs.rows_len,Sp.rows_len] at hc3
    have n2 : ¬(o.isSome=true∧((uBa n).getD i []=[101]∨(uBa n).getD i []=[103])):=by
     rintro ⟨q1,q2⟩
     have := hF.1 q1
     rcases hc3 with z | z
     ·omega
     ·exact q2.elim z.1 z.2
    refine uAp ?_;refine uAe ?_;refine uAe ?_;refine awp_drawn' (by kernel_rfl) ?_;refine uAq rfl rfl rfl rfl (uAd rfl gU) ?_;refine uAq rfl rfl rfl rfl (uAd rfl gU) ?_;refine uAq rfl rfl rfl rfl (uDO rfl gU rfl rfl (fun _=>rfl) (fun _=>⟨_,_,_,rfl,gU,rfl⟩) (fun hh=>by first | omega | (simp at hh ⊢; omega)) (fun hh=>by first | omega | (simp at hh ⊢; omega))) ?_;refine uAq rfl rfl rfl rfl (uAd rfl gU) ?_;refine uAq rfl rfl rfl rfl (uAd rfl gU) ?_;refine uAq rfl rfl rfl rfl (uAu rfl rfl gU gU rfl rfl rfl (fun hh=>uBQ (by first | omega | (simp at hh ⊢; omega)))) ?_;refine uAq rfl rfl rfl rfl (uAQ rfl gU rfl rfl rfl) ?_;refine uAS rfl rfl rfl rfl rfl rfl rfl gU gU (uLo _ _ _ (uLR _ _)) rfl ?_;refine uAq rfl rfl rfl rfl (uAk rfl rfl gU gU rfl) ?_;refine uA1 (by kernel_rfl) ?_;refine uAl (s:=⟨[(1,_,_),(3,_,_),(5,_,_),(6,_,_),(74,_,_)],[(.l 1,_)],[],[]⟩) (uAi (⟨sx rfl,sx rfl,sx rfl,sx rfl,sx rfl,trivial⟩) (⟨sx rfl,trivial⟩) trivial) ?_;refine uAn rfl (fun hc4=>?_) (fun hc4=>?_)
    ·try simp only [nn,uAh,uAB,T.rows_len,Gl.rows_len,Fs.rows_len,Sp.rows_len] at hc4
     have h5:=(uDW _ _).1 hc4
     have he : dclE n.roles ((uBa n).take i) ((uBa n).getD i [],o)=5:=by rw [dclE,if_neg n1,if_neg n2,if_pos h5]
     have hh:=uCY hx (by rw [he]; simp)
     rw [hd,he] at hh
     refine uAe (uAb ?_);refine uAa rfl rfl rfl (uAc rfl gU) ?_;refine uAf ?_;refine uAo ?_
     repeat (first | refine tR ?_ | refine bR ?_)
     refine uAs rfl ?_ trivial
     (rw [hh]; rfl)
    ·try simp only [nn,uAh,uAB,T.rows_len,Gl.rows_len,Fs.rows_len,Sp.rows_len] at hc4
     have h5:=(uCy ((uBa n).take i) ((uBa n).getD i [])).1 (by omega)
     have n3 : ¬((uBa n).take i).contains ((uBa n).getD i [])=true:=by rw [h5]; simp
     refine uAp ?_;refine uAe ?_;refine awp_drawn' (by kernel_rfl) ?_;refine uAq rfl rfl rfl rfl (uAd rfl gU) ?_;refine uAq rfl rfl rfl rfl (uAd rfl gU) ?_;refine uAq rfl rfl rfl rfl (uAg rfl gU rfl rfl) ?_;refine uBj rfl rfl rfl rfl rfl rfl rfl (fun hh=>hh) rfl rfl rfl rfl ?_;refine uAq rfl rfl rfl rfl (uAg rfl gU rfl rfl) ?_;refine uBj rfl rfl rfl rfl rfl rfl rfl (fun hh=>hh) rfl rfl rfl rfl ?_;refine uAq rfl rfl rfl rfl (uAd rfl gU) ?_;refine uAq rfl rfl rfl rfl (uAg rfl gU rfl rfl) ?_;refine uBj rfl rfl rfl rfl rfl rfl rfl (fun hh=>hh) rfl rfl rfl rfl ?_;refine uAq rfl rfl rfl rfl (uA6 rfl (fun hh=>hh) rfl rfl) ?_;refine uAq rfl rfl rfl rfl (uAz rfl rfl (fun hh=>hh) (fun hh=>hh) rfl (IntWalk.i64_in _ (by omega))) ?_;refine uAq rfl rfl rfl rfl (uF7 (j:=i - n.roles.length) rfl rfl (by first | exact fun hh=>hh | exact fun _=>rfl | exact fun hh=>gL hh | exact fun hh=>gL (gL hh) | (intro hh; simp_all)) (by first | exact fun hh=>hh | exact fun _=>rfl | exact fun hh=>gL hh | exact fun hh=>gL (gL hh) | (intro hh; simp_all)) rfl rfl (fun hh=>by simp at hh; omega) (fun hh=>Fs.rows_at (by simp at hh; omega))) ?_;refine uAq rfl rfl rfl rfl (uA2 rfl (fun hh=>hh) rfl rfl) ?_;refine uAq rfl rfl rfl rfl (uAQ rfl (fun hh=>hh) rfl rfl rfl) ?_;refine uAS rfl rfl rfl rfl rfl rfl rfl gU (fun hh=>gA ((fun hh=>hh) hh) (gA ((fun hh=>hh) hh) (rfl))) (uCm _ _) rfl ?_
     refine uAq rfl rfl rfl rfl (uAk rfl rfl (fun hh=>hh) gU rfl) ?_;refine uAq rfl rfl rfl rfl (uAH rfl rfl gU (fun _ hi=>gP rfl hi)) ?_;refine uA1 (by kernel_rfl) ?_;refine uAl (s:=⟨[(1,_,_),(3,_,_),(5,_,_),(91,_,_)],[(.l 1,_)],[],[]⟩) (uAi (⟨sx rfl,sx rfl,sx rfl,sx rfl,trivial⟩) (⟨sx rfl,trivial⟩) trivial) ?_;refine uAn rfl (fun hc5=>?_) (fun hc5=>?_)
     ·try simp only [nn,uAh,uAB,T.rows_len,Gl.rows_len,Fs.rows_len,Sp.rows_len] at hc5
      have hr:=(uCy _ _).1 hc5.2
      rw [if_pos (by omega)] at ho
      have he : dclE n.roles ((uBa n).take i) ((uBa n).getD i [],o)=13:=by rw [dclE,if_neg n1,if_neg n2,if_neg n3,ho]; exact if_neg (by rw [hr]; simp)
      have hh:=uCY hx (by rw [he]; simp)
      rw [hd,he] at hh
      refine uAe (uAb ?_);refine uAa rfl rfl rfl (uAc rfl gU) ?_;refine uAf ?_;refine uAo ?_
      repeat (first | refine tR ?_ | refine bR ?_)
      refine uAs rfl ?_ trivial
      (rw [hh]; rfl)
     ·try simp only [nn,uAh,uAB,T.rows_len,Gl.rows_len,Fs.rows_len,Sp.rows_len] at hc5
      have he : dclE n.roles ((uBa n).take i) ((uBa n).getD i [],o)=0:=by
       rw [dclE,if_neg n1,if_neg n2,if_neg n3]
       split at ho
       ·rename_i q
        have hr:=(uDW n.roles (n.fresh.getD (i - n.roles.length) default).role).1 (by omega)
        rw [ho]; exact if_pos hr
       ·rw [ho]
      have hh:=uGi hx he
      rw [hd] at hh
      refine uAp ?_;refine uAb ?_;refine uAa rfl rfl rfl (uAd rfl gU) ?_;refine uAa rfl rfl rfl (uAz rfl rfl gU gU rfl (IntWalk.i64_in _ (by omega))) ?_;refine uAa rfl rfl rfl (uAc rfl gU) ?_;refine uAf ?_;refine ⟨i + 1,?_,?_,uAi (⟨⟨_,rfl,?_⟩,⟨sx rfl,sx rfl,trivial⟩⟩) (⟨sx rfl,trivial⟩) trivial⟩
      all_goals (first | rfl | omega | exact ⟨by omega,by rw [uBH (d:=[]) hlt]; exact hh.symm⟩)
 ·try simp only [nn,uAh,uAB,T.rows_len,Gl.rows_len,Fs.rows_len,Sp.rows_len] at hc
  rw [List.drop_of_length_le (by have := congrArg List.length (uGm n); rw [List.length_map] at this; omega)] at hd
  refine uAO ?_
  repeat (first | refine uAF ?_ | refine uAG ?_ | refine uAC rfl ?_)
  refine uAe (uAb ?_);refine uAa rfl rfl rfl (uAc rfl gU) ?_;refine uAf ?_;refine uAo ?_
  repeat (first | refine tR ?_ | refine bR ?_)
  refine uAs rfl ?_ trivial
  (rw [← hd]; rfl)
set_option maxHeartbeats 4000000 in
theorem uFV (n : Nar) (hs : ∀ s ∈ n.steps,s.msg.size≤900000) (hg : ∀ g ∈ n.goals,T.sizes g.data≤900000) : Ctr sys 14 [xn n] [] (xii (chkE uAJ n)) none []:=by
 have l5:=Sp.rows_len n.steps
 have l6:=Gl.rows_len n.goals
 refine uAA Tryz.func14 rfl rfl rfl rfl rfl rfl ?_;refine uAe (uAb ?_);refine uAt rfl (uAI rfl rfl rfl rfl) ?_;refine uAa rfl rfl rfl (uAc rfl gU) ?_;refine uAa rfl rfl rfl (uAc rfl gU) ?_;refine uAf ?_;refine uAe ?_;refine uAe (uAb ?_);refine uAa rfl rfl rfl (uAm rfl gU rfl rfl rfl rfl rfl) ?_;refine uAx rfl rfl rfl rfl rfl rfl gU gU (uF5 _ hs hg) rfl ?_;refine uAa rfl rfl rfl (uAc rfl gU) ?_;refine uAf ?_;refine uAl (s:=⟨[(1,_,_),(4,_,_)],[(.l 1,_)],[],[]⟩) (uAi (⟨sx rfl,sx rfl,trivial⟩) (⟨sx rfl,trivial⟩) trivial) ?_;refine uAe (uAb ?_);refine uAa rfl rfl rfl (uAd rfl gU) ?_;refine uAa rfl rfl rfl (uAk rfl rfl gU gU rfl) ?_;refine uAf ?_;refine uAn rfl (fun hc=>?_) (fun hc=>?_)
 ·try simp only [nn,uAh,uAB,T.rows_len,Gl.rows_len,Fs.rows_len,Sp.rows_len] at hc
  refine uAe (uAb ?_);refine uAa rfl rfl rfl (uAd rfl gU) ?_;refine uAa rfl rfl rfl (uAc rfl gU) ?_;refine uAa rfl rfl rfl (uAc rfl gU) ?_;refine uAf ?_;refine uAo ?_
  repeat (first | refine tR ?_ | refine bR ?_)
  refine uAs rfl ?_ trivial
  (rw [chkE,if_pos hc]; rfl)
 ·try simp only [nn,uAh,uAB,T.rows_len,Gl.rows_len,Fs.rows_len,Sp.rows_len] at hc
  have hok:=uIf (n:=n) hc
  have b1 : n.roles.length≤900000 := by have := hok.r2; omega
  have b2 : n.fresh.length≤900000 := by have := hok.f2; omega
  have b3 : n.tags.length≤900000 := by have := hok.t2; omega
  have e1 : chkE uAJ n=if decE n≠0 then (0,decE n) else useE n:=by rw [chkE,if_neg (by simpa using hc)]
  rw [e1]
  refine uAp ?_;refine uAe ?_;refine uAe (uAb ?_);refine uAa rfl rfl rfl (uAm rfl gU rfl rfl rfl rfl rfl) ?_;refine uAx rfl rfl rfl rfl rfl rfl gU gU (uGZ n b1 b2 b3) rfl ?_;refine uAa rfl rfl rfl (uAc rfl gU) ?_;refine uAf ?_;refine uAl (s:=⟨[(1,_,_),(5,_,_)],[(.l 1,_)],[],[]⟩) (uAi (⟨sx rfl,sx rfl,trivial⟩) (⟨sx rfl,trivial⟩) trivial) ?_;refine uAe (uAb ?_);refine uAa rfl rfl rfl (uAd rfl gU) ?_;refine uAa rfl rfl rfl (uAk rfl rfl gU gU rfl) ?_;refine uAf ?_;refine uAn rfl (fun hc2=>?_) (fun hc2=>?_)
  ·try simp only [nn,uAh,uAB,T.rows_len,Gl.rows_len,Fs.rows_len,Sp.rows_len] at hc2
   refine uAe (uAb ?_);refine uAa rfl rfl rfl (uAd rfl gU) ?_;refine uAa rfl rfl rfl (uAc rfl gU) ?_;refine uAa rfl rfl rfl (uAc rfl gU) ?_;refine uAf ?_;refine uAo ?_
   repeat (first | refine tR ?_ | refine bR ?_)
   refine uAs rfl ?_ trivial
   (rw [if_pos hc2]; rfl)
  ·try simp only [nn,uAh,uAB,T.rows_len,Gl.rows_len,Fs.rows_len,Sp.rows_len] at hc2
   rw [if_neg (by simpa using hc2)]
   refine uAp ?_;refine uAe ?_;refine uAe (uAb ?_);refine uAa rfl rfl rfl (uAc rfl gU) ?_;refine uAf ?_;refine uAw ?_;refine uAW (ι:=Nat) { t:=[(1,_,_)],bx:=[(.l 1,_)],ow:=[] } (fun k=>[(6,true,xi (k : Int))]) (fun k=>[]) (fun k=>k≤n.steps.length ∧ ∀ j,j < k→uDi n (n.steps.getD j default)=0) (fun k=>n.steps.length - k) (0) (⟨by omega,fun j hj=>by omega⟩) (uAi (⟨sx rfl,sx rfl,trivial⟩) (⟨sx rfl,trivial⟩) trivial) ?_
   intro k hoka
   dsimp only [List.cons_append,List.nil_append]
   obtain ⟨hk,hi⟩:=hoka
   refine uAe ?_;refine uAe (uAb ?_);refine uAa rfl rfl rfl (uAd rfl gU) ?_;refine uAa rfl rfl rfl (uAg rfl gU rfl rfl) ?_;refine uAa rfl rfl rfl (uAj rfl gU rfl rfl rfl rfl) ?_;refine uAN rfl rfl rfl rfl rfl gU rfl rfl ?_ (fun hh=>by simp at hh); intro hlen;refine uAa rfl rfl rfl (uAk rfl rfl gU gU rfl) ?_;refine uAf ?_;refine uAl (s:=⟨[(1,_,_),(6,_,_),(24,_,_)],[(.l 1,_)],[],[]⟩) (uAi (⟨sx rfl,sx rfl,sx rfl,trivial⟩) (⟨sx rfl,trivial⟩) trivial) ?_;refine uAn rfl (fun hc3=>?_) (fun hc3=>?_)
   ·try simp only [nn,uAh,uAB,T.rows_len,Gl.rows_len,Fs.rows_len,Sp.rows_len] at hc3
    have hlt : k < n.steps.length:=by omega
    have hks:=hs _ (uCE (d:=default) hlt)
    refine uAp ?_;refine uAe ?_;refine uAw ?_;refine uAe ?_;refine awp_drawn' (by kernel_rfl) ?_;refine uAD rfl rfl rfl rfl rfl rfl rfl gU rfl rfl rfl rfl rfl ?_;refine uAq rfl rfl rfl rfl (uAg rfl gU rfl rfl) ?_;refine uBj rfl rfl rfl rfl rfl rfl rfl gU rfl rfl rfl rfl ?_;refine uAq rfl rfl rfl rfl (uAd rfl gU) ?_;refine uAq rfl rfl rfl rfl (uAu rfl rfl gU gU rfl rfl rfl (fun hh=>Sp.rows_at (by first | omega | (simp at hh ⊢; omega)))) ?_;refine uAq rfl rfl rfl rfl (uAE rfl gU rfl rfl rfl rfl) ?_;refine uAS rfl rfl rfl rfl rfl rfl rfl gU gU (uH4 n (n.steps.getD k default) b1 b2 b3 hks) rfl ?_;refine uAq rfl rfl rfl rfl (uAc rfl gU) ?_;refine uA1 (by kernel_rfl) ?_;refine uAl (s:=⟨[(1,_,_),(6,_,_),(7,_,_)],[(.l 1,_)],[],[]⟩) (uAi (⟨sx rfl,sx rfl,sx rfl,trivial⟩) (⟨sx rfl,trivial⟩) trivial) ?_;refine uAe (uAb ?_);refine uAa rfl rfl rfl (uAd rfl gU) ?_;refine uAa rfl rfl rfl (uAk rfl rfl gU gU rfl) ?_;refine uAf ?_;refine uAn rfl (fun hc4=>?_) (fun hc4=>?_)
    ·try simp only [nn,uAh,uAB,T.rows_len,Gl.rows_len,Fs.rows_len,Sp.rows_len] at hc4
     have hh:=uGj (ln:=Sp.line) hlt hi hc4
     have hu : useE n=((n.steps.getD k default).line,uDi n (n.steps.getD k default)):=by rw [useE,if_pos (by rw [hh]; exact hc4),hh]
     rw [hu]
     refine uAe (uAb ?_);refine uAa rfl rfl rfl (uAg rfl gU rfl rfl) ?_;refine uAa rfl rfl rfl (uAj rfl gU rfl rfl rfl rfl) ?_;refine uAa rfl rfl rfl (uAd rfl gU) ?_;refine uAa rfl rfl rfl (uAu rfl rfl gU gU rfl rfl rfl (fun hh=>Sp.rows_at (by first | omega | (simp at hh ⊢; omega)))) ?_;refine uAa rfl rfl rfl (uA2 rfl gU rfl rfl) ?_;refine uAa rfl rfl rfl (uAQ rfl gU rfl rfl rfl) ?_;refine uAa rfl rfl rfl (uAd rfl gU) ?_;refine uAa rfl rfl rfl (uAc rfl gU) ?_;refine uAa rfl rfl rfl (uAc rfl gU) ?_;refine uAf ?_;refine uAo ?_
     repeat (first | refine tR ?_ | refine bR ?_)
     refine uAs rfl ?_ trivial
     rfl
    ·try simp only [nn,uAh,uAB,T.rows_len,Gl.rows_len,Fs.rows_len,Sp.rows_len] at hc4
     refine uAp ?_;refine uAb ?_;refine uAa rfl rfl rfl (uAd rfl gU) ?_;refine uAa rfl rfl rfl (uAz rfl rfl gU gU rfl (IntWalk.i64_in _ (by omega))) ?_;refine uAa rfl rfl rfl (uAc rfl gU) ?_;refine uAf ?_;refine ⟨k + 1,?_,?_,uAi (⟨⟨_,rfl,?_⟩,⟨sx rfl,trivial⟩⟩) (⟨sx rfl,trivial⟩) trivial⟩
     all_goals (first | rfl | omega | exact ⟨by omega,uCl hi hc4⟩)
   ·try simp only [nn,uAh,uAB,T.rows_len,Gl.rows_len,Fs.rows_len,Sp.rows_len] at hc3
    have hke : k=n.steps.length:=by omega
    subst hke
    have hus : useE n=lnE (uCx n) Gl.line n.goals:=by rw [useE,if_neg (by rw [uFa (ln:=Sp.line) hi]; simp)]
    rw [hus]
    refine uAO ?_
    repeat (first | refine uAF ?_ | refine uAG ?_ | refine uAC rfl ?_)
    refine uAe ?_;refine uAe (uAb ?_);refine uAa rfl rfl rfl (uAc rfl gU) ?_;refine uAf ?_;refine uAw ?_;refine uAW (ι:=Nat) { t:=[(1,_,_)],bx:=[(.l 1,_)],ow:=[] } (fun j=>[(8,true,xi (j : Int))]) (fun j=>[]) (fun j=>j≤n.goals.length ∧ ∀ i,i < j→uCx n (n.goals.getD i default)=0) (fun j=>n.goals.length - j) (0) (⟨by omega,fun j hj=>by omega⟩) (uAi (⟨sx rfl,sx rfl,trivial⟩) (⟨sx rfl,trivial⟩) trivial) ?_
    intro j hokb
    dsimp only [List.cons_append,List.nil_append]
    obtain ⟨hj,hi2⟩:=hokb
    refine uAe ?_;refine uAe (uAb ?_);refine uAa rfl rfl rfl (uAd rfl gU) ?_;refine uAa rfl rfl rfl (uAg rfl gU rfl rfl) ?_;refine uAa rfl rfl rfl (uAj rfl gU rfl rfl rfl rfl) ?_;refine uAN rfl rfl rfl rfl rfl gU rfl rfl ?_ (fun hh=>by simp at hh); intro hlen;refine uAa rfl rfl rfl (uAk rfl rfl gU gU rfl) ?_;refine uAf ?_;refine uAl (s:=⟨[(1,_,_),(8,_,_),(47,_,_)],[(.l 1,_)],[],[]⟩) (uAi (⟨sx rfl,sx rfl,sx rfl,trivial⟩) (⟨sx rfl,trivial⟩) trivial) ?_;refine uAn rfl (fun hc4=>?_) (fun hc4=>?_)
    ·try simp only [nn,uAh,uAB,T.rows_len,Gl.rows_len,Fs.rows_len,Sp.rows_len] at hc4
     have hlt : j < n.goals.length:=by omega
     have hks:=hg _ (uCE (d:=default) hlt)
     refine uAp ?_;refine uAe ?_;refine uAw ?_;refine uAe ?_;refine awp_drawn' (by kernel_rfl) ?_;refine uAD rfl rfl rfl rfl rfl rfl rfl gU rfl rfl rfl rfl rfl ?_;refine uAq rfl rfl rfl rfl (uAg rfl gU rfl rfl) ?_;refine uBj rfl rfl rfl rfl rfl rfl rfl gU rfl rfl rfl rfl ?_;refine uAq rfl rfl rfl rfl (uAd rfl gU) ?_;refine uAq rfl rfl rfl rfl (uAu rfl rfl gU gU rfl rfl rfl (fun hh=>Gl.rows_at (by first | omega | (simp at hh ⊢; omega)))) ?_;refine uAq rfl rfl rfl rfl (uAE rfl gU rfl rfl rfl rfl) ?_;refine uAS rfl rfl rfl rfl rfl rfl rfl gU gU (uHV n (n.goals.getD j default) b1 b2 b3 hks) rfl ?_;refine uAq rfl rfl rfl rfl (uAc rfl gU) ?_;refine uA1 (by kernel_rfl) ?_;refine uAl (s:=⟨[(1,_,_),(8,_,_),(9,_,_)],[(.l 1,_)],[],[]⟩) (uAi (⟨sx rfl,sx rfl,sx rfl,trivial⟩) (⟨sx rfl,trivial⟩) trivial) ?_;refine uAe (uAb ?_);refine uAa rfl rfl rfl (uAd rfl gU) ?_;refine uAa rfl rfl rfl (uAk rfl rfl gU gU rfl) ?_;refine uAf ?_;refine uAn rfl (fun hc5=>?_) (fun hc5=>?_)
     ·try simp only [nn,uAh,uAB,T.rows_len,Gl.rows_len,Fs.rows_len,Sp.rows_len] at hc5
      rw [uGj (ln:=Gl.line) hlt hi2 hc5]
      refine uAe (uAb ?_);refine uAa rfl rfl rfl (uAg rfl gU rfl rfl) ?_;refine uAa rfl rfl rfl (uAj rfl gU rfl rfl rfl rfl) ?_;refine uAa rfl rfl rfl (uAd rfl gU) ?_;refine uAa rfl rfl rfl (uAu rfl rfl gU gU rfl rfl rfl (fun hh=>Gl.rows_at (by first | omega | (simp at hh ⊢; omega)))) ?_;refine uAa rfl rfl rfl (uA2 rfl gU rfl rfl) ?_;refine uAa rfl rfl rfl (uAQ rfl gU rfl rfl rfl) ?_;refine uAa rfl rfl rfl (uAd rfl gU) ?_;refine uAa rfl rfl rfl (uAc rfl gU) ?_;refine uAa rfl rfl rfl (uAc rfl gU) ?_;refine uAf ?_;refine uAo ?_
      repeat (first | refine tR ?_ | refine bR ?_)
      refine uAs rfl ?_ trivial
      rfl
     ·try simp only [nn,uAh,uAB,T.rows_len,Gl.rows_len,Fs.rows_len,Sp.rows_len] at hc5
      refine uAp ?_;refine uAb ?_;refine uAa rfl rfl rfl (uAd rfl gU) ?_;refine uAa rfl rfl rfl (uAz rfl rfl gU gU rfl (IntWalk.i64_in _ (by omega))) ?_;refine uAa rfl rfl rfl (uAc rfl gU) ?_;refine uAf ?_;refine ⟨j + 1,?_,?_,uAi (⟨⟨_,rfl,?_⟩,⟨sx rfl,trivial⟩⟩) (⟨sx rfl,trivial⟩) trivial⟩
      all_goals (first | rfl | omega | exact ⟨by omega,uCl hi2 hc5⟩)
    ·try simp only [nn,uAh,uAB,T.rows_len,Gl.rows_len,Fs.rows_len,Sp.rows_len] at hc4
     have hje : j=n.goals.length:=by omega
     subst hje
     rw [uFa (ln:=Gl.line) hi2]
     refine uAO ?_
     repeat (first | refine uAF ?_ | refine uAG ?_ | refine uAC rfl ?_)
     refine uAe (uAb ?_);refine uAa rfl rfl rfl (uAc rfl gU) ?_;refine uAa rfl rfl rfl (uAc rfl gU) ?_;refine uAf ?_;refine uAo ?_
     repeat (first | refine tR ?_ | refine bR ?_)
     refine uAs rfl ?_ trivial
     rfl
end Go.Proofs.YteidahabkfgfjaaGreat
namespace Go.Proofs.YteidahabkfgfjaaGreat
open Go Go.Abs
namespace T
mutual
def bud : T→Int→Int
 | mk _ nm _ ks,m=>if m≤0∨40 < nm.length then -1 else buds ks (m - 1)
def buds : List T→Int→Int
 | [],m=>m
 | t :: ts,m=>if bud t m < 0 then -1 else buds ts (bud t m)
end
theorem bud_eq (t : T) (m : Int) : t.bud m=if m≤0∨40 < t.name.length then -1 else buds t.kids (m - 1):=by cases t; rw [bud]; rfl
mutual
theorem uOe : ∀ (t : T) (m : Int),0≤t.bud m→t.bud m + t.size≤m
 | mk _ nm _ ks,m,h=>by
  rw [bud] at h ⊢
  rw [size]
  split at h
  ·omega
  ·rename_i hn
   rw [if_neg hn]
   have := buds_le ks (m - 1) h
   omega
theorem buds_le : ∀ (ts : List T) (m : Int),0≤buds ts m→buds ts m + sizes ts≤m
 | [],m,_=>by rw [buds,sizes]; omega
 | t :: ts,m,h=>by
  rw [buds] at h ⊢
  rw [sizes]
  split at h
  ·omega
  ·rename_i hn
   rw [if_neg hn]
   have h1:=uOe t m (by omega)
   have h2:=buds_le ts (t.bud m) h
   omega
end
theorem buds_step : ∀ (ts : List T) (k : Nat) (x : T) (m : Int),ts[k]? = some x→0≤buds (ts.take k) m→0≤x.bud (buds (ts.take k) m)→buds (ts.take (k + 1)) m=x.bud (buds (ts.take k) m)
 | [],k,x,m,h,_,_=>by simp at h
 | t :: ts,0,x,m,h,h0,hx=>by
  simp at h; subst h
  simp only [List.take_zero,buds] at hx ⊢
  simp only [List.take_succ_cons,List.take_zero,buds]
  rw [if_neg (by omega)]
 | t :: ts,k + 1,x,m,h,h0,hx=>by
  rw [List.take_succ_cons,buds] at h0 hx ⊢
  rw [List.take_succ_cons,buds]
  split at h0
  ·omega
  ·rename_i hn
   rw [if_neg hn] at hx ⊢
   rw [if_neg hn]
   exact buds_step ts k x _ (by simpa using h) h0 hx
theorem buds_hit : ∀ (ts : List T) (k : Nat) (x : T) (m : Int),ts[k]? = some x→0≤buds (ts.take k) m→x.bud (buds (ts.take k) m) < 0→buds ts m = -1
 | [],k,x,m,h,_,_=>by simp at h
 | t :: ts,0,x,m,h,h0,hx=>by
  simp at h; subst h
  simp only [List.take_zero,buds] at hx
  rw [buds,if_pos hx]
 | t :: ts,k + 1,x,m,h,h0,hx=>by
  rw [List.take_succ_cons,buds] at h0 hx
  rw [buds]
  split at h0
  ·omega
  ·rename_i hn
   rw [if_neg hn] at hx ⊢
   exact buds_hit ts k x _ (by simpa using h) h0 hx
end T
def fewB (l : List T) (n : Nat) (m : Int) : Bool:=decide (l.length≤n) && decide (0≤T.buds l m)
theorem uKr {l : List T} {n : Nat} {m : Int} (h : fewB l n m=true) : l.length≤n∧T.sizes l≤m:=by
 simp only [fewB,Bool.and_eq_true,decide_eq_true_eq] at h
 have := T.buds_le l m h.2
 exact ⟨h.1,by omega⟩
def budS (t : T) (m : Int) (k : Nat) : St:={ t:=[(1,true,xi (T.buds (t.kids.take k) (m - 1))),(2,true, .v (.ptr (.l 2) 0)),(5,true,xi k)],bx:=[(.l 2,t.cells)],ow:=[] }
theorem uIZ : ∀ (n : Nat) (t : T) (m : Int),m≤n→n≤2000000 → -2000000≤m→Ctr sys 70 [xm t,xi m] [] (xi (t.bud m)) none []:=by
 intro n
 induction n with
 | zero =>
  intro t m hm _ _
  refine uAA Tryz.func70 rfl rfl rfl rfl rfl rfl ?_;refine uAe (uAb ?_);refine uAt rfl (uAI rfl rfl rfl rfl) ?_;refine uAa rfl rfl rfl (uAc rfl gU) ?_;refine uAf ?_;refine uAe ?_;refine uAe (uAb ?_);refine uAa rfl rfl rfl (uAd rfl gU) ?_;refine uAa rfl rfl rfl (uAk rfl rfl gU gU rfl) ?_;refine uAa rfl rfl rfl (uAd rfl gU) ?_;refine uAa rfl rfl rfl (uAg rfl gU rfl rfl) ?_;refine uAa rfl rfl rfl (uAj rfl (fun hh=>hh) rfl rfl rfl rfl) ?_;refine uAa rfl rfl rfl (uB8 rfl (fun hh=>hh) (Tryz.underlying9)) ?_;refine uAa rfl rfl rfl (uAk rfl rfl (fun hh=>hh) gU rfl) ?_;refine uAa rfl rfl rfl (uAM rfl rfl gU (fun _ hi=>gP rfl hi)) ?_;refine uAf ?_;refine uAl (s:=⟨[(1,_,_),(2,_,_),(13,_,_)],[(.l 2,_)],[],[]⟩) (uAi (⟨sx rfl,sx rfl,sx rfl,trivial⟩) (⟨sx rfl,trivial⟩) trivial) ?_;refine uAn rfl (fun hc=>?_) (fun hc=>?_)
  ·refine uAe (uAb ?_)
   refine uAa rfl rfl rfl (uAc rfl gU) ?_;refine uAf ?_;refine uAo ?_
   repeat (first | refine tR ?_ | refine bR ?_)
   refine uAs rfl ?_ trivial;refine uA9 ?_
   rw [T.bud_eq,if_pos (by omega)]
  ·simp only [Bool.or_eq_false_iff,decide_eq_false_iff_not] at hc
   omega
 | succ n ih =>
  intro t m hm hn hm2
  refine uAA Tryz.func70 rfl rfl rfl rfl rfl rfl ?_;refine uAe (uAb ?_);refine uAt rfl (uAI rfl rfl rfl rfl) ?_;refine uAa rfl rfl rfl (uAc rfl gU) ?_;refine uAf ?_;refine uAe ?_;refine uAe (uAb ?_);refine uAa rfl rfl rfl (uAd rfl gU) ?_;refine uAa rfl rfl rfl (uAk rfl rfl gU gU rfl) ?_;refine uAa rfl rfl rfl (uAd rfl gU) ?_;refine uAa rfl rfl rfl (uAg rfl gU rfl rfl) ?_;refine uAa rfl rfl rfl (uAj rfl (fun hh=>hh) rfl rfl rfl rfl) ?_;refine uAa rfl rfl rfl (uB8 rfl (fun hh=>hh) (Tryz.underlying9)) ?_;refine uAa rfl rfl rfl (uAk rfl rfl (fun hh=>hh) gU rfl) ?_;refine uAa rfl rfl rfl (uAM rfl rfl gU (fun _ hi=>gP rfl hi)) ?_;refine uAf ?_;refine uAl (s:=⟨[(1,_,_),(2,_,_),(13,_,_)],[(.l 2,_)],[],[]⟩) (uAi (⟨sx rfl,sx rfl,sx rfl,trivial⟩) (⟨sx rfl,trivial⟩) trivial) ?_;refine uAn rfl (fun hc=>?_) (fun hc=>?_)
  ·refine uAe (uAb ?_)
   refine uAa rfl rfl rfl (uAc rfl gU) ?_;refine uAf ?_;refine uAo ?_
   repeat (first | refine tR ?_ | refine bR ?_)
   refine uAs rfl ?_ trivial;refine uA9 ?_
   simp only [Bool.or_eq_true,decide_eq_true_eq] at hc
   rw [T.bud_eq,if_pos (by omega)]
  ·simp only [Bool.or_eq_false_iff,decide_eq_false_iff_not] at hc
   have hB : t.bud m=T.buds t.kids (m - 1):=by rw [T.bud_eq,if_neg (by omega)]
   refine uAp ?_;refine uAe (uAb ?_);refine uAa rfl rfl rfl (uAd rfl gU) ?_;refine uAa rfl rfl rfl (uAz rfl rfl gU gU rfl (IntWalk.i64_in _ (by omega))) ?_;refine uAa rfl rfl rfl (uAc rfl gU) ?_;refine uAf ?_;refine uAe ?_;refine uAe (uAb ?_);refine uAa rfl rfl rfl (uAc rfl gU) ?_;refine uAf ?_;refine uAw ?_;refine uCB (budS t m) (fun k=>k≤t.kids.length∧0≤T.buds (t.kids.take k) (m - 1)) (fun k=>t.kids.length - k) 0 ⟨Nat.zero_le _,by simp [T.buds]; omega⟩ ?_ ?_
   ·refine uAi ⟨⟨_,rfl,rfl⟩,⟨_,rfl,rfl⟩,⟨_,rfl,rfl⟩,trivial⟩ ⟨⟨_,rfl,rfl⟩,trivial⟩ trivial
   ·rintro k ⟨hk,hz⟩
    have hbl:=T.buds_le _ _ hz
    refine uAe ?_;refine uAe (uAb ?_);refine uAa rfl rfl rfl (uAd rfl gU) ?_;refine uAa rfl rfl rfl (uAg rfl gU rfl rfl) ?_;refine uAa rfl rfl rfl (uAj rfl gU rfl rfl rfl rfl) ?_;refine uAN rfl rfl rfl rfl rfl gU rfl rfl ?_ (fun hh=>by simp at hh); intro hlen;refine uAa rfl rfl rfl (uAk rfl rfl gU gU rfl) ?_;refine uAf ?_;refine uAl (s:=⟨[(1,_,_),(2,_,_),(5,_,_),(20,_,_)],[(.l 2,_)],[],[]⟩) (uAi (⟨sx rfl,sx rfl,sx rfl,sx rfl,trivial⟩) (⟨sx rfl,trivial⟩) trivial) ?_;refine uAn rfl (fun hc2=>?_) (fun hc2=>?_)
    ·rw [T.rows_len] at hlen hc2
     have hlt : k < t.kids.length:=by simpa using hc2
     obtain ⟨x,hx⟩ : ∃ x,t.kids[k]? = some x:=⟨_,List.getElem?_eq_getElem hlt⟩
     refine uAp ?_;refine uAe ?_;refine uAw ?_;refine uAe (uAb ?_);refine uAa rfl rfl rfl (uAg rfl gU rfl rfl) ?_;refine uAa rfl rfl rfl (uAj rfl gU rfl rfl rfl rfl) ?_;refine uAa rfl rfl rfl (uAd rfl gU) ?_;refine uAa rfl rfl rfl (uAu rfl rfl gU gU rfl rfl rfl (fun _=>T.rows_get hx)) ?_;refine uAa rfl rfl rfl (uAE rfl gU rfl rfl rfl rfl) ?_;refine uAa rfl rfl rfl (uAd rfl gU) ?_;refine uAx rfl rfl rfl rfl rfl rfl gU gU (ih x _ (by omega) (by omega) (by omega)) rfl ?_;refine uAa rfl rfl rfl (uAc rfl gU) ?_;refine uAf ?_;refine uAl (s:=⟨[(1,_,_),(2,_,_),(5,_,_)],[(.l 2,_)],[],[]⟩) (uAi (⟨sx rfl,sx rfl,sx rfl,trivial⟩) (⟨sx rfl,trivial⟩) trivial) ?_;refine uAe (uAb ?_);refine uAa rfl rfl rfl (uAd rfl gU) ?_;refine uAa rfl rfl rfl (uAk rfl rfl gU gU rfl) ?_;refine uAf ?_;refine uAn rfl (fun hc3=>?_) (fun hc3=>?_)
     ·refine uAe (uAb ?_)
      refine uAa rfl rfl rfl (uAc rfl gU) ?_;refine uAf ?_;refine uAo ?_
      repeat (first | refine tR ?_ | refine bR ?_)
      refine uAs rfl ?_ trivial;refine uA9 ?_
      simp only [decide_eq_true_eq] at hc3
      rw [hB,T.buds_hit _ _ _ _ hx hz hc3]
     ·simp only [decide_eq_false_iff_not] at hc3
      have hst:=T.buds_step _ _ _ _ hx hz (by omega)
      refine uAp ?_;refine uAb ?_;refine uAa rfl rfl rfl (uAd rfl gU) ?_;refine uAa rfl rfl rfl (uAz rfl rfl gU gU rfl (IntWalk.i64_in _ (by omega))) ?_;refine uAa rfl rfl rfl (uAc rfl gU) ?_;refine uAf ?_;refine ⟨k + 1,⟨by omega,by rw [hst]; omega⟩,by omega,?_⟩;refine uAi ⟨⟨_,rfl,by rw [hst]⟩,⟨_,rfl,rfl⟩,⟨_,rfl,rfl⟩,trivial⟩ ⟨⟨_,rfl,rfl⟩,trivial⟩ trivial
    ·refine uAO ?_
     repeat (first | refine uAF ?_ | refine uAG ?_ | refine uAC rfl ?_)
     refine uAe (uAb ?_);refine uAa rfl rfl rfl (uAd rfl gU) ?_;refine uAa rfl rfl rfl (uAc rfl gU) ?_;refine uAf ?_;refine uAo ?_
     repeat (first | refine tR ?_ | refine bR ?_)
     refine uAs rfl ?_ trivial
     rw [T.rows_len] at hc2
     have : k=t.kids.length:=by simp at hc2; omega
     subst this
     exact uA9 (by rw [hB,List.take_length])
def fewS (l : List T) (n : Nat) (m : Int) (k : Nat) : St:={ t:=[(0,true,xl l),(2,true,xi (T.buds (l.take k) m)),(7,true,xi k)],bx:=[],ow:=[] }
theorem uMT (l : List T) (n : Nat) (m : Nat) (hm : m≤2000000) : Ctr sys 36 [xl l,xi n,xi m] [] (xb (fewB l n m)) none []:=by
 refine uAA Tryz.func36 rfl rfl rfl rfl rfl rfl ?_;refine uAe (uAb ?_);refine uAa rfl rfl rfl (uAc rfl gU) ?_;refine uAf ?_;refine uAe ?_;refine uAe (uAb ?_);refine uAa rfl rfl rfl (uAd rfl gU) ?_;refine uAN rfl rfl rfl rfl rfl gU rfl rfl ?_ (fun hh=>by simp at hh); intro hlen;refine uAa rfl rfl rfl (uAd rfl gU) ?_;refine uAa rfl rfl rfl (uAk rfl rfl gU gU rfl) ?_;refine uAf ?_;refine uAl (s:=⟨[(0,_,_),(2,_,_),(11,_,_)],[],[],[]⟩) (uAi (⟨sx rfl,sx rfl,sx rfl,trivial⟩) trivial trivial) ?_;refine uAn rfl (fun hc=>?_) (fun hc=>?_)
 ·refine uAe (uAb ?_)
  refine uAa rfl rfl rfl (uAc rfl gU) ?_;refine uAf ?_;refine uAo ?_
  repeat (first | refine tR ?_ | refine bR ?_)
  refine uAs rfl ?_ trivial;refine uB4 ?_
  simp only [T.rows_len,decide_eq_true_eq] at hc
  have : ¬ l.length≤n:=by omega
  simp [fewB,this]
 ·simp only [T.rows_len,decide_eq_false_iff_not] at hc
  have hn : l.length≤n:=by omega
  refine uAp ?_;refine uAe ?_;refine uAe (uAb ?_);refine uAa rfl rfl rfl (uAc rfl gU) ?_;refine uAf ?_;refine uAw ?_;refine uCB (fewS l n m) (fun k=>k≤l.length∧0≤T.buds (l.take k) m) (fun k=>l.length - k) 0 ⟨Nat.zero_le _,by simp [T.buds]⟩ ?_ ?_
  ·refine uAi ⟨⟨_,rfl,rfl⟩,⟨_,rfl,rfl⟩,⟨_,rfl,rfl⟩,trivial⟩ trivial trivial
  ·rintro k ⟨hk,hz⟩
   have hbl:=T.buds_le _ _ hz
   refine uAe ?_;refine uAe (uAb ?_);refine uAa rfl rfl rfl (uAd rfl gU) ?_;refine uAa rfl rfl rfl (uAd rfl gU) ?_;refine uAN rfl rfl rfl rfl rfl gU rfl rfl ?_ (fun hh=>by simp at hh); intro hlen;refine uAa rfl rfl rfl (uAk rfl rfl gU gU rfl) ?_;refine uAf ?_;refine uAn rfl (fun hc2=>?_) (fun hc2=>?_)
   ·rw [T.rows_len] at hlen hc2
    have hlt : k < l.length:=by simpa using hc2
    obtain ⟨x,hx⟩ : ∃ x,l[k]? = some x:=⟨_,List.getElem?_eq_getElem hlt⟩
    refine uAp ?_;refine uAe ?_;refine uAw ?_;refine uAe (uAb ?_);refine uAa rfl rfl rfl (uAd rfl gU) ?_;refine uAa rfl rfl rfl (uAd rfl gU) ?_;refine uAa rfl rfl rfl (uAu rfl rfl gU gU rfl rfl rfl (fun _=>T.rows_get hx)) ?_;refine uAa rfl rfl rfl (uAE rfl gU rfl rfl rfl rfl) ?_;refine uAa rfl rfl rfl (uAd rfl gU) ?_;refine uAx rfl rfl rfl rfl rfl rfl gU gU (uIZ m x _ (by omega) (by omega) (by omega)) rfl ?_;refine uAa rfl rfl rfl (uAc rfl gU) ?_;refine uAf ?_;refine uAl (s:=⟨[(0,_,_),(2,_,_),(7,_,_)],[],[],[]⟩) (uAi (⟨sx rfl,sx rfl,sx rfl,trivial⟩) trivial trivial) ?_;refine uAe (uAb ?_);refine uAa rfl rfl rfl (uAd rfl gU) ?_;refine uAa rfl rfl rfl (uAk rfl rfl gU gU rfl) ?_;refine uAf ?_;refine uAn rfl (fun hc3=>?_) (fun hc3=>?_)
    ·refine uAe (uAb ?_)
     refine uAa rfl rfl rfl (uAc rfl gU) ?_;refine uAf ?_;refine uAo ?_
     repeat (first | refine tR ?_ | refine bR ?_)
     refine uAs rfl ?_ trivial;refine uB4 ?_
     simp only [decide_eq_true_eq] at hc3
     simp [fewB,T.buds_hit _ _ _ _ hx hz hc3]
    ·simp only [decide_eq_false_iff_not] at hc3
     have hst:=T.buds_step _ _ _ _ hx hz (by omega)
     refine uAp ?_;refine uAb ?_;refine uAa rfl rfl rfl (uAd rfl gU) ?_;refine uAa rfl rfl rfl (uAz rfl rfl gU gU rfl (IntWalk.i64_in _ (by omega))) ?_;refine uAa rfl rfl rfl (uAc rfl gU) ?_;refine uAf ?_;refine ⟨k + 1,⟨by omega,by rw [hst]; omega⟩,by omega,?_⟩;refine uAi ⟨⟨_,rfl,rfl⟩,⟨_,rfl,by rw [hst]⟩,⟨_,rfl,rfl⟩,trivial⟩ trivial trivial
   ·refine uAO ?_
    repeat (first | refine uAF ?_ | refine uAG ?_ | refine uAC rfl ?_)
    refine uAe (uAb ?_);refine uAa rfl rfl rfl (uAc rfl gU) ?_;refine uAf ?_;refine uAo ?_
    repeat (first | refine tR ?_ | refine bR ?_)
    refine uAs rfl ?_ trivial
    rw [T.rows_len] at hc2
    have : k=l.length:=by simp at hc2; omega
    subst this
    rw [List.take_length] at hz
    exact uB4 (by simp [fewB,hn,hz])
end Go.Proofs.YteidahabkfgfjaaGreat
namespace Go.Proofs.YteidahabkfgfjaaGreat
open Go Go.Abs
theorem uOy (l r : List T) : X.v (.c (.sl 4 (T.rows l++T.rows r)))=xl (l++r):=by simp [xl,T.rows_eq]
def uDn (l : List Gl) : List T:=(l.map Gl.data).flatten
theorem uKv {l : List Gl} {k : Nat} (h : k < l.length) : uDn (l.take (k + 1))=uDn (l.take k)++(l.getD k default).data:=by
 rw [uBH (d:=default) h]; simp [uDn]
theorem uLB {l : List Gl} (h : ∀ g ∈ l,g.data.length≤2097152) : (uDn l).length≤2097152 * l.length:=by
 induction l with
 | nil=>simp [uDn]
 | cons g l ih =>
  have h1:=h g (by simp)
  have h2:=ih fun x hx=>h x (by simp [hx])
  simp only [uDn,List.map_cons,List.flatten_cons,List.length_append,List.length_cons,Nat.mul_succ] at h2 ⊢
  omega
def uIM (n : Nar) : List T:=n.steps.map Sp.msg++uDn n.goals
def fewN (n : Nar) : Bool:=(decide (n.roles.length≤16) && decide (n.fresh.length≤16) && decide (n.tags.length≤16) && decide (n.steps.length≤16) && decide (n.goals.length≤16)) && fewB (uIM n) 100 900
theorem uKa (n : Nar) (hd : ∀ g ∈ n.goals,g.data.length≤2097152) : Ctr sys 12 [xn n] [] (xb (fewN n)) none []:=by
 have l1:=uAh n.roles
 have l3:=Fs.rows_len n.fresh
 have l4:=uAh n.tags
 have l5:=Sp.rows_len n.steps
 have l6:=Gl.rows_len n.goals
 refine uAA Tryz.func12 rfl rfl rfl rfl rfl rfl ?_;refine uAe (uAb ?_);refine uAt rfl (uAI rfl rfl rfl rfl) ?_;refine uAa rfl rfl rfl (uAc rfl gU) ?_;refine uAf ?_;refine uAe ?_;refine uAe (uAb ?_);refine uAa rfl rfl rfl (uAg rfl gU rfl rfl) ?_;refine uAa rfl rfl rfl (uAj rfl gU rfl rfl rfl rfl) ?_;refine uAN rfl rfl rfl rfl rfl gU rfl rfl ?_ (fun hh=>by simp at hh); intro hlen;refine uAa rfl rfl rfl (uAk rfl rfl gU gU rfl) ?_;refine uAa rfl rfl rfl (uAd rfl gU) ?_;refine uAa rfl rfl rfl (uAg rfl gU rfl rfl) ?_;refine uAa rfl rfl rfl (uAj rfl (fun hh=>hh) rfl rfl rfl rfl) ?_;refine uAa rfl rfl rfl (uA6 rfl (fun hh=>hh) rfl rfl) ?_;refine uAa rfl rfl rfl (uAk rfl rfl (fun hh=>hh) gU rfl) ?_;refine uAa rfl rfl rfl (uAM rfl rfl gU (fun _ hi=>gP rfl hi)) ?_;refine uA7 (s:=⟨[(1,_,_),(15,_,_)],[(.l 1,_)],[],[]⟩) (uAi (⟨sx rfl,sx rfl,trivial⟩) (⟨sx rfl,trivial⟩) trivial) ?_;refine uAa rfl rfl rfl (uAd rfl gU) ?_;refine uAa rfl rfl rfl (uAg rfl gU rfl rfl) ?_;refine uAa rfl rfl rfl (uAj rfl (fun hh=>hh) rfl rfl rfl rfl) ?_;refine uAa rfl rfl rfl (uA6 rfl (fun hh=>hh) rfl rfl) ?_;refine uAa rfl rfl rfl (uAk rfl rfl (fun hh=>hh) gU rfl) ?_;refine uAa rfl rfl rfl (uAM rfl rfl gU (fun _ hi=>gP rfl hi)) ?_;refine uAa rfl rfl rfl (uAd rfl gU) ?_
 refine uAa rfl rfl rfl (uAg rfl gU rfl rfl) ?_;refine uAa rfl rfl rfl (uAj rfl (fun hh=>hh) rfl rfl rfl rfl) ?_;refine uAa rfl rfl rfl (uA6 rfl (fun hh=>hh) rfl rfl) ?_;refine uAa rfl rfl rfl (uAk rfl rfl (fun hh=>hh) gU rfl) ?_;refine uAa rfl rfl rfl (uAM rfl rfl gU (fun _ hi=>gP rfl hi)) ?_;refine uA7 (s:=⟨[(1,_,_),(27,_,_)],[(.l 1,_)],[],[]⟩) (uAi (⟨sx rfl,sx rfl,trivial⟩) (⟨sx rfl,trivial⟩) trivial) ?_;refine uAa rfl rfl rfl (uAd rfl gU) ?_;refine uAa rfl rfl rfl (uAg rfl gU rfl rfl) ?_;refine uAa rfl rfl rfl (uAj rfl (fun hh=>hh) rfl rfl rfl rfl) ?_;refine uAa rfl rfl rfl (uA6 rfl (fun hh=>hh) rfl rfl) ?_;refine uAa rfl rfl rfl (uAk rfl rfl (fun hh=>hh) gU rfl) ?_;refine uAa rfl rfl rfl (uAM rfl rfl gU (fun _ hi=>gP rfl hi)) ?_;refine uAf ?_;refine uAl (s:=⟨[(1,_,_),(33,_,_)],[(.l 1,_)],[],[]⟩) (uAi (⟨sx rfl,sx rfl,trivial⟩) (⟨sx rfl,trivial⟩) trivial) ?_;refine uAn rfl (fun hc=>?_) (fun hc=>?_)
 ·try simp only [nn,uAh,T.rows_len,Gl.rows_len,Fs.rows_len,Sp.rows_len] at hc
  refine uAe (uAb ?_);refine uAa rfl rfl rfl (uAc rfl gU) ?_;refine uAf ?_;refine uAo ?_
  repeat (first | refine tR ?_ | refine bR ?_)
  refine uAs rfl ?_ trivial
  (refine uB4 ?_; symm; unfold fewN; rw [Bool.eq_false_iff]; intro q; simp only [Bool.and_eq_true,decide_eq_true_eq] at q; omega)
 ·try simp only [nn,uAh,T.rows_len,Gl.rows_len,Fs.rows_len,Sp.rows_len] at hc
  have h16 : n.roles.length≤16∧n.fresh.length≤16∧n.tags.length≤16∧n.steps.length≤16∧n.goals.length≤16:=by omega
  have hE : fewN n=fewB (uIM n) 100 900:=by
   unfold fewN
   rw [decide_eq_true h16.1,decide_eq_true h16.2.1,decide_eq_true h16.2.2.1,decide_eq_true h16.2.2.2.1,decide_eq_true h16.2.2.2.2]; rfl
  rw [hE]
  refine uAp ?_;refine uAe (uAb ?_);refine uAt rfl (uBw (.inr rfl) rfl rfl) ?_;refine uAf ?_;refine uAe ?_;refine uAe (uAb ?_);refine uAa rfl rfl rfl (uAc rfl gU) ?_;refine uAf ?_;refine uAw ?_;refine uAW (ι:=Nat) { t:=[(1,_,_)],bx:=[(.l 1,_)],ow:=[(.t 3,_)] } (fun k=>[(4,true,xi (k : Int)),(3,true,xl ((n.steps.take k).map Sp.msg))]) (fun k=>[]) (fun k=>k≤n.steps.length) (fun k=>n.steps.length - k) (0) (by simp) (uAi (⟨sx rfl,sx rfl,sx rfl,trivial⟩) (⟨sx rfl,trivial⟩) (⟨rfl,trivial⟩)) ?_
  intro k hoka
  dsimp only [List.cons_append,List.nil_append]
  refine uAe ?_;refine uAe (uAb ?_);refine uAa rfl rfl rfl (uAd rfl gU) ?_;refine uAa rfl rfl rfl (uAg rfl gU rfl rfl) ?_;refine uAa rfl rfl rfl (uAj rfl gU rfl rfl rfl rfl) ?_;refine uAN rfl rfl rfl rfl rfl gU rfl rfl ?_ (fun hh=>by simp at hh); intro hlen;refine uAa rfl rfl rfl (uAk rfl rfl gU gU rfl) ?_;refine uAf ?_;refine uAl (s:=⟨[(1,_,_),(3,_,_),(4,_,_),(38,_,_)],[(.l 1,_)],[(.t 3,_)],[]⟩) (uAi (⟨sx rfl,sx rfl,sx rfl,sx rfl,trivial⟩) (⟨sx rfl,trivial⟩) (⟨rfl,trivial⟩)) ?_;refine uAn rfl (fun hc2=>?_) (fun hc2=>?_)
  ·try simp only [nn,uAh,T.rows_len,Gl.rows_len,Fs.rows_len,Sp.rows_len] at hc2
   have hT:=uBH (l:=n.steps) (d:=default) (k:=k) (by omega)
   refine uAp ?_;refine uAe ?_;refine uAw ?_;refine uAb ?_;refine uAt rfl (uAV (.inl rfl) rfl rfl rfl) ?_;refine uAa rfl rfl rfl (uAg rfl gU rfl rfl) ?_;refine uAa rfl rfl rfl (uAj rfl gU rfl rfl rfl rfl) ?_;refine uAa rfl rfl rfl (uAd rfl gU) ?_;refine uAa rfl rfl rfl (uAu rfl rfl gU gU rfl rfl rfl (fun hh=>Sp.rows_at (by first | omega | (simp at hh ⊢; omega)))) ?_;refine uAa rfl rfl rfl (uA2 rfl gU rfl rfl) ?_;refine uAa rfl rfl rfl (uAE rfl gU rfl rfl rfl rfl) ?_;refine uAT (xs:=[_]) rfl rfl rfl rfl rfl rfl rfl rfl rfl gU rfl ?_;refine uAt rfl (uA0 rfl rfl rfl rfl rfl rfl rfl (by first | omega | (simp only [List.length_append,List.length_singleton,T.rows_len,List.length_map,List.length_take]; omega)) (by first | omega | (simp only [List.length_append,List.length_singleton,T.rows_len,List.length_map,List.length_take]; omega))) ?_;refine uAt rfl (uAV (.inr rfl) rfl rfl rfl) ?_;refine uAf ?_;refine uAl (s:=⟨[(1,_,_),(3,_,_),(4,_,_)],[(.l 1,_)],[(.t 3,_)],[]⟩) (uAi (⟨sx rfl,sx rfl,sx rfl,trivial⟩) (⟨sx rfl,trivial⟩) (⟨rfl,trivial⟩)) ?_;refine uAb ?_;refine uAa rfl rfl rfl (uAd rfl gU) ?_;refine uAa rfl rfl rfl (uAz rfl rfl gU gU rfl (IntWalk.i64_in _ (by omega))) ?_;refine uAa rfl rfl rfl (uAc rfl gU) ?_;refine uAf ?_;refine ⟨k + 1,?_,?_,uAi (⟨⟨_,rfl,?_⟩,⟨⟨_,rfl,?_⟩,⟨sx rfl,trivial⟩⟩⟩) (⟨sx rfl,trivial⟩) (⟨rfl,trivial⟩)⟩
   all_goals (first | rfl | omega | exact tx ((uHY _ _).trans (by rw [hT,List.map_append]; rfl)))
  ·try simp only [nn,uAh,T.rows_len,Gl.rows_len,Fs.rows_len,Sp.rows_len] at hc2
   have hk : k=n.steps.length:=by omega
   subst hk
   refine uAO ?_
   repeat (first | refine uAF ?_ | refine uAG ?_ | refine uAC rfl ?_)
   refine uAe ?_;refine uAe (uAb ?_);refine uAa rfl rfl rfl (uAc rfl gU) ?_;refine uAf ?_;refine uAw ?_;refine uAW (ι:=Nat) { t:=[(1,_,_)],bx:=[(.l 1,_)],ow:=[(.t 3,_)] } (fun j=>[(5,true,xi (j : Int)),(3,true,xl (n.steps.map Sp.msg++uDn (n.goals.take j)))]) (fun j=>[]) (fun j=>j≤n.goals.length) (fun j=>n.goals.length - j) (0) (by simp) (uAi (⟨sx rfl,⟨⟨_,rfl,by simp [uDn]⟩,⟨sx rfl,trivial⟩⟩⟩) (⟨sx rfl,trivial⟩) (⟨rfl,trivial⟩)) ?_
   intro j hokb
   dsimp only [List.cons_append,List.nil_append]
   have hdl:=uLB (l:=n.goals.take j) fun g hg=>hd g (List.mem_of_mem_take hg)
   rw [List.length_take] at hdl
   refine uAe ?_;refine uAe (uAb ?_);refine uAa rfl rfl rfl (uAd rfl gU) ?_;refine uAa rfl rfl rfl (uAg rfl gU rfl rfl) ?_;refine uAa rfl rfl rfl (uAj rfl gU rfl rfl rfl rfl) ?_;refine uAN rfl rfl rfl rfl rfl gU rfl rfl ?_ (fun hh=>by simp at hh); intro hlen;refine uAa rfl rfl rfl (uAk rfl rfl gU gU rfl) ?_;refine uAf ?_;refine uAl (s:=⟨[(1,_,_),(3,_,_),(5,_,_),(54,_,_)],[(.l 1,_)],[(.t 3,_)],[]⟩) (uAi (⟨sx rfl,sx rfl,sx rfl,sx rfl,trivial⟩) (⟨sx rfl,trivial⟩) (⟨rfl,trivial⟩)) ?_;refine uAn rfl (fun hc3=>?_) (fun hc3=>?_)
   ·try simp only [nn,uAh,T.rows_len,Gl.rows_len,Fs.rows_len,Sp.rows_len] at hc3
    have hT:=uKv (l:=n.goals) (k:=j) (by omega)
    have hdj : (n.goals.getD j default).data.length≤2097152:=hd _ (by rw [List.getD_eq_getElem?_getD,List.getElem?_eq_getElem (by omega)]; exact List.getElem_mem _)
    refine uAp ?_;refine uAe ?_;refine uAw ?_;refine uAb ?_;refine uAt rfl (uAV (.inl rfl) rfl rfl rfl) ?_;refine uAa rfl rfl rfl (uAg rfl gU rfl rfl) ?_;refine uAa rfl rfl rfl (uAj rfl gU rfl rfl rfl rfl) ?_;refine uAa rfl rfl rfl (uAd rfl gU) ?_;refine uAa rfl rfl rfl (uAu rfl rfl gU gU rfl rfl rfl (fun hh=>Gl.rows_at (by first | omega | (simp at hh ⊢; omega)))) ?_;refine uAa rfl rfl rfl (uA2 rfl gU rfl rfl) ?_;refine uAa rfl rfl rfl (uAQ rfl gU rfl rfl rfl) ?_;refine uAt rfl (uA0 rfl rfl rfl rfl rfl rfl rfl (by first | omega | (simp only [List.length_append,List.length_singleton,T.rows_len,List.length_map,List.length_take]; omega)) (by first | omega | (simp only [List.length_append,List.length_singleton,T.rows_len,List.length_map,List.length_take]; omega))) ?_;refine uAt rfl (uAV (.inr rfl) rfl rfl rfl) ?_;refine uAf ?_;refine uAl (s:=⟨[(1,_,_),(3,_,_),(5,_,_)],[(.l 1,_)],[(.t 3,_)],[]⟩) (uAi (⟨sx rfl,sx rfl,sx rfl,trivial⟩) (⟨sx rfl,trivial⟩) (⟨rfl,trivial⟩)) ?_;refine uAb ?_;refine uAa rfl rfl rfl (uAd rfl gU) ?_;refine uAa rfl rfl rfl (uAz rfl rfl gU gU rfl (IntWalk.i64_in _ (by omega))) ?_;refine uAa rfl rfl rfl (uAc rfl gU) ?_;refine uAf ?_;refine ⟨j + 1,?_,?_,uAi (⟨⟨_,rfl,?_⟩,⟨⟨_,rfl,?_⟩,⟨sx rfl,trivial⟩⟩⟩) (⟨sx rfl,trivial⟩) (⟨rfl,trivial⟩)⟩
    all_goals (first | rfl | omega | exact tx ((uOy _ _).trans (by rw [hT,List.append_assoc])))
   ·try simp only [nn,uAh,T.rows_len,Gl.rows_len,Fs.rows_len,Sp.rows_len] at hc3
    have hk : j=n.goals.length:=by omega
    subst hk
    have e : n.steps.map Sp.msg++uDn (n.goals.take n.goals.length)=uIM n:=by rw [List.take_length]; rfl
    rw [e]
    refine uAO ?_
    repeat (first | refine uAF ?_ | refine uAG ?_ | refine uAC rfl ?_)
    refine uAe (uAb ?_);refine uAa rfl rfl rfl (uAd rfl gU) ?_;refine uAx rfl rfl rfl rfl rfl rfl gU gU (uMT (uIM n) 100 900 (by omega)) rfl ?_;refine uAa rfl rfl rfl (uAc rfl gU) ?_;refine uAf ?_;refine uAo ?_
    repeat (first | refine tR ?_ | refine bR ?_)
    refine uAs rfl ?_ trivial
    rfl
theorem uNM {n : Nar} (h : fewN n=true) : n.steps.length≤16∧n.goals.length≤16∧(∀ s ∈ n.steps,s.msg.size≤900000) ∧ ∀ g ∈ n.goals,T.sizes g.data≤900000:=by
 simp only [fewN,Bool.and_eq_true,decide_eq_true_eq] at h
 obtain ⟨_,h2⟩:=uKr h.2
 have h3 : T.sizes (n.steps.map Sp.msg++uDn n.goals)≤900:=by unfold uIM at h2; omega
 have happ : ∀ a b : List T,T.sizes (a++b)=T.sizes a + T.sizes b:=by
  intro a b
  induction a with
  | nil=>simp [T.sizes]
  | cons t a ih=>simp only [List.cons_append,T.sizes,ih]; omega
 rw [happ] at h3
 refine ⟨h.1.1.2,h.1.2,fun s hs=>?_,fun g hg=>?_⟩
 ·have : ∀ l : List Sp,s ∈ l→s.msg.size≤T.sizes (l.map Sp.msg):=by
   intro l hl
   induction l with
   | nil=>simp at hl
   | cons x l ih =>
    simp only [List.map_cons,T.sizes]
    rcases List.mem_cons.1 hl with q | q
    ·subst q; omega
    ·have := ih q; omega
  have := this _ hs
  omega
 ·have : ∀ l : List Gl,g ∈ l→T.sizes g.data≤T.sizes (uDn l):=by
   intro l hl
   induction l with
   | nil=>simp at hl
   | cons x l ih =>
    have e : uDn (x :: l)=x.data++uDn l:=by simp [uDn]
    rw [e,happ]
    rcases List.mem_cons.1 hl with q | q
    ·subst q; omega
    ·have := ih q; omega
  have := this _ hg
  omega
namespace T
mutual
def all : T→List T
 | mk k n s ks=>mk k n s ks :: alls ks
def alls : List T→List T
 | []=>[]
 | t :: ts=>all t++alls ts
end
end T
end Go.Proofs.YteidahabkfgfjaaGreat
namespace Go.Proofs.YteidahabkfgfjaaGreat
open Go Go.Abs
theorem uGK {R : List (List UInt8)} : ∀ (D : List (List UInt8 × Option (List UInt8))) (seen : List (List UInt8)),decA R seen D=0→seen.Nodup→(seen++D.map (·.1)).Nodup
 | [],seen,_,hs=>by simpa using hs
 | x :: r,seen,h,hs=>by
  rw [decA] at h
  split at h
  ·rename_i q; exact absurd h q
  ·rename_i q
   have q:=Decidable.not_not.1 q
   have hx : ¬ x.1 ∈ seen:=by
    intro hm
    have hc : seen.contains x.1=true:=List.contains_iff_mem.2 hm
    unfold dclE at q
    split at q
    ·simp at q
    split at q
    ·simp at q
    ·first | (rw [if_pos hc] at q; simp at q) | simp at q
   have h1 : (seen++[x.1]).Nodup:=by
    rw [List.nodup_append]
    refine ⟨hs,by simp,fun a ha b hb=>?_⟩
    rw [List.mem_singleton.1 hb]
    intro e; exact hx (e ▸ ha)
   have := uGK r (seen++[x.1]) h h1
   rw [List.append_assoc] at this
   exact this
theorem uLd {n : Nar} (h : decE n=0) : (uBa n).Nodup:=by
 have := uGK (dclL n) [] h (by simp)
 rw [List.nil_append,uGm] at this
 exact this
theorem uNE {nm : NmB} {n : Nar} (h : (chkE nm n).2=0) : narE nm n=0∧decE n=0∧useE n=(0,0):=by
 unfold chkE at h
 split at h
 ·rename_i q; exact absurd h q
 rename_i q1
 split at h
 ·rename_i q; exact absurd h q
 rename_i q2
 refine ⟨Decidable.not_not.1 q1,Decidable.not_not.1 q2,?_⟩
 unfold useE at h ⊢
 split at h
 ·rename_i q; exact absurd h q
 ·rename_i q; rw [if_neg q]; exact uJS h
theorem uIX {p : List UInt8→Bool} : ∀ {l : List (List UInt8)},0≤idxF p l→(idxF p l).toNat < l.length∧p (l.getD (idxF p l).toNat [])=true
 | [],h=>by simp [idxF] at h
 | x :: r,h=>by
  rw [idxF] at h ⊢
  by_cases hp : p x=true
  ·rw [if_pos hp] at h ⊢
   exact ⟨by simp,by simpa using hp⟩
  ·rw [if_neg hp] at h ⊢
   by_cases hn : idxF p r < 0
   ·rw [if_pos hn] at h; omega
   ·rw [if_neg hn] at h ⊢
    obtain ⟨h1,h2⟩:=uIX (p:=p) (l:=r) (by omega)
    have e : (idxF p r + 1).toNat=(idxF p r).toNat + 1:=by omega
    rw [e]
    exact ⟨by simp only [List.length_cons]; omega,by simpa using h2⟩
theorem uLZ {α : Type} {l : List α} (h : l.Nodup) {i j : Nat} {hi : i < l.length} {hj : j < l.length} (he : l[i]'hi=l[j]'hj) : i=j:=by
 have hp:=List.pairwise_iff_getElem.1 h
 rcases Nat.lt_trichotomy i j with q | q | q
 ·exact absurd he (hp i j hi hj q)
 ·exact q
 ·exact absurd he.symm (hp j i hj hi q)
theorem uJ8 {l : List (List UInt8 × Int)} {k : List UInt8} (hn : (l.map (·.1)).Nodup) (h : 0≤ixS (l.map (·.1)) k) : mapI l k=(l.map (·.2)).getD (ixS (l.map (·.1)) k).toNat 0∧(ixS (l.map (·.1)) k).toNat < l.length:=by
 obtain ⟨h1,h2⟩:=uIX (p:=fun x=>decide (k=x)) h
 generalize hj : (ixS (l.map (·.1)) k).toNat=j
 rw [show (idxF (fun x=>decide (k=x)) (l.map (·.1))).toNat=j from hj] at h1 h2
 have h2 : k=(l.map (·.1)).getD j []:=of_decide_eq_true h2
 have hlt : j < l.length:=by simpa using h1
 refine ⟨?_,hlt⟩
 have hk : (l[j]'hlt).1=k:=by rw [h2,List.getD_eq_getElem?_getD,List.getElem?_map,List.getElem?_eq_getElem hlt]; rfl
 have hsome : (l.reverse.find? fun x=>decide (x.1=k)).isSome=true:=by
  rw [List.find?_isSome]
  exact ⟨l[j],by simp,decide_eq_true hk⟩
 obtain ⟨e,he⟩:=Option.isSome_iff_exists.1 hsome
 have he1 : e.1=k:=of_decide_eq_true (List.find?_some (p:=fun x : List UInt8 × Int=>decide (x.1=k)) he)
 have he2 : e ∈ l:=by simpa using List.mem_of_find?_eq_some he
 obtain ⟨i,hi,hie⟩:=List.mem_iff_getElem.1 he2
 have hij : i=j:=by
  have h3 : (l.map (·.1))[i]'(by simpa using hi)=(l.map (·.1))[j]'(by simpa using hlt):=by
   rw [List.getElem_map,List.getElem_map,hie,he1,hk]
  exact uLZ hn h3
 subst hij
 rw [mapI,he,List.getD_eq_getElem?_getD,List.getElem?_map,List.getElem?_eq_getElem hi,hie]
 first | done | rfl
theorem uJX (n : Nar) (s : List UInt8) (hs : ∀ s ∈ n.steps,s.msg.size≤900000) (hg : ∀ g ∈ n.goals,T.sizes g.data≤900000) : Ctr sys 19 [xn n,xs s] [] (xii (uFX n s)) none []:=by
 refine uAA Tryz.func19 rfl rfl rfl rfl rfl rfl ?_;refine uAe (uAb ?_);refine uAt rfl (uAI rfl rfl rfl rfl) ?_;refine uAa rfl rfl rfl (uAc rfl gU) ?_;refine uAa rfl rfl rfl (uAc rfl gU) ?_;refine uAf ?_;refine uAe ?_;refine uAe (uAb ?_);refine uAa rfl rfl rfl (uAm rfl gU rfl rfl rfl rfl rfl) ?_;refine uAx rfl rfl rfl rfl rfl rfl gU gU (uFV n hs hg) rfl ?_;refine uAa rfl rfl rfl (uAd rfl gU) ?_;refine uAa rfl rfl rfl (uAr rfl gU rfl) ?_;refine uAa rfl rfl rfl (uAr rfl gU rfl) ?_;refine uAa rfl rfl rfl (uAc rfl gU) ?_;refine uAa rfl rfl rfl (uAc rfl gU) ?_;refine uAf ?_;refine uAl (s:=⟨[(1,_,_),(2,_,_),(7,_,_)],[(.l 2,_)],[],[]⟩) (uAi (⟨sx rfl,sx rfl,sx rfl,trivial⟩) (⟨sx rfl,trivial⟩) trivial) ?_;refine uAe (uAb ?_);refine uAa rfl rfl rfl (uAd rfl gU) ?_;refine uAa rfl rfl rfl (uAk rfl rfl gU gU rfl) ?_;refine uAf ?_;refine uAn rfl (fun hc=>?_) (fun hc=>?_)
 ·try simp only [nn,uAh,uAB,T.rows_len,Gl.rows_len,Fs.rows_len,Sp.rows_len] at hc
  refine uAe (uAb ?_);refine uAa rfl rfl rfl (uAd rfl gU) ?_;refine uAa rfl rfl rfl (uAc rfl gU) ?_;refine uAa rfl rfl rfl (uAc rfl gU) ?_;refine uAf ?_;refine uAo ?_
  repeat (first | refine tR ?_ | refine bR ?_)
  refine uAs rfl ?_ trivial
  (rw [uFX,if_pos hc]; rfl)
 ·try simp only [nn,uAh,uAB,T.rows_len,Gl.rows_len,Fs.rows_len,Sp.rows_len] at hc
  obtain ⟨c1,c2,c3⟩:=uNE (n:=n) hc
  have hok:=uIf (n:=n) c1
  have b1:=hok.r2
  have b2:=hok.f2
  have b3:=hok.t2
  have hnd:=uLd c2
  have hsl : (srtL n).length=(nmsL n).length:=by simp [srtL]
  rw [uFX,if_neg (by simpa using hc)]
  refine uAp ?_;refine uAe (uAb ?_);refine uAa rfl rfl rfl (uAm rfl gU rfl rfl rfl rfl rfl) ?_;refine uAx rfl rfl rfl rfl rfl rfl gU gU (uEf n (by omega) (by omega) (by omega)) rfl ?_;refine uAa rfl rfl rfl (uAd rfl gU) ?_;refine uAa rfl rfl rfl (uAr rfl gU rfl) ?_;refine uAa rfl rfl rfl (uAr rfl gU rfl) ?_;refine uAa rfl rfl rfl (uAc rfl gU) ?_;refine uAa rfl rfl rfl (uAc rfl gU) ?_;refine uAf ?_;refine uAl (s:=⟨[(1,_,_),(8,_,_),(9,_,_)],[],[],[]⟩) (uAi (⟨sx rfl,sx rfl,sx rfl,trivial⟩) trivial trivial) ?_;refine uAe (uAb ?_);refine uAa rfl rfl rfl (uAd rfl gU) ?_;refine uAa rfl rfl rfl (uAd rfl gU) ?_;refine uAx rfl rfl rfl rfl rfl rfl gU gU (uCm _ _) rfl ?_;refine uAa rfl rfl rfl (uAc rfl gU) ?_;refine uAf ?_;refine uAe ?_;refine uAe (uAb ?_);refine uAa rfl rfl rfl (uAd rfl gU) ?_;refine uAa rfl rfl rfl (uAk rfl rfl gU gU rfl) ?_;refine uAf ?_;refine uAl (s:=⟨[(9,_,_),(10,_,_),(28,_,_)],[],[],[]⟩) (uAi (⟨sx rfl,sx rfl,sx rfl,trivial⟩) trivial trivial) ?_;refine uAn rfl (fun hc2=>?_) (fun hc2=>?_)
  ·try simp only [nn,uAh,uAB,T.rows_len,Gl.rows_len,Fs.rows_len,Sp.rows_len] at hc2
   have h2:=(uCy _ _).1 hc2
   rw [if_neg (by rw [h2]; simp)]
   refine uAe (uAb ?_);refine uAa rfl rfl rfl (uAc rfl gU) ?_;refine uAa rfl rfl rfl (uAc rfl gU) ?_;refine uAf ?_;refine uAo ?_
   repeat (first | refine tR ?_ | refine bR ?_)
   refine uAs rfl ?_ trivial
   rfl
  ·try simp only [nn,uAh,uAB,T.rows_len,Gl.rows_len,Fs.rows_len,Sp.rows_len] at hc2
   have h2:=(uDW (uBa n) s).1 (by omega)
   have h0 : 0≤ixS (uBa n) s:=by omega
   obtain ⟨m1,m2⟩:=uJ8 (l:=nmsL n) (k:=s) hnd h0
   have m3 : (ixS (uBa n) s).toNat < (srtL n).length:=by rw [hsl]; exact m2
   have m4 : mapI (nmsL n) s=(srtL n).getD (ixS (uBa n) s).toNat 0:=m1
   rw [if_pos h2,m4]
   refine uAp ?_;refine uAe (uAb ?_);refine uAa rfl rfl rfl (uAd rfl gU) ?_;refine uAa rfl rfl rfl (uAd rfl gU) ?_;refine uAa rfl rfl rfl (uAu (j:=(ixS (uBa n) s).toNat) rfl rfl gU gU rfl rfl (by first | omega | (simp at hh ⊢; omega)) (fun hh=>uH5 (by first | omega | (simp at hh ⊢; omega)))) ?_;refine uAa rfl rfl rfl (uAQ rfl gU rfl rfl rfl) ?_;refine uAa rfl rfl rfl (uAc rfl gU) ?_;refine uAa rfl rfl rfl (uAc rfl gU) ?_;refine uAf ?_;refine uAo ?_
   repeat (first | refine tR ?_ | refine bR ?_)
   refine uAs rfl ?_ trivial
   rfl
theorem uKk (n : Nar) (s : List UInt8) (hs : ∀ s ∈ n.steps,s.msg.size≤900000) (hg : ∀ g ∈ n.goals,T.sizes g.data≤900000) : Ctr sys 21 [xn n,xs s] [] (xii (uHp n s)) none []:=by
 refine uAA Tryz.func21 rfl rfl rfl rfl rfl rfl ?_;refine uAe (uAb ?_);refine uAt rfl (uAI rfl rfl rfl rfl) ?_;refine uAa rfl rfl rfl (uAc rfl gU) ?_;refine uAa rfl rfl rfl (uAc rfl gU) ?_;refine uAf ?_;refine uAe ?_;refine uAe (uAb ?_);refine uAa rfl rfl rfl (uAm rfl gU rfl rfl rfl rfl rfl) ?_;refine uAx rfl rfl rfl rfl rfl rfl gU gU (uFV n hs hg) rfl ?_;refine uAa rfl rfl rfl (uAd rfl gU) ?_;refine uAa rfl rfl rfl (uAr rfl gU rfl) ?_;refine uAa rfl rfl rfl (uAr rfl gU rfl) ?_;refine uAa rfl rfl rfl (uAc rfl gU) ?_;refine uAa rfl rfl rfl (uAc rfl gU) ?_;refine uAf ?_;refine uAl (s:=⟨[(1,_,_),(2,_,_),(7,_,_)],[(.l 2,_)],[],[]⟩) (uAi (⟨sx rfl,sx rfl,sx rfl,trivial⟩) (⟨sx rfl,trivial⟩) trivial) ?_;refine uAe (uAb ?_);refine uAa rfl rfl rfl (uAd rfl gU) ?_;refine uAa rfl rfl rfl (uAk rfl rfl gU gU rfl) ?_;refine uAf ?_;refine uAn rfl (fun hc=>?_) (fun hc=>?_)
 ·try simp only [nn,uAh,uAB,T.rows_len,Gl.rows_len,Fs.rows_len,Sp.rows_len] at hc
  refine uAe (uAb ?_);refine uAa rfl rfl rfl (uAd rfl gU) ?_;refine uAa rfl rfl rfl (uAc rfl gU) ?_;refine uAa rfl rfl rfl (uAc rfl gU) ?_;refine uAf ?_;refine uAo ?_
  repeat (first | refine tR ?_ | refine bR ?_)
  refine uAs rfl ?_ trivial
  (rw [uHp,if_pos hc]; rfl)
 ·try simp only [nn,uAh,uAB,T.rows_len,Gl.rows_len,Fs.rows_len,Sp.rows_len] at hc
  rw [uHp,if_neg (by simpa using hc)]
  refine uAp ?_;refine uAe (uAb ?_);refine uAa rfl rfl rfl (uAg rfl gU rfl rfl) ?_;refine uAa rfl rfl rfl (uAj rfl gU rfl rfl rfl rfl) ?_;refine uAa rfl rfl rfl (uAd rfl gU) ?_;refine uAx rfl rfl rfl rfl rfl rfl gU gU (uCm _ _) rfl ?_;refine uAa rfl rfl rfl (uAc rfl gU) ?_;refine uAf ?_;refine uAl (s:=⟨[(8,_,_)],[],[],[]⟩) (uAi (⟨sx rfl,trivial⟩) trivial trivial) ?_;refine uAe ?_;refine uAe (uAb ?_);refine uAa rfl rfl rfl (uAd rfl gU) ?_;refine uAa rfl rfl rfl (uAk rfl rfl gU gU rfl) ?_;refine uAf ?_;refine uAn rfl (fun hc2=>?_) (fun hc2=>?_)
  ·try simp only [nn,uAh,uAB,T.rows_len,Gl.rows_len,Fs.rows_len,Sp.rows_len] at hc2
   have h2:=(uCy _ _).1 hc2
   rw [if_neg (by rw [h2]; simp)]
   refine uAe (uAb ?_);refine uAa rfl rfl rfl (uAc rfl gU) ?_;refine uAa rfl rfl rfl (uAc rfl gU) ?_;refine uAf ?_;refine uAo ?_
   repeat (first | refine tR ?_ | refine bR ?_)
   refine uAs rfl ?_ trivial
   rfl
  ·try simp only [nn,uAh,uAB,T.rows_len,Gl.rows_len,Fs.rows_len,Sp.rows_len] at hc2
   have h2:=(uDW n.roles s).1 (by omega)
   rw [if_pos h2]
   refine uAp ?_;refine uAe (uAb ?_);refine uAa rfl rfl rfl (uAd rfl gU) ?_;refine uAa rfl rfl rfl (uAc rfl gU) ?_;refine uAa rfl rfl rfl (uAc rfl gU) ?_;refine uAf ?_;refine uAo ?_
   repeat (first | refine tR ?_ | refine bR ?_)
   refine uAs rfl ?_ trivial
   rfl
end Go.Proofs.YteidahabkfgfjaaGreat
namespace Go.Proofs.YteidahabkfgfjaaGreat
open Go Go.Abs
def hasB (l : List T) (u : T) : Bool:=l.any fun x=>x.cmp u == 0
theorem uF6 (n : Nar) (s : List UInt8) (hd : ∀ g ∈ n.goals,g.data.length≤2097152) : Ctr sys 5 [xn n,xs s] [] (xb true) none []:=by
 refine uAA Tryz.func5 rfl rfl rfl rfl rfl rfl ?_;refine uAe (uAb ?_);refine uAt rfl (uAI rfl rfl rfl rfl) ?_;refine uAa rfl rfl rfl (uAc rfl gU) ?_;refine uAf ?_;refine uAe ?_;refine uAe (uAb ?_);refine uAx rfl rfl rfl rfl rfl rfl gU gU (uGn) rfl ?_;refine uAa rfl rfl rfl (uAZ rfl gU) ?_;refine uAa rfl rfl rfl (uAd rfl gU) ?_;refine uAa rfl rfl rfl (uAm rfl gU rfl rfl rfl rfl rfl) ?_;refine uAx rfl rfl rfl rfl rfl rfl gU (fun hh=>gA ((fun hh=>hh) hh) (rfl)) (uKa n hd) rfl ?_;refine uAa rfl rfl rfl (uAZ rfl (fun hh=>hh)) ?_;refine uAa rfl rfl rfl (uAM rfl rfl gU (fun _ hi=>gP rfl hi)) ?_;refine uAf ?_;refine uAl (s:=⟨[(1,_,_),(2,_,_),(19,_,_)],[(.l 2,_)],[],[]⟩) (uAi (⟨sx rfl,sx rfl,sx rfl,trivial⟩) (⟨sx rfl,trivial⟩) trivial) ?_;refine uAn rfl (fun hc=>?_) (fun hc=>?_)
 ·refine uAe (uAb ?_)
  refine uAx rfl rfl rfl rfl rfl rfl gU gU (uGn) rfl ?_;refine uAa rfl rfl rfl (uAc rfl gU) ?_;refine uAf ?_;refine uAo ?_
  repeat (first | refine tR ?_ | refine bR ?_)
  refine uAs rfl ?_ trivial
  rfl
 ·try simp only [nn,uAh,uAB,T.rows_len,Gl.rows_len,Fs.rows_len,Sp.rows_len] at hc
  obtain ⟨p1,p2,p3,p4⟩:=uNM (n:=n) (by simpa using hc)
  refine uAp ?_;refine uAe (uAb ?_);refine uAa rfl rfl rfl (uAm rfl gU rfl rfl rfl rfl rfl) ?_;refine uAa rfl rfl rfl (uAd rfl gU) ?_;refine uAx rfl rfl rfl rfl rfl rfl gU gU (uEM n s p3 p4) rfl ?_;refine uAa rfl rfl rfl (uAd rfl gU) ?_;refine uAa rfl rfl rfl (uAr rfl gU rfl) ?_;refine uAa rfl rfl rfl (uAr rfl gU rfl) ?_;refine uAa rfl rfl rfl (uAc rfl gU) ?_;refine uAa rfl rfl rfl (uAc rfl gU) ?_;refine uAf ?_;refine uAl (s:=⟨[(1,_,_),(2,_,_),(5,_,_),(6,_,_)],[(.l 2,_)],[],[]⟩) (uAi (⟨sx rfl,sx rfl,sx rfl,sx rfl,trivial⟩) (⟨sx rfl,trivial⟩) trivial) ?_;refine uAe (uAb ?_);refine uAa rfl rfl rfl (uAm rfl gU rfl rfl rfl rfl rfl) ?_;refine uAa rfl rfl rfl (uAd rfl gU) ?_;refine uAx rfl rfl rfl rfl rfl rfl gU gU (uJX n s p3 p4) rfl ?_;refine uAa rfl rfl rfl (uAd rfl gU) ?_;refine uAa rfl rfl rfl (uAr rfl gU rfl) ?_;refine uAa rfl rfl rfl (uAr rfl gU rfl) ?_;refine uAa rfl rfl rfl (uAc rfl gU) ?_;refine uAa rfl rfl rfl (uAc rfl gU) ?_;refine uAf ?_;refine uAl (s:=⟨[(1,_,_),(2,_,_),(5,_,_),(6,_,_),(7,_,_),(8,_,_)],[(.l 2,_)],[],[]⟩) (uAi (⟨sx rfl,sx rfl,sx rfl,sx rfl,sx rfl,sx rfl,trivial⟩) (⟨sx rfl,trivial⟩) trivial) ?_;refine uAe (uAb ?_)
  refine uAa rfl rfl rfl (uAm rfl gU rfl rfl rfl rfl rfl) ?_;refine uAa rfl rfl rfl (uAd rfl gU) ?_;refine uAx rfl rfl rfl rfl rfl rfl gU gU (uKp n s p3 p4) rfl ?_;refine uAa rfl rfl rfl (uAd rfl gU) ?_;refine uAa rfl rfl rfl (uAr rfl gU rfl) ?_;refine uAa rfl rfl rfl (uAr rfl gU rfl) ?_;refine uAa rfl rfl rfl (uAc rfl gU) ?_;refine uAa rfl rfl rfl (uAc rfl gU) ?_;refine uAf ?_;refine uAl (s:=⟨[(1,_,_),(2,_,_),(5,_,_),(6,_,_),(7,_,_),(8,_,_),(9,_,_),(10,_,_)],[(.l 2,_)],[],[]⟩) (uAi (⟨sx rfl,sx rfl,sx rfl,sx rfl,sx rfl,sx rfl,sx rfl,sx rfl,trivial⟩) (⟨sx rfl,trivial⟩) trivial) ?_;refine uAe (uAb ?_);refine uAa rfl rfl rfl (uAm rfl gU rfl rfl rfl rfl rfl) ?_;refine uAa rfl rfl rfl (uAd rfl gU) ?_;refine uAx rfl rfl rfl rfl rfl rfl gU gU (uKk n s p3 p4) rfl ?_;refine uAa rfl rfl rfl (uAd rfl gU) ?_;refine uAa rfl rfl rfl (uAr rfl gU rfl) ?_;refine uAa rfl rfl rfl (uAr rfl gU rfl) ?_;refine uAa rfl rfl rfl (uAc rfl gU) ?_;refine uAa rfl rfl rfl (uAc rfl gU) ?_;refine uAf ?_;refine uAl (s:=⟨[(5,_,_),(6,_,_),(7,_,_),(8,_,_),(9,_,_),(10,_,_),(11,_,_),(12,_,_)],[],[],[]⟩) (uAi (⟨sx rfl,sx rfl,sx rfl,sx rfl,sx rfl,sx rfl,sx rfl,sx rfl,trivial⟩) trivial trivial) ?_
  refine uAe (uAb ?_);refine uAa rfl rfl rfl (uAd rfl gU) ?_;refine uAa rfl rfl rfl (uAd rfl gU) ?_;refine uAa rfl rfl rfl (uAk rfl rfl gU gU rfl) ?_;refine uAa rfl rfl rfl (uAd rfl gU) ?_;refine uAa rfl rfl rfl (uAd rfl gU) ?_;refine uAa rfl rfl rfl (uAd rfl gU) ?_;refine uAa rfl rfl rfl (uAk rfl rfl (fun hh=>hh) (fun hh=>hh) rfl) ?_;refine uAa rfl rfl rfl (uAH rfl rfl gU (fun _ hi=>gP rfl hi)) ?_;refine uAa rfl rfl rfl (uAd rfl gU) ?_;refine uAa rfl rfl rfl (uAd rfl gU) ?_;refine uAa rfl rfl rfl (uAd rfl gU) ?_;refine uAa rfl rfl rfl (uAk rfl rfl (fun hh=>hh) (fun hh=>hh) rfl) ?_;refine uA7 (s:=⟨[(10,_,_),(12,_,_),(53,_,_),(56,_,_)],[],[],[]⟩) (uAi (⟨sx rfl,sx rfl,sx rfl,sx rfl,trivial⟩) trivial trivial) ?_;refine uAa rfl rfl rfl (uAH rfl rfl gU (fun _ hi=>gP rfl hi)) ?_;refine uAa rfl rfl rfl (uAd rfl gU) ?_;refine uAa rfl rfl rfl (uAd rfl gU) ?_;refine uAa rfl rfl rfl (uAd rfl gU) ?_;refine uAa rfl rfl rfl (uAk rfl rfl (fun hh=>hh) (fun hh=>hh) rfl) ?_;refine uAa rfl rfl rfl (uAH rfl rfl gU (fun _ hi=>gP rfl hi)) ?_;refine uAa rfl rfl rfl (uAc rfl gU) ?_;refine uAf ?_;refine uAo ?_
  repeat (first | refine tR ?_ | refine bR ?_)
  refine uAs rfl ?_ trivial;refine uB4 ?_
  simp
end Go.Proofs.YteidahabkfgfjaaGreat
namespace Go.Abs
def uBd (P : Program) (M : Nat) : Nat→TypeId→List C→Prop
 | 0,_,_=>False
 | n + 1,t,cs=>match P.underlying t with
  | some .bool=>∃ x,cs=[.b x]
  | some (.int k)=>∃ m,cs=[.i k m]∧(Lit.int k m).wf=true
  | some .string=>∃ l,cs=[.s l]∧l.length≤M
  | some (.slice e)=>∃ es,cs=[.sl (P.cellsOf e) es]∧es.length≤M ∧ ∀ row,row ∈ es→uBd P M n e row
  | some (.struct fs)=>uF2 (uBd P M n) fs.toList cs
  | some (.array m e)=>hasN (uBd P M n e) m cs
  | _=>False
section
variable {H : Type} {enc : TypeId × Value→H} {P : Program} {L : List TypeId} {w : World}
structure Bnd (P : Program) (L : List TypeId) (M : Nat) (B : TypeId→DataW H→Prop) : Prop where
 str : ∀ {t : TypeId} {s : List UInt8},P.underlying t=some .string→B t (.lit (.string s))→s.length≤M
 sl : ∀ {t e : TypeId} {es sp : List (DataW H)},t ∈ L→P.underlying t=some (.slice e)→B t (.slice es sp)→es.length≤M ∧ ∀ x ∈ es,B e x
 st : ∀ {t : TypeId} {fs : Array Field} {ps : List (DataW H)},P.underlying t=some (.struct fs)→B t (.agg ps) → ∀ (j : Nat) (f : Field) (x : DataW H),fs.toList[j]? = some f→ps[j]? = some x→B f.type x
 arr : ∀ {t e : TypeId} {n : Nat} {ps : List (DataW H)},P.underlying t=some (.array n e)→B t (.agg ps) → ∀ x ∈ ps,B e x
theorem uFJ {M : Nat} {B : TypeId→DataW H→Prop} (hB : Bnd P L M B) (hL : uGd P L=true) : ∀ (fuel : Nat) (t : TypeId) (vs : List Value) (d : DataW H) (p : List MemPlace),t ∈ L→B t d →
  DataW.trod enc P w 0 (fun _=>true) true fuel t vs=some (d,p) → ∃ cs,uBd P M fuel t cs∧All2 (CRep w (topG w).S) cs vs∧cs.length=P.cellsOf t
 | 0,t,vs,d,p,_,_,h=>by simp [DataW.trod] at h
 | fuel + 1,t,vs,d,p,ht,hbd,h=>by
  have IH:=uFJ hB hL fuel
  have hc:=List.all_eq_true.1 hL t ht
  unfold DataW.trod at h
  split at h
  ·rename_i b hu
   simp only [hu,beq_iff_eq] at hc
   exact ⟨[.b b],by simp only [uBd,hu]; exact ⟨_,rfl⟩,⟨.b b,trivial⟩,hc.symm⟩
  ·rename_i k k' n hu
   simp only [hu,beq_iff_eq] at hc
   split at h
   ·rename_i hk
    obtain ⟨rfl,hwf⟩:=hk
    exact ⟨[.i k' n],by simp only [uBd,hu]; exact ⟨n,rfl,hwf⟩,⟨.i _ n,trivial⟩,hc.symm⟩
   ·simp at h
  ·rename_i hu; simp only [hu] at hc; simp at hc
  ·rename_i s hu
   simp only [hu,beq_iff_eq] at hc
   split at h
   ·rename_i hs
    have hs' : s.data.toList.length≤9223372036854775807:=by
     have h1 : s.data.toList.length=s.size:=rfl
     have h2 : maxLen=9223372036854775807:=by decide
     omega
    simp only [Option.some.injEq,Prod.mk.injEq] at h
    obtain ⟨rfl,_⟩:=h
    refine ⟨[.s s.data.toList],by simp only [uBd,hu]; exact ⟨_,rfl,hB.str hu hbd⟩,⟨?_,trivial⟩,hc.symm⟩
    have := CRep.s (w := w) (S := (topG w).S) s.data.toList hs'
    rwa [uKX] at this
   ·simp at h
  ·rename_i hu; simp only [hu] at hc; simp at hc
  ·rename_i hu; simp only [hu] at hc; simp at hc
  ·rename_i e hu
   simp only [hu,Bool.and_eq_true,beq_iff_eq] at hc
   exact ⟨[.sl (P.cellsOf e) []],by simp [uBd,hu],⟨.nil _,trivial⟩,hc.1.1.symm⟩
  ·rename_i e a len cap hu
   simp only [hu,Bool.and_eq_true,beq_iff_eq,decide_eq_true_eq,bne_iff_ne] at hc
   obtain ⟨⟨hc1,heL⟩,hsz0⟩:=hc
   simp only at h
   split at h
   ·rename_i hb
    obtain ⟨_,hlc,hcm⟩:=hb
    have hmax : len≤9223372036854775807:=by
     have h2 : maxLen=9223372036854775807:=by decide
     omega
    simp only [Option.bind_eq_some_iff,if_true,Option.map_eq_some_iff] at h
    obtain ⟨elems,h1,rest,h2,hd⟩:=h
    simp only [Prod.mk.injEq] at hd
    obtain ⟨rfl,_⟩:=hd
    have hbs:=hB.sl ht hu hbd
    have hel0 : ∀ i,i < len → ∃ ci y,w.cells? 0 (a.add (i * P.cellsOf e)) (P.cellsOf e)=some ci∧DataW.trod enc P w 0 (fun _=>true) true fuel e ci=some y∧B e y.1:=by
     intro i hil
     obtain ⟨y,hy,hy2⟩:=uGb h1 (i:=i) (x:=i) (by simp [hil])
     simp only [Option.bind_eq_some_iff] at hy
     obtain ⟨ci,q1,q2⟩:=hy
     exact ⟨ci,y,q1,q2,hbs.2 _ (List.mem_map.2 ⟨y,List.mem_of_getElem? hy2,rfl⟩)⟩
    have hlen0 : elems.length=len := by have := Go.mapM_some_length h1; simpa using this
    have hel : ∀ i,i < cap → ∃ ci y,w.cells? 0 (a.add (i * P.cellsOf e)) (P.cellsOf e)=some ci∧DataW.trod enc P w 0 (fun _=>true) true fuel e ci=some y:=by
     intro i hi
     by_cases hil : i < len
     ·obtain ⟨y,hy,_⟩:=uGb h1 (i:=i) (x:=i) (by simp [hil])
      simp only [Option.bind_eq_some_iff] at hy
      obtain ⟨ci,q1,q2⟩:=hy
      exact ⟨ci,y,q1,q2⟩
     ·obtain ⟨y,hy,_⟩:=uGb h2 (i:=i - len) (x:=i - len) (by simp [show i - len < cap - len by omega])
      rw [show len + (i - len)=i by omega] at hy
      simp only [Option.bind_eq_some_iff] at hy
      obtain ⟨ci,q1,q2⟩:=hy
      exact ⟨ci,y,q1,q2⟩
    have hspot : cap≠0→a.spot=none:=by
     intro h0
     obtain ⟨ci,y,q1,_⟩:=hel 0 (by omega)
     obtain ⟨q3,q4⟩:=uJK q1
     have hlt : 0 < ci.length:=by omega
     have := q4 0 _ (List.getElem?_eq_getElem hlt)
     simpa [Addr.add] using World.cell?_spot this
    obtain ⟨es,hesl,hes⟩:=uCR (R:=fun i row=>uBd P M fuel e row∧row.length=P.cellsOf e∧RowAt w (topG w).S a.block (a.off + i * P.cellsOf e) row) len (by
     intro i hi
     obtain ⟨ci,⟨y1,y2⟩,q1,q2,q3⟩:=hel0 i (by omega)
     obtain ⟨row,r1,r2,r3⟩:=IH e ci y1 y2 heL q3 q2
     refine ⟨row,r1,r3,fun j c hj=>?_⟩
     obtain ⟨v,hv,hrep⟩:=r2.get j c hj
     have hcell:=(uJK q1).2 j v hv
     have hsp:=hspot (by omega)
     obtain ⟨b,o,sp⟩:=a
     simp only at hsp
     subst hsp
     rw [uNW] at hcell
     exact ⟨uOm (World.block_lt_of_cell? w ⟨b,o + i * P.cellsOf e + j,none⟩ hcell),v,hcell,hrep⟩)
    refine ⟨[.sl (P.cellsOf e) es],?_,⟨?_,trivial⟩,hc1.symm⟩
    ·simp only [uBd,hu]
     refine ⟨es,rfl,by have := hbs.1; rw [List.length_map] at this; omega,fun row hr=>?_⟩
     obtain ⟨i,hi⟩:=List.getElem?_of_mem hr
     exact (hes i row hi).1
    ·exact CRep.mk_any hesl hlc hmax hspot fun i row hi=>(hes i row hi).2
   ·simp at h
  ·rename_i vs _ _ fs hu
   simp only [hu,beq_iff_eq] at hc
   split at h
   ·rename_i hlen
    simp only [Option.map_eq_some_iff] at h
    obtain ⟨xs,hxs,hd⟩:=h
    simp only [Prod.mk.injEq] at hd
    obtain ⟨rfl,_⟩:=hd
    have hbs:=hB.st hu hbd
    have key : ∀ (fs : List Field) (off : Nat) (xs : List (DataW H × List MemPlace)),uFO P L fs off=some (P.cellsOf t) →
      (fs.mapM fun f=>DataW.trod enc P w 0 (fun _=>true) true fuel f.type ((vs.drop f.offset).take (P.cellsOf f.type)))=some xs→(∀ (j : Nat) (f : Field) (x : DataW H),fs[j]? = some f→(xs.map (·.1))[j]? = some x→B f.type x) →
      ∃ cs,uF2 (uBd P M fuel) fs cs∧All2 (CRep w (topG w).S) cs (vs.drop off)∧cs.length=P.cellsOf t - off:=by
     intro fs
     induction fs with
     | nil =>
      intro off xs hf _ _
      simp only [uFO,Option.some.injEq] at hf
      refine ⟨[],rfl,?_,by simp; omega⟩
      rw [List.drop_eq_nil_of_le (by omega)]
      trivial
     | cons f r ih =>
      intro off xs hf hm hbb
      simp only [uFO] at hf
      split at hf
      ·rename_i hfo
       obtain ⟨rfl,hfL⟩:=hfo
       simp only [List.mapM_cons,Option.bind_eq_bind,Option.bind_eq_some_iff] at hm
       obtain ⟨⟨y1,y2⟩,hy,ys,hys,hxs2⟩:=hm
       have hxs2 : (y1,y2) :: ys=xs:=by simpa using hxs2
       subst hxs2
       obtain ⟨a,a1,a2,a3⟩:=IH _ _ _ _ hfL (hbb 0 f y1 rfl rfl) hy
       obtain ⟨b,b1,b2,b3⟩:=ih _ _ hf hys (fun j f x h1 h2=>hbb (j + 1) f x (by simpa using h1) (by simpa using h2))
       have hle:=uIY hf
       refine ⟨a++b,⟨a,b,rfl,a1,b1⟩,?_,by simp; omega⟩
       have := a2.append b2
       rwa [← List.drop_drop,List.take_append_drop] at this
      ·simp at hf
    obtain ⟨cs,c1,c2,c3⟩:=key fs.toList 0 xs hc hxs hbs
    exact ⟨cs,by simp only [uBd,hu]; exact c1,by simpa using c2,by simpa using c3⟩
   ·simp at h
  ·rename_i vs _ _ n e hu
   simp only [hu,Bool.and_eq_true,beq_iff_eq,decide_eq_true_eq] at hc
   obtain ⟨heL,hct⟩:=hc
   split at h
   ·rename_i hlen
    simp only [Option.map_eq_some_iff] at h
    obtain ⟨xs,hxs,hd⟩:=h
    simp only [Prod.mk.injEq] at hd
    obtain ⟨rfl,_⟩:=hd
    have hbs:=hB.arr hu hbd
    have key : ∀ (m k : Nat),k + m=n → ∃ cs,hasN (uBd P M fuel e) m cs∧All2 (CRep w (topG w).S) cs (vs.drop (k * P.cellsOf e))∧cs.length=m * P.cellsOf e:=by
     intro m
     induction m with
     | zero =>
      intro k hk
      refine ⟨[],rfl,?_,by simp⟩
      have : k=n:=by omega
      subst this
      rw [List.drop_eq_nil_of_le (by omega)]
      trivial
     | succ m ih =>
      intro k hk
      obtain ⟨⟨y1,y2⟩,hy,hy2⟩:=uGb hxs (i:=k) (x:=k) (by simp [show k < n by omega])
      obtain ⟨a,a1,a2,a3⟩:=IH _ _ _ _ heL (hbs _ (List.mem_map.2 ⟨(y1,y2),List.mem_of_getElem? hy2,rfl⟩)) hy
      obtain ⟨b,b1,b2,b3⟩:=ih (k + 1) (by omega)
      refine ⟨a++b,⟨a,b,rfl,a1,b1⟩,?_,by simp [a3,b3,Nat.succ_mul]; omega⟩
      have := a2.append b2
      rwa [Nat.succ_mul,← List.drop_drop,List.take_append_drop] at this
    obtain ⟨cs,c1,c2,c3⟩:=key n 0 (by omega)
    exact ⟨cs,by simp only [uBd,hu]; exact c1,by simpa using c2,by rw [c3,hct]⟩
   ·simp at h
  all_goals first | (rename_i hu; simp only [hu] at hc; simp at hc) | (simp at h) | trace_state
theorem uMt {M : Nat} {B : TypeId→DataW H→Prop} (hB : Bnd P L M B) (hL : uGd P L=true) {t : TypeId} {v : Value} {base : Nat} {d : TypeDesc} {x : DataW H} {p : List MemPlace} (ht : t ∈ L) (hd : P.underlying t=some d) (hp : uKx d=true) (hok : Value.okWide P w .any base t v)
  (hbd : B t x) (h : DataW.Trod enc P w 0 (fun _=>true) true t v x p) : ∃ n c,uBd P M n t [c]∧XRep w (topG w) (.v (.c c)) v:=by
 obtain ⟨n,hn⟩:=h
 rw [uFv (uIj hd hp hok)] at hn
 obtain ⟨cs,h1,h2,_⟩:=uFJ hB hL n t _ _ _ ht hbd hn
 match cs,h2 with
 | [c],h2=>exact ⟨n,c,h1,h2.1⟩
theorem uMc {M : Nat} {B : TypeId→DataW H→Prop} (hB : Bnd P L M B) (hL : uGd P L=true) {t : TypeId} {v : Value} {base : Nat} {d : TypeDesc} {x : DataW H} {p : List MemPlace} (ht : t ∈ L) (hd : P.underlying t=some d) (hp : rowD d=true) (hok : Value.okWide P w .any base t v)
  (hbd : B t x) (h : DataW.Trod enc P w 0 (fun _=>true) true t v x p) : ∃ n cs,uBd P M n t cs∧XRep w (topG w) (.v (.agg cs)) v:=by
 obtain ⟨n,hn⟩:=h
 obtain ⟨vs,rfl⟩:=uJW hd hp hok
 obtain ⟨cs,h1,h2,_⟩:=uFJ hB hL n t _ _ _ ht hbd hn
 exact ⟨n,cs,h1,vs.toList,by simp,by simpa [Value.cells] using h2⟩
end
end Go.Abs
namespace Go.Proofs.YteidahabkfgfjaaGreat
open Go Go.Abs
theorem uCR {α : Type} {f : α→List C} {R : List C→Prop} (h : ∀ row,R row → ∃ t : α,row=f t) : ∀ es : List (List C),(∀ row,row ∈ es→R row) → ∃ ts : List α,es=ts.map f
 | [],_=>⟨[],rfl⟩
 | e :: es,he=>by
  obtain ⟨t,ht⟩:=h e (he e (List.mem_cons_self ..))
  obtain ⟨ts,hts⟩:=uCR h es fun row hr=>he row (List.mem_cons_of_mem _ hr)
  exact ⟨t :: ts,by rw [List.map_cons,← hts,ht]⟩
theorem own : ownKnob Tryz.prog.godebug=none:=by kernel_rfl
theorem uKN : laidOutB Tryz.prog=true:=by kernel_rfl
end Go.Proofs.YteidahabkfgfjaaGreat
namespace Go.Proofs.YteidahabkfgfjaaGreat
open Go Go.Abs
theorem uOp {H : Type} (d : DataW H) : 1≤Rows.uptoBulk d:=by
 cases d with
 | lit l=>cases l <;> simp [Rows.uptoBulk]
 | nil=>simp [Rows.uptoBulk]
 | ptr d=>simp [Rows.uptoBulk]
 | slice elems spare=>simp [Rows.uptoBulk]
 | agg parts=>simp [Rows.uptoBulk]
 | iface t d=>simp [Rows.uptoBulk]
 | map entries=>simp [Rows.uptoBulk]
 | held h=>simp [Rows.uptoBulk]
theorem uFr {H : Type} {d : DataW H} {l : List (DataW H)} (h : d ∈ l) : Rows.uptoBulk d≤Rows.uptoBulkAll l:=by
 induction l with
 | nil=>cases h
 | cons x r ih =>
  simp only [Rows.uptoBulkAll]
  rcases List.mem_cons.1 h with e | e
  ·subst e; omega
  ·have := ih e; omega
theorem uOc {H : Type} (l : List (DataW H)) : l.length≤Rows.uptoBulkAll l:=by
 induction l with
 | nil=>simp
 | cons x r ih=>have := uOp x; simp only [Rows.uptoBulkAll,List.length_cons]; omega
theorem uJJ {H : Type} {L : List TypeId} : Bnd Tryz.prog L 1048576 (fun _ (d : DataW H)=>Rows.uptoBulk d≤1048576) where
 str:=fun _ h=>by simp only [Rows.uptoBulk] at h; omega
 sl:=fun {t e es sp} _ _ h=>by
  simp only [Rows.uptoBulk] at h
  have h1:=uOc es
  exact ⟨by omega,fun x hx=>by have := uFr hx; omega⟩
 st:=fun {t fs ps} _ h j f x _ hx=>by
  simp only [Rows.uptoBulk] at h
  have := uFr (List.mem_of_getElem? hx); omega
 arr:=fun {t e n ps} _ h x hx=>by
  simp only [Rows.uptoBulk] at h
  have := uFr hx; omega
theorem uML : uGd Tryz.prog [3,9,5,22,47,39,79,23,49,24,51,25,27]=true:=by kernel_rfl
theorem uMX : Tryz.prog.cellsOf 47=4:=by kernel_rfl
theorem uOb : Tryz.prog.cellsOf 9=1:=by kernel_rfl
theorem uNB : Tryz.prog.cellsOf 79=3:=by kernel_rfl
theorem uNV : Tryz.prog.cellsOf 49=7:=by kernel_rfl
theorem uNw : Tryz.prog.cellsOf 51=5:=by kernel_rfl
theorem uEw {M n : Nat} {cs : List C} (h : uBd Tryz.prog M n 3 cs) : ∃ m,cs=[.i .i64 m]:=by
 cases n with
 | zero=>exact h.elim
 | succ n =>
  simp only [uBd,Tryz.underlying3] at h
  obtain ⟨m,h,_⟩:=h
  exact ⟨m,h⟩
theorem uCQ {M n : Nat} {cs : List C} (h : uBd Tryz.prog M n 9 cs) : ∃ l,cs=[.s l]:=by
 cases n with
 | zero=>exact h.elim
 | succ n =>
  simp only [uBd,Tryz.underlying9] at h
  obtain ⟨m,h,_⟩:=h
  exact ⟨m,h⟩
theorem uI3 {M n : Nat} {cs : List C} (h : uBd Tryz.prog M n 22 cs) : ∃ l : List (List UInt8),cs=[.sl 1 (strR l)]:=by
 cases n with
 | zero=>exact h.elim
 | succ n =>
  simp only [uBd,Tryz.underlying22,uOb] at h
  obtain ⟨es,h1,_,h5⟩:=h
  obtain ⟨ts,rfl⟩:=uCR (f:=fun s : List UInt8=>[C.s s]) (fun row hr=>uCQ hr) es h5
  exact ⟨ts,h1⟩
theorem uJH {M : Nat} (n : Nat) : ∀ cs : List C,uBd Tryz.prog M n 47 cs → ∃ t : T,cs=t.cells:=by
 induction n using Nat.strongRecOn with
 | ind n IH =>
  intro cs h
  cases n with
  | zero=>exact h.elim
  | succ n =>
   simp only [uBd,Tryz.underlying47,uF2] at h
   obtain ⟨a,b,rfl,h1,c,d,rfl,h2,e,f,rfl,h3,g,k,rfl,h4,rfl⟩:=h
   obtain ⟨m1,rfl⟩:=uEw h1
   obtain ⟨m2,rfl⟩:=uCQ h2
   obtain ⟨m3,rfl⟩:=uEw h3
   cases n with
   | zero=>exact h4.elim
   | succ n =>
    simp only [uBd,Tryz.underlying39,uMX] at h4
    obtain ⟨es,rfl,_,h5⟩:=h4
    obtain ⟨ts,rfl⟩:=uCR (f:=T.cells) (IH n (by omega)) es h5
    exact ⟨.mk m1 m2 m3 ts,by simp [T.cells,T.kind,T.name,T.sort,T.kids,T.rows_eq]⟩
theorem uLp {M n : Nat} {cs : List C} (h : uBd Tryz.prog M n 39 cs) : ∃ ts : List T,cs=[.sl 4 (T.rows ts)]∧ts.length≤M:=by
 cases n with
 | zero=>exact h.elim
 | succ n =>
  simp only [uBd,Tryz.underlying39,uMX] at h
  obtain ⟨es,h1,h2,h5⟩:=h
  obtain ⟨ts,rfl⟩:=uCR (f:=T.cells) (uJH n) es h5
  exact ⟨ts,by rw [h1,T.rows_eq],by simpa using h2⟩
theorem uLm {M n : Nat} {cs : List C} (h : uBd Tryz.prog M n 79 cs) : ∃ f : Fs,cs=f.cells:=by
 cases n with
 | zero=>exact h.elim
 | succ n =>
  simp only [uBd,Tryz.underlying79,uF2] at h
  obtain ⟨a,b,rfl,h1,c,d,rfl,h2,e,f,rfl,h3,rfl⟩:=h
  obtain ⟨m1,rfl⟩:=uCQ h1
  obtain ⟨m2,rfl⟩:=uCQ h2
  obtain ⟨m3,rfl⟩:=uEw h3
  exact ⟨⟨m1,m2,m3⟩,rfl⟩
theorem uMm {M n : Nat} {cs : List C} (h : uBd Tryz.prog M n 49 cs) : ∃ s : Sp,cs=s.cells:=by
 cases n with
 | zero=>exact h.elim
 | succ n =>
  simp only [uBd,Tryz.underlying49,uF2] at h
  obtain ⟨a,b,rfl,h1,c,d,rfl,h2,e,f,rfl,h3,g,k,rfl,h4,rfl⟩:=h
  obtain ⟨m1,rfl⟩:=uCQ h1
  obtain ⟨m2,rfl⟩:=uCQ h2
  obtain ⟨m3,rfl⟩:=uJH _ _ h3
  obtain ⟨m4,rfl⟩:=uEw h4
  exact ⟨⟨m1,m2,m3,m4⟩,by cases m3; rfl⟩
theorem uMQ {M n : Nat} {cs : List C} (h : uBd Tryz.prog M n 51 cs) : ∃ g : {g : Gl // g.data.length≤M},cs=g.1.cells:=by
 cases n with
 | zero=>exact h.elim
 | succ n =>
  simp only [uBd,Tryz.underlying51,uF2] at h
  obtain ⟨a,b,rfl,h1,c,d,rfl,h2,e,f,rfl,h3,g,k,rfl,h4,u,v,rfl,h5,rfl⟩:=h
  obtain ⟨m1,rfl⟩:=uEw h1
  obtain ⟨m2,rfl⟩:=uCQ h2
  obtain ⟨m3,rfl⟩:=uCQ h3
  obtain ⟨m4,rfl,hl⟩:=uLp h4
  obtain ⟨m5,rfl⟩:=uEw h5
  exact ⟨⟨⟨m1,m2,m3,m4,m5⟩,hl⟩,rfl⟩
theorem uLO {M n : Nat} {cs : List C} (h : uBd Tryz.prog M n 23 cs) : ∃ l : List Fs,cs=[.sl 3 (Fs.rows l)]:=by
 cases n with
 | zero=>exact h.elim
 | succ n =>
  simp only [uBd,Tryz.underlying23,uNB] at h
  obtain ⟨es,h1,_,h5⟩:=h
  obtain ⟨ts,rfl⟩:=uCR (f:=Fs.cells) (fun row hr=>uLm hr) es h5
  exact ⟨ts,h1⟩
theorem uLu {M n : Nat} {cs : List C} (h : uBd Tryz.prog M n 24 cs) : ∃ l : List Sp,cs=[.sl 7 (Sp.rows l)]:=by
 cases n with
 | zero=>exact h.elim
 | succ n =>
  simp only [uBd,Tryz.underlying24,uNV] at h
  obtain ⟨es,h1,_,h5⟩:=h
  obtain ⟨ts,rfl⟩:=uCR (f:=Sp.cells) (fun row hr=>uMm hr) es h5
  exact ⟨ts,h1⟩
theorem uLl {M n : Nat} {cs : List C} (h : uBd Tryz.prog M n 25 cs) : ∃ l : List Gl,cs=[.sl 5 (Gl.rows l)] ∧ ∀ g ∈ l,g.data.length≤M:=by
 cases n with
 | zero=>exact h.elim
 | succ n =>
  simp only [uBd,Tryz.underlying25,uNw] at h
  obtain ⟨es,h1,_,h5⟩:=h
  obtain ⟨ts,rfl⟩:=uCR (f:=fun g : {g : Gl // g.data.length≤M}=>g.1.cells) (fun row hr=>uMQ hr) es h5
  refine ⟨ts.map (·.1),by rw [h1,Gl.rows,List.map_map]; rfl,fun g hg=>?_⟩
  obtain ⟨x,_,rfl⟩:=List.mem_map.1 hg
  exact x.2
theorem uOt {n : Nat} {cs : List C} (h : uBd Tryz.prog 1048576 n 27 cs) : ∃ m : {m : Nar // ∀ g ∈ m.goals,g.data.length≤2097152},cs=m.1.cells:=by
 cases n with
 | zero=>exact h.elim
 | succ n =>
  simp only [uBd,Tryz.underlying27,uF2] at h
  obtain ⟨a,b,rfl,h1,c,d,rfl,h2,e,f,rfl,h3,g,k,rfl,h4,u,v,rfl,h5,x,y,rfl,h6,rfl⟩:=h
  obtain ⟨m1,rfl⟩:=uCQ h1
  obtain ⟨m2,rfl⟩:=uI3 h2
  obtain ⟨m3,rfl⟩:=uLO h3
  obtain ⟨m4,rfl⟩:=uI3 h4
  obtain ⟨m5,rfl⟩:=uLu h5
  obtain ⟨m6,rfl,hl⟩:=uLl h6
  exact ⟨⟨⟨m1,m2,m3,m4,m5,m6⟩,fun g hg=>Nat.le_trans (hl g hg) (by omega)⟩,rfl⟩
theorem uMK {M n : Nat} {c : C} (h : uBd Tryz.prog M n 9 [c]) : ∃ l,c = .s l:=by
 obtain ⟨l,hl⟩:=uCQ h
 exact ⟨l,by simpa using hl⟩
end Go.Proofs.YteidahabkfgfjaaGreat
