/- Our abstract program logic and contracts of this seat's functions, part 6: no statement of its own (long names of ours are shortened by a program). -/
import Derived.Test.YteidahabkfgfjaaGreatM5
import Derived.SizedLaws
import Derived.Test.YteidahabkfgfjaaGreatChecked
import Derived.Handed
import Derived.Test.YteidahabkfgfjaaGreatRows
import Derived.Deep.DeepHandedRow
import Derived.Stop.Joined
set_option linter.unusedVariables false
set_option linter.unusedSimpArgs false
namespace Go.Proofs.YteidahabkfgfjaaGreat
open Go Go.Abs
def lkI (R : List (List UInt8)) (t : T) : Int:=match uBq R t with
 | none=>-1
 | some k=>(k : Int)
theorem uCn {t : T} (h3 : t.kind=3) (w : List UInt8) (k : Int) : isT t w k=true ↔ t.name=w∧(t.kids.length : Int)=k:=by simp [isT,h3]
theorem uJh {R : List (List UInt8)} {t : T} : shkT R t=true ↔ ((isT t wShk 2=true∧uFg R (kid t 0)=true)∧uFg R (kid t 1)=true) ∧ ¬ (kid t 0).name=(kid t 1).name:=by simp [shkT]
theorem uKb (n : Nar) (t : T) (h3 : t.kind=3) : Ctr sys 120 [xn n,xm t] [] (xi (lkI n.roles t)) none []:=by
 have hr:=T.rows_len t.kids
 refine uAA Tryz.func120 rfl rfl rfl rfl rfl rfl ?_;refine uAd (uAb ?_);refine uAt rfl (uAI rfl rfl rfl rfl) ?_;refine uAt rfl (uAI rfl rfl rfl rfl) ?_;refine uAa rfl rfl rfl (uAe rfl gU) ?_;refine uAf ?_;refine uAd (uAb ?_);refine uAa rfl rfl rfl (uAg rfl gU rfl rfl) ?_;refine uAa rfl rfl rfl (uAi rfl gU rfl rfl rfl rfl) ?_;refine uAJ rfl rfl rfl rfl rfl gU rfl rfl ?_ (fun hh=>by simp at hh); intro hlen;refine uAa rfl rfl rfl (uAe rfl gU) ?_;refine uAf ?_;refine uAl (s:=⟨[(2,_,_),(3,_,_),(5,_,_)],[(.l 2,_),(.l 3,_)],[],[]⟩) (uAj (⟨sx rfl,sx rfl,sx rfl,trivial⟩) (⟨sx rfl,sx rfl,trivial⟩) trivial) ?_;refine uAd ?_;refine uAv ?_;refine uAd (uAb ?_);refine uAa rfl rfl rfl (uAg rfl gU rfl rfl) ?_;refine uAa rfl rfl rfl (uAi rfl gU rfl rfl rfl rfl) ?_;refine uAa rfl rfl rfl (uA2 rfl rfl gU gU rfl) ?_;refine uAa rfl rfl rfl (uAc rfl gU) ?_;refine uAa rfl rfl rfl (uAc rfl gU) ?_;refine uAa rfl rfl rfl (uAk rfl rfl (fun hh=>hh) gU rfl) ?_;refine uAa rfl rfl rfl (uAH rfl rfl gU (fun _ hi=>gP rfl hi)) ?_;refine uAa rfl rfl rfl (uAc rfl gU) ?_;refine uAa rfl rfl rfl (uAg rfl gU rfl rfl) ?_;refine uAa rfl rfl rfl (uAi rfl (fun hh=>hh) rfl rfl rfl rfl) ?_;refine uAa rfl rfl rfl (uA2 rfl rfl (fun hh=>hh) gU rfl) ?_
 refine uAa rfl rfl rfl (uAc rfl (fun hh=>hh)) ?_;refine uA8 (s:=⟨[(2,_,_),(3,_,_),(5,_,_),(17,_,_),(21,_,_)],[(.l 2,_),(.l 3,_)],[],[]⟩) (uAj (⟨sx rfl,sx rfl,sx rfl,sx rfl,sx rfl,trivial⟩) (⟨sx rfl,sx rfl,trivial⟩) trivial) ?_;refine uAa rfl rfl rfl (uAc rfl gU) ?_;refine uAa rfl rfl rfl (uAk rfl rfl (fun hh=>hh) gU rfl) ?_;refine uAa rfl rfl rfl (uAH rfl rfl (fun hh=>hh) (fun hh hi=>gP hh hi)) ?_;refine uAa rfl rfl rfl (uAN rfl rfl gU (fun _ hi=>gP rfl hi)) ?_;refine uAa rfl rfl rfl (uAe rfl gU) ?_;refine uAf ?_;refine uAl (s:=⟨[(2,_,_),(3,_,_),(5,_,_),(9,_,_)],[(.l 2,_),(.l 3,_)],[],[]⟩) (uAj (⟨sx rfl,sx rfl,sx rfl,sx rfl,trivial⟩) (⟨sx rfl,sx rfl,trivial⟩) trivial) ?_;refine uAn rfl (fun hc=>?_) (fun hc=>?_)
 ·try simp only [nn,uAh,uAB,T.rows_len,Gl.rows_len,Fs.rows_len,Sp.rows_len] at hc
  have h1 : isT t uFT 2=true∨isT t wEnc 2=true:=by rw [uCn h3,uCn h3]; first | exact hc | (rw [hr] at hc; exact hc) | omega
  have hk : uBq n.roles t=some 2:=by rw [uBq,if_pos h1]
  refine uAd (uAb ?_);refine uAa rfl rfl rfl (uAe rfl gU) ?_;refine uAf ?_;refine uAo ?_
  repeat (first | refine tR ?_ | refine bR ?_)
  refine uAs rfl ?_ trivial
  (rw [lkI,hk]; rfl)
 ·try simp only [nn,uAh,uAB,T.rows_len,Gl.rows_len,Fs.rows_len,Sp.rows_len] at hc
  have h1 : ¬(isT t uFT 2=true∨isT t wEnc 2=true):=by rw [uCn h3,uCn h3]; exact fun q=>q.elim (fun q=>hc.1.elim (fun z=>z q.1) fun z=>z q.2) (fun q=>hc.2.elim (fun z=>z q.1) fun z=>z q.2)
  refine uAd (uAb ?_);refine uAa rfl rfl rfl (uAg rfl gU rfl rfl) ?_;refine uAa rfl rfl rfl (uAi rfl gU rfl rfl rfl rfl) ?_;refine uAa rfl rfl rfl (uA2 rfl rfl gU gU rfl) ?_;refine uAa rfl rfl rfl (uAc rfl gU) ?_;refine uAa rfl rfl rfl (uAc rfl gU) ?_;refine uAa rfl rfl rfl (uAk rfl rfl (fun hh=>hh) gU rfl) ?_;refine uAa rfl rfl rfl (uAH rfl rfl gU (fun _ hi=>gP rfl hi)) ?_;refine uAa rfl rfl rfl (uAe rfl gU) ?_;refine uAf ?_;refine uAl (s:=⟨[(2,_,_),(3,_,_),(5,_,_),(26,_,_)],[(.l 2,_),(.l 3,_)],[],[]⟩) (uAj (⟨sx rfl,sx rfl,sx rfl,sx rfl,trivial⟩) (⟨sx rfl,sx rfl,trivial⟩) trivial) ?_;refine uAn rfl (fun hc2=>?_) (fun hc2=>?_)
  ·try simp only [nn,uAh,uAB,T.rows_len,Gl.rows_len,Fs.rows_len,Sp.rows_len] at hc2
   have h2 : isT t uJw 1=true:=by rw [uCn h3]; first | exact hc2 | (rw [hr] at hc2; exact hc2) | omega
   have hk : uBq n.roles t=some 1:=by rw [uBq,if_neg h1,if_pos h2]
   refine uAd (uAb ?_);refine uAa rfl rfl rfl (uAe rfl gU) ?_;refine uAf ?_;refine uAo ?_
   repeat (first | refine tR ?_ | refine bR ?_)
   refine uAs rfl ?_ trivial
   (rw [lkI,hk]; rfl)
  ·try simp only [nn,uAh,uAB,T.rows_len,Gl.rows_len,Fs.rows_len,Sp.rows_len] at hc2
   have h2 : ¬ isT t uJw 1=true:=by rw [uCn h3]; exact fun q=>hc2.elim (fun z=>z q.1) fun z=>z q.2
   refine uAd ?_;refine awp_drawn' (by kernel_rfl) ?_;refine uAq rfl rfl rfl rfl (uAg rfl gU rfl rfl) ?_;refine uBa rfl rfl rfl rfl rfl rfl rfl gU rfl rfl rfl rfl ?_;refine uAq rfl rfl rfl rfl (uA2 rfl rfl gU gU rfl) ?_;refine uAq rfl rfl rfl rfl (uAc rfl gU) ?_;refine uAq rfl rfl rfl rfl (uAc rfl gU) ?_;refine uAq rfl rfl rfl rfl (uAk rfl rfl (fun hh=>hh) gU rfl) ?_;refine uAq rfl rfl rfl rfl (uAH rfl rfl gU (fun _ hi=>gP rfl hi)) ?_;refine uAq rfl rfl rfl rfl (uAc rfl gU) ?_;refine uAD rfl rfl rfl rfl rfl rfl rfl gU rfl rfl rfl rfl rfl ?_;refine uAq rfl rfl rfl rfl (uAg rfl gU rfl rfl) ?_;refine uBa rfl rfl rfl rfl rfl rfl rfl (fun hh=>hh) rfl rfl rfl rfl ?_;refine uAq rfl rfl rfl rfl (uAr (j:=1) rfl rfl (fun hh=>hh) gU rfl rfl (by first | omega | (simp at hh ⊢; omega) | (simp [isT] at hh ⊢; omega)) (fun hh=>T.rows_at (by first | omega | (simp at hh ⊢; omega) | (simp [isT] at hh ⊢; omega)))) ?_;refine uAq rfl rfl rfl rfl (uAE rfl (fun hh=>hh) rfl rfl rfl rfl) ?_;refine uAR rfl rfl rfl rfl rfl rfl rfl gU (fun hh=>gA ((fun hh=>hh) hh) (gA ((fun hh=>hh) hh) (rfl))) (uHw _ _) rfl ?_;refine uAq rfl rfl rfl rfl (uAH rfl rfl gU (fun _ hi=>gP rfl hi)) ?_;refine uAq rfl rfl rfl rfl (uAe rfl gU) ?_;refine uA1 (by kernel_rfl) ?_;refine uAl (s:=⟨[(2,_,_),(3,_,_),(5,_,_),(34,_,_)],[(.l 2,_),(.l 3,_)],[],[]⟩) (uAj (⟨sx rfl,sx rfl,sx rfl,sx rfl,trivial⟩) (⟨sx rfl,sx rfl,trivial⟩) trivial) ?_
   refine uAn rfl (fun hc3=>?_) (fun hc3=>?_)
   ·try simp only [nn,uAh,uAB,T.rows_len,Gl.rows_len,Fs.rows_len,Sp.rows_len] at hc3
    have a1 : isT t uGH 2=true∧pubT n.roles (kid t 1)=true:=by rw [uCn h3]; first | exact hc3 | (rw [hr] at hc3; exact hc3) | omega
    have hk : uBq n.roles t=some 1:=by rw [uBq,if_neg h1,if_neg h2,if_pos (.inl a1)]
    refine uAd (uAb ?_);refine uAa rfl rfl rfl (uAe rfl gU) ?_;refine uAf ?_;refine uAo ?_
    repeat (first | refine tR ?_ | refine bR ?_)
    refine uAs rfl ?_ trivial
    (rw [lkI,hk]; rfl)
   ·try simp only [nn,uAh,uAB,T.rows_len,Gl.rows_len,Fs.rows_len,Sp.rows_len] at hc3
    have a1 : ¬(isT t uGH 2=true∧pubT n.roles (kid t 1)=true):=by rw [uCn h3]; exact fun q=>hc3.elim (fun z=>z.elim (fun z=>z q.1.1) fun z=>z q.1.2) fun z=>Bool.noConfusion (q.2.symm.trans z)
    refine uAd ?_;refine awp_drawn' (by kernel_rfl) ?_;refine uAq rfl rfl rfl rfl (uAg rfl gU rfl rfl) ?_;refine uBa rfl rfl rfl rfl rfl rfl rfl gU rfl rfl rfl rfl ?_;refine uAq rfl rfl rfl rfl (uA2 rfl rfl gU gU rfl) ?_;refine uAq rfl rfl rfl rfl (uAc rfl gU) ?_;refine uAq rfl rfl rfl rfl (uAc rfl gU) ?_;refine uAq rfl rfl rfl rfl (uAk rfl rfl (fun hh=>hh) gU rfl) ?_;refine uAq rfl rfl rfl rfl (uAH rfl rfl gU (fun _ hi=>gP rfl hi)) ?_;refine uAq rfl rfl rfl rfl (uAc rfl gU) ?_;refine uAD rfl rfl rfl rfl rfl rfl rfl gU rfl rfl rfl rfl rfl ?_;refine uAq rfl rfl rfl rfl (uAg rfl gU rfl rfl) ?_;refine uBa rfl rfl rfl rfl rfl rfl rfl (fun hh=>hh) rfl rfl rfl rfl ?_;refine uAq rfl rfl rfl rfl (uAr (j:=1) rfl rfl (fun hh=>hh) gU rfl rfl (by first | omega | (simp at hh ⊢; omega) | (simp [isT] at hh ⊢; omega)) (fun hh=>T.rows_at (by first | omega | (simp at hh ⊢; omega) | (simp [isT] at hh ⊢; omega)))) ?_;refine uAq rfl rfl rfl rfl (uAE rfl (fun hh=>hh) rfl rfl rfl rfl) ?_;refine uAR rfl rfl rfl rfl rfl rfl rfl gU (fun hh=>gA ((fun hh=>hh) hh) (gA ((fun hh=>hh) hh) (rfl))) (uGv _ _) rfl ?_;refine uAq rfl rfl rfl rfl (uAH rfl rfl gU (fun _ hi=>gP rfl hi)) ?_;refine uAq rfl rfl rfl rfl (uAe rfl gU) ?_;refine uA1 (by kernel_rfl) ?_;refine uAl (s:=⟨[(2,_,_),(3,_,_),(5,_,_),(50,_,_)],[(.l 2,_),(.l 3,_)],[],[]⟩) (uAj (⟨sx rfl,sx rfl,sx rfl,sx rfl,trivial⟩) (⟨sx rfl,sx rfl,trivial⟩) trivial) ?_
    refine uAn rfl (fun hc4=>?_) (fun hc4=>?_)
    ·try simp only [nn,uAh,uAB,T.rows_len,Gl.rows_len,Fs.rows_len,Sp.rows_len] at hc4
     have a2 : isT t uHb 2=true∧uEm n.roles (kid t 1)=true:=by rw [uCn h3]; first | exact hc4 | (rw [hr] at hc4; exact hc4) | omega
     have hk : uBq n.roles t=some 1:=by rw [uBq,if_neg h1,if_neg h2,if_pos (.inr a2)]
     refine uAd (uAb ?_);refine uAa rfl rfl rfl (uAe rfl gU) ?_;refine uAf ?_;refine uAo ?_
     repeat (first | refine tR ?_ | refine bR ?_)
     refine uAs rfl ?_ trivial
     (rw [lkI,hk]; rfl)
    ·try simp only [nn,uAh,uAB,T.rows_len,Gl.rows_len,Fs.rows_len,Sp.rows_len] at hc4
     have a2 : ¬(isT t uHb 2=true∧uEm n.roles (kid t 1)=true):=by rw [uCn h3]; exact fun q=>hc4.elim (fun z=>z.elim (fun z=>z q.1.1) fun z=>z q.1.2) fun z=>Bool.noConfusion (q.2.symm.trans z)
     have a3 : ¬((isT t uGH 2=true∧pubT n.roles (kid t 1)=true)∨(isT t uHb 2=true∧uEm n.roles (kid t 1)=true)):=fun q=>q.elim a1 a2
     refine uAd (uAb ?_);refine uAa rfl rfl rfl (uAm rfl gU rfl rfl rfl rfl rfl) ?_;refine uAa rfl rfl rfl (uAm rfl gU rfl rfl rfl rfl rfl) ?_;refine uAx rfl rfl rfl rfl rfl rfl gU gU (uHw _ _) rfl ?_;refine uAa rfl rfl rfl (uAe rfl gU) ?_;refine uAf ?_;refine uAn rfl (fun hc5=>?_) (fun hc5=>?_)
     ·try simp only [nn,uAh,uAB,T.rows_len,Gl.rows_len,Fs.rows_len,Sp.rows_len] at hc5
      have hk : uBq n.roles t=some 0:=by rw [uBq,if_neg h1,if_neg h2,if_neg a3,if_pos (.inl hc5)]
      refine uAd (uAb ?_);refine uAa rfl rfl rfl (uAe rfl gU) ?_;refine uAf ?_;refine uAo ?_
      repeat (first | refine tR ?_ | refine bR ?_)
      refine uAs rfl ?_ trivial
      (rw [lkI,hk]; rfl)
     ·try simp only [nn,uAh,uAB,T.rows_len,Gl.rows_len,Fs.rows_len,Sp.rows_len] at hc5
      have a4 : ¬ pubT n.roles t=true:=by rw [Bool.not_eq_true]; exact hc5
      refine uAd ?_;refine awp_drawn' (by kernel_rfl) ?_;refine uAq rfl rfl rfl rfl (uAg rfl gU rfl rfl) ?_;refine uBa rfl rfl rfl rfl rfl rfl rfl gU rfl rfl rfl rfl ?_;refine uAq rfl rfl rfl rfl (uA2 rfl rfl gU gU rfl) ?_;refine uAq rfl rfl rfl rfl (uAc rfl gU) ?_;refine uAq rfl rfl rfl rfl (uAc rfl gU) ?_;refine uAq rfl rfl rfl rfl (uAk rfl rfl (fun hh=>hh) gU rfl) ?_;refine uAq rfl rfl rfl rfl (uAH rfl rfl gU (fun _ hi=>gP rfl hi)) ?_;refine uAq rfl rfl rfl rfl (uAc rfl gU) ?_;refine uAD rfl rfl rfl rfl rfl rfl rfl gU rfl rfl rfl rfl rfl ?_;refine uAq rfl rfl rfl rfl (uAg rfl gU rfl rfl) ?_;refine uBa rfl rfl rfl rfl rfl rfl rfl (fun hh=>hh) rfl rfl rfl rfl ?_;refine uAq rfl rfl rfl rfl (uAr (j:=0) rfl rfl (fun hh=>hh) gU rfl rfl (by first | omega | (simp at hh ⊢; omega) | (simp [isT] at hh ⊢; omega)) (fun hh=>T.rows_at (by first | omega | (simp at hh ⊢; omega) | (simp [isT] at hh ⊢; omega)))) ?_;refine uAq rfl rfl rfl rfl (uAE rfl (fun hh=>hh) rfl rfl rfl rfl) ?_;refine uAR rfl rfl rfl rfl rfl rfl rfl gU (fun hh=>gA ((fun hh=>hh) hh) (gA ((fun hh=>hh) hh) (rfl))) (uE3 _ _) rfl ?_;refine uAq rfl rfl rfl rfl (uAH rfl rfl gU (fun _ hi=>gP rfl hi)) ?_;refine uAq rfl rfl rfl rfl (uAc rfl gU) ?_;refine uAD rfl rfl rfl rfl rfl rfl rfl gU rfl rfl rfl rfl rfl ?_;refine uAq rfl rfl rfl rfl (uAg rfl gU rfl rfl) ?_
      refine uBa rfl rfl rfl rfl rfl rfl rfl (fun hh=>hh) rfl rfl rfl rfl ?_;refine uAq rfl rfl rfl rfl (uAr (j:=1) rfl rfl (fun hh=>hh) gU rfl rfl (by first | omega | (simp at hh ⊢; omega) | (simp [isT] at hh ⊢; omega)) (fun hh=>T.rows_at (by first | omega | (simp at hh ⊢; omega) | (simp [isT] at hh ⊢; omega)))) ?_;refine uAq rfl rfl rfl rfl (uAE rfl (fun hh=>hh) rfl rfl rfl rfl) ?_;refine uAR rfl rfl rfl rfl rfl rfl rfl gU (fun hh=>gA ((fun hh=>hh) hh) (gA ((fun hh=>hh) hh) (rfl))) (uE3 _ _) rfl ?_;refine uAq rfl rfl rfl rfl (uAH rfl rfl gU (fun _ hi=>gP rfl hi)) ?_;refine uAq rfl rfl rfl rfl (uAc rfl gU) ?_;refine uAq rfl rfl rfl rfl (uAg rfl gU rfl rfl) ?_;refine uBa rfl rfl rfl rfl rfl rfl rfl (fun hh=>hh) rfl rfl rfl rfl ?_;refine uAq rfl rfl rfl rfl (uAr (j:=0) rfl rfl (fun hh=>hh) gU rfl rfl (by first | omega | (simp at hh ⊢; omega) | (simp [isT] at hh ⊢; omega)) (fun hh=>T.rows_at (by first | omega | (simp at hh ⊢; omega) | (simp [isT] at hh ⊢; omega)))) ?_;refine uAq rfl rfl rfl rfl (uA0 rfl (fun hh=>hh) rfl rfl) ?_;refine uAq rfl rfl rfl rfl (uAQ rfl (fun hh=>hh) rfl rfl rfl) ?_;refine uAq rfl rfl rfl rfl (uAg rfl gU rfl rfl) ?_;refine uBa rfl rfl rfl rfl rfl rfl rfl (fun hh=>hh) rfl rfl rfl rfl ?_;refine uAq rfl rfl rfl rfl (uAr (j:=1) rfl rfl (fun hh=>hh) gU rfl rfl (by first | omega | (simp at hh ⊢; omega) | (simp [isT] at hh ⊢; omega)) (fun hh=>T.rows_at (by first | omega | (simp at hh ⊢; omega) | (simp [isT] at hh ⊢; omega)))) ?_
      refine uAq rfl rfl rfl rfl (uA0 rfl (fun hh=>hh) rfl rfl) ?_;refine uAq rfl rfl rfl rfl (uAQ rfl (fun hh=>hh) rfl rfl rfl) ?_;refine uAq rfl rfl rfl rfl (uA2 rfl rfl (fun hh=>hh) (fun hh=>hh) rfl) ?_;refine uAq rfl rfl rfl rfl (uAH rfl rfl gU (fun _ hi=>gP rfl hi)) ?_;refine uAq rfl rfl rfl rfl (uAe rfl gU) ?_;refine uA1 (by kernel_rfl) ?_;refine uAl (s:=⟨[(70,_,_)],[],[],[]⟩) (uAj (⟨sx rfl,trivial⟩) trivial trivial) ?_;refine uAn rfl (fun hc6=>?_) (fun hc6=>?_)
      ·try simp only [nn,uAh,uAB,T.rows_len,Gl.rows_len,Fs.rows_len,Sp.rows_len] at hc6
       have a5 : shkT n.roles t=true:=by rw [uJh,uCn h3]; exact ⟨⟨⟨hc6.1.1.1,hc6.1.1.2⟩,hc6.1.2⟩,hc6.2⟩
       have hk : uBq n.roles t=some 0:=by rw [uBq,if_neg h1,if_neg h2,if_neg a3,if_pos (.inr a5)]
       refine uAd (uAb ?_);refine uAa rfl rfl rfl (uAe rfl gU) ?_;refine uAf ?_;refine uAo ?_
       repeat (first | refine tR ?_ | refine bR ?_)
       refine uAs rfl ?_ trivial
       (rw [lkI,hk]; rfl)
      ·try simp only [nn,uAh,uAB,T.rows_len,Gl.rows_len,Fs.rows_len,Sp.rows_len] at hc6
       have a5 : ¬ shkT n.roles t=true:=by rw [uJh,uCn h3]; exact fun q=>hc6.elim (fun z=>z.elim (fun z=>z.elim (fun z=>z.elim (fun z=>z q.1.1.1.1) fun z=>z q.1.1.1.2) fun z=>Bool.noConfusion (q.1.1.2.symm.trans z)) fun z=>Bool.noConfusion (q.1.2.symm.trans z)) fun z=>q.2 z
       have hk : uBq n.roles t=none:=by rw [uBq,if_neg h1,if_neg h2,if_neg a3,if_neg (fun q=>q.elim a4 a5)]
       refine uAp ?_;refine uAd (uAb ?_);refine uAa rfl rfl rfl (uAe rfl gU) ?_;refine uAf ?_;refine uAo ?_
       repeat (first | refine tR ?_ | refine bR ?_)
       refine uAs rfl ?_ trivial
       (rw [lkI,hk]; rfl)
theorem uNY {R : List (List UInt8)} {t : T} {k : Nat} (h : uBq R t=some k) : k≤t.kids.length:=by
 unfold uBq at h
 split at h
 ·rename_i q
  have : 2=k:=Option.some.inj h
  simp [isT] at q; omega
 split at h
 ·rename_i q
  have : 1=k:=Option.some.inj h
  simp [isT] at q; omega
 split at h
 ·rename_i q
  have : 1=k:=Option.some.inj h
  simp [isT] at q; omega
 split at h
 ·have : 0=k:=Option.some.inj h
  omega
 ·cases h
theorem uNz {R : List (List UInt8)} {t : T} (h : lkI R t < 0) : uBq R t=none:=by
 unfold lkI at h
 split at h
 ·assumption
 ·omega
theorem uN3 {R : List (List UInt8)} {t : T} (h : ¬ lkI R t < 0) : ∃ k,uBq R t=some k∧lkI R t=(k : Int):=by
 unfold lkI at h ⊢
 split at h
 ·omega
 ·rename_i k hk; exact ⟨k,hk,rfl⟩
theorem uIw {α : Type} {l : List α} {d : α} {k j : Nat} (h : j < k) : (l.take k).getD j d=l.getD j d:=by
 simp only [List.getD_eq_getElem?_getD,List.getElem?_take_of_lt h]
theorem uDU (n : Nar) (h1 : n.roles.length≤900000) (h2 : n.fresh.length≤900000) (h4 : n.tags.length≤900000) : ∀ (m : Nat) (t : T),t.size≤m→m≤900000→Ctr sys 87 [xn n,xm t] [] (xi (uCj n.roles (uBh n) t)) none []:=by
 intro m
 induction m with
 | zero=>intro t h; have := t.size_pos; omega
 | succ m ih =>
  intro t ht hm
  have hr:=T.rows_len t.kids
  have hls:=T.len_sizes t.kids
  have hse:=t.size_eq
  refine uAA Tryz.func87 rfl rfl rfl rfl rfl rfl ?_;refine uAd (uAb ?_);refine uAt rfl (uAI rfl rfl rfl rfl) ?_;refine uAt rfl (uAI rfl rfl rfl rfl) ?_;refine uAa rfl rfl rfl (uAe rfl gU) ?_;refine uAf ?_;refine uAd ?_;refine uAd (uAb ?_);refine uAa rfl rfl rfl (uAg rfl gU rfl rfl) ?_;refine uAa rfl rfl rfl (uAi rfl gU rfl rfl rfl rfl) ?_;refine uAa rfl rfl rfl (uAk rfl rfl gU gU rfl) ?_;refine uAf ?_;refine uAl (s:=⟨[(2,_,_),(3,_,_),(12,_,_)],[(.l 2,_),(.l 3,_)],[],[]⟩) (uAj (⟨sx rfl,sx rfl,sx rfl,trivial⟩) (⟨sx rfl,sx rfl,trivial⟩) trivial) ?_;refine uAn rfl (fun hc=>?_) (fun hc=>?_)
  ·try simp only [nn,uAh,uAB,T.rows_len,Gl.rows_len,Fs.rows_len,Sp.rows_len] at hc
   refine uAd (uAb ?_);refine uAa rfl rfl rfl (uAm rfl gU rfl rfl rfl rfl rfl) ?_;refine uAx rfl rfl rfl rfl rfl rfl gU gU (uF7 n h1 h2 h4) rfl ?_;refine uAa rfl rfl rfl (uAc rfl gU) ?_;refine uAa rfl rfl rfl (uAu rfl gU rfl) ?_;refine uAa rfl rfl rfl (uAu rfl gU rfl) ?_;refine uAa rfl rfl rfl (uAe rfl gU) ?_;refine uAa rfl rfl rfl (uAe rfl gU) ?_;refine uAf ?_;refine uAl (s:=⟨[(3,_,_),(5,_,_)],[(.l 3,_)],[],[]⟩) (uAj (⟨sx rfl,sx rfl,trivial⟩) (⟨sx rfl,trivial⟩) trivial) ?_;refine uAd ?_;refine uAd (uAb ?_);refine uAa rfl rfl rfl (uAc rfl gU) ?_;refine uAa rfl rfl rfl (uAg rfl gU rfl rfl) ?_;refine uAa rfl rfl rfl (uAi rfl gU rfl rfl rfl rfl) ?_;refine uAx rfl rfl rfl rfl rfl rfl gU gU (uC1 _ _) rfl ?_;refine uAa rfl rfl rfl (uAk rfl rfl gU gU rfl) ?_;refine uAf ?_;refine uAl (s:=⟨[(22,_,_)],[],[],[]⟩) (uAj (⟨sx rfl,trivial⟩) trivial trivial) ?_;refine uAn rfl (fun hc2=>?_) (fun hc2=>?_)
   ·try simp only [nn,uAh,uAB,T.rows_len,Gl.rows_len,Fs.rows_len,Sp.rows_len] at hc2
    have hx:=(uDb _ _).1 hc2
    refine uAd (uAb ?_);refine uAa rfl rfl rfl (uAe rfl gU) ?_;refine uAf ?_;refine uAo ?_
    repeat (first | refine tR ?_ | refine bR ?_)
    refine uAs rfl ?_ trivial
    (rw [uCS,if_pos hc,if_neg (by rw [hx]; simp)]; rfl)
   ·try simp only [nn,uAh,uAB,T.rows_len,Gl.rows_len,Fs.rows_len,Sp.rows_len] at hc2
    have hx:=(uFv (uBh n) t.name).1 (by omega)
    refine uAp ?_;refine uAd (uAb ?_);refine uAa rfl rfl rfl (uAe rfl gU) ?_;refine uAf ?_;refine uAo ?_
    repeat (first | refine tR ?_ | refine bR ?_)
    refine uAs rfl ?_ trivial
    (rw [uCS,if_pos hc,if_pos hx]; rfl)
  ·try simp only [nn,uAh,uAB,T.rows_len,Gl.rows_len,Fs.rows_len,Sp.rows_len] at hc
   have h3 : t.kind=3:=by omega
   refine uAp ?_;refine uAd (uAb ?_);refine uAa rfl rfl rfl (uAm rfl gU rfl rfl rfl rfl rfl) ?_;refine uAa rfl rfl rfl (uAm rfl gU rfl rfl rfl rfl rfl) ?_;refine uAx rfl rfl rfl rfl rfl rfl gU gU (uKb n t h3) rfl ?_;refine uAa rfl rfl rfl (uAe rfl gU) ?_;refine uAf ?_;refine uAd ?_;refine uAd (uAb ?_);refine uAa rfl rfl rfl (uAc rfl gU) ?_;refine uAa rfl rfl rfl (uAk rfl rfl gU gU rfl) ?_;refine uAf ?_;refine uAl (s:=⟨[(2,_,_),(3,_,_),(7,_,_),(27,_,_)],[(.l 2,_),(.l 3,_)],[],[]⟩) (uAj (⟨sx rfl,sx rfl,sx rfl,sx rfl,trivial⟩) (⟨sx rfl,sx rfl,trivial⟩) trivial) ?_;refine uAn rfl (fun hc2=>?_) (fun hc2=>?_)
   ·try simp only [nn,uAh,uAB,T.rows_len,Gl.rows_len,Fs.rows_len,Sp.rows_len] at hc2
    have hk:=uNz hc2
    refine uAd (uAb ?_);refine uAa rfl rfl rfl (uAe rfl gU) ?_;refine uAf ?_;refine uAo ?_
    repeat (first | refine tR ?_ | refine bR ?_)
    refine uAs rfl ?_ trivial
    (rw [uCS,if_neg (by omega),hk]; rfl)
   ·try simp only [nn,uAh,uAB,T.rows_len,Gl.rows_len,Fs.rows_len,Sp.rows_len] at hc2
    obtain ⟨k,hk,hk2⟩:=uN3 (R:=n.roles) (t:=t) (by omega)
    have hle:=uNY hk
    rw [hk2]
    have hE : uCj n.roles (uBh n) t=errs (uCj n.roles (uBh n)) (t.kids.take k):=by rw [uCS,if_neg (by omega),hk]
    rw [hE]
    refine uAp ?_;refine uAd ?_;refine uAd (uAb ?_);refine uAa rfl rfl rfl (uAe rfl gU) ?_;refine uAf ?_;refine uAv ?_;refine uAW (ι:=Nat) { t:=[(2,_,_),(3,_,_),(7,_,_)],bx:=[(.l 2,_),(.l 3,_)],ow:=[] } (fun j=>[(8,true,xi (j : Int))]) (fun j=>[]) (fun j=>j≤k ∧ ∀ i,i < j→uCj n.roles (uBh n) ((t.kids.take k).getD i default)=0) (fun j=>k - j) (0) (⟨by omega,fun j hj=>by omega⟩) (uAj (⟨sx rfl,sx rfl,sx rfl,sx rfl,trivial⟩) (⟨sx rfl,sx rfl,trivial⟩) trivial) ?_
    intro j hok
    dsimp only [List.cons_append,List.nil_append]
    obtain ⟨hj,hi⟩:=hok
    refine uAd ?_;refine uAd (uAb ?_);refine uAa rfl rfl rfl (uAc rfl gU) ?_;refine uAa rfl rfl rfl (uAc rfl gU) ?_;refine uAa rfl rfl rfl (uAk rfl rfl gU gU rfl) ?_;refine uAf ?_;refine uAn rfl (fun hc3=>?_) (fun hc3=>?_)
    ·try simp only [nn,uAh,uAB,T.rows_len,Gl.rows_len,Fs.rows_len,Sp.rows_len] at hc3
     have hlt : j < k:=by omega
     have hg : (t.kids.take k).getD j default=t.kids.getD j default:=uIw hlt
     have hlen : (t.kids.take k).length=k:=by rw [List.length_take]; omega
     have hks:=uCm (uCz (d:=default) (l:=t.kids) (k:=j) (by omega))
     refine uAp ?_;refine uAd ?_;refine uAv ?_;refine uAd ?_;refine awp_drawn' (by kernel_rfl) ?_;refine uAD rfl rfl rfl rfl rfl rfl rfl gU rfl rfl rfl rfl rfl ?_;refine uAq rfl rfl rfl rfl (uAg rfl gU rfl rfl) ?_;refine uBa rfl rfl rfl rfl rfl rfl rfl gU rfl rfl rfl rfl ?_;refine uAq rfl rfl rfl rfl (uAc rfl gU) ?_;refine uAq rfl rfl rfl rfl (uAr rfl rfl gU gU rfl rfl rfl (fun hh=>T.rows_at (by first | omega | (simp at hh ⊢; omega) | (simp [isT] at hh ⊢; omega)))) ?_;refine uAq rfl rfl rfl rfl (uAE rfl gU rfl rfl rfl rfl) ?_;refine uAR rfl rfl rfl rfl rfl rfl rfl gU gU (ih (t.kids.getD j default) (by omega) (by omega)) rfl ?_;refine uAq rfl rfl rfl rfl (uAe rfl gU) ?_;refine uA1 (by kernel_rfl) ?_;refine uAl (s:=⟨[(2,_,_),(3,_,_),(7,_,_),(8,_,_),(9,_,_)],[(.l 2,_),(.l 3,_)],[],[]⟩) (uAj (⟨sx rfl,sx rfl,sx rfl,sx rfl,sx rfl,trivial⟩) (⟨sx rfl,sx rfl,trivial⟩) trivial) ?_;refine uAd (uAb ?_);refine uAa rfl rfl rfl (uAc rfl gU) ?_;refine uAa rfl rfl rfl (uAk rfl rfl gU gU rfl) ?_;refine uAf ?_;refine uAn rfl (fun hc4=>?_) (fun hc4=>?_)
     ·try simp only [nn,uAh,uAB,T.rows_len,Gl.rows_len,Fs.rows_len,Sp.rows_len] at hc4
      have he:=uDN (d:=default) (by omega) hi (by rw [hg]; exact hc4)
      rw [hg] at he
      refine uAd (uAb ?_);refine uAa rfl rfl rfl (uAc rfl gU) ?_;refine uAa rfl rfl rfl (uAe rfl gU) ?_;refine uAf ?_;refine uAo ?_
      repeat (first | refine tR ?_ | refine bR ?_)
      refine uAs rfl ?_ trivial
      (rw [he]; rfl)
     ·try simp only [nn,uAh,uAB,T.rows_len,Gl.rows_len,Fs.rows_len,Sp.rows_len] at hc4
      refine uAp ?_;refine uAb ?_;refine uAa rfl rfl rfl (uAc rfl gU) ?_;refine uAa rfl rfl rfl (uAy rfl rfl gU gU rfl (IntWalk.i64_in _ (by omega))) ?_;refine uAa rfl rfl rfl (uAe rfl gU) ?_;refine uAf ?_;refine ⟨j + 1,?_,?_,uAj (⟨⟨_,rfl,?_⟩,⟨sx rfl,sx rfl,sx rfl,trivial⟩⟩) (⟨sx rfl,sx rfl,trivial⟩) trivial⟩
      all_goals (first | rfl | omega | exact ⟨by omega,uCl hi (by rw [hg]; exact hc4)⟩)
    ·try simp only [nn,uAh,uAB,T.rows_len,Gl.rows_len,Fs.rows_len,Sp.rows_len] at hc3
     have hlen : (t.kids.take k).length=k:=by rw [List.length_take]; omega
     refine uAO ?_
     repeat (first | refine uAG ?_ | refine uAF ?_ | refine uAC rfl ?_)
     refine uAd (uAb ?_);refine uAa rfl rfl rfl (uAe rfl gU) ?_;refine uAf ?_;refine uAo ?_
     repeat (first | refine tR ?_ | refine bR ?_)
     refine uAs rfl ?_ trivial
     (rw [uDh (d:=default) (fun i q=>hi i (by omega))]; rfl)
theorem uHZ (n : Nar) (s : Sp) (h1 : n.roles.length≤900000) (h2 : n.fresh.length≤900000) (h4 : n.tags.length≤900000) (hs : s.msg.size≤900000) : Ctr sys 45 [xn n,xsp s] [] (xi (uDk n s)) none []:=by
 refine uAA Tryz.func45 rfl rfl rfl rfl rfl rfl ?_;refine uAd (uAb ?_);refine uAt rfl (uAI rfl rfl rfl rfl) ?_;refine uAt rfl (uAI rfl rfl rfl rfl) ?_;refine uAa rfl rfl rfl (uAe rfl gU) ?_;refine uAf ?_;refine uAd ?_;refine uAd (uAb ?_);refine uAa rfl rfl rfl (uAg rfl gU rfl rfl) ?_;refine uAa rfl rfl rfl (uAi rfl gU rfl rfl rfl rfl) ?_;refine uAa rfl rfl rfl (uAg rfl gU rfl rfl) ?_;refine uAa rfl rfl rfl (uAi rfl gU rfl rfl rfl rfl) ?_;refine uAx rfl rfl rfl rfl rfl rfl gU gU (uC1 _ _) rfl ?_;refine uAa rfl rfl rfl (uAk rfl rfl gU gU rfl) ?_;refine uAa rfl rfl rfl (uAc rfl gU) ?_;refine uAa rfl rfl rfl (uAg rfl gU rfl rfl) ?_;refine uAa rfl rfl rfl (uAi rfl (fun hh=>hh) rfl rfl rfl rfl) ?_;refine uA8 (s:=⟨[(2,_,_),(3,_,_),(11,_,_),(13,_,_)],[(.l 2,_),(.l 3,_)],[],[]⟩) (uAj (⟨sx rfl,sx rfl,sx rfl,sx rfl,trivial⟩) (⟨sx rfl,sx rfl,trivial⟩) trivial) ?_;refine uAa rfl rfl rfl (uAg rfl gU rfl rfl) ?_;refine uAa rfl rfl rfl (uAi rfl (fun hh=>hh) rfl rfl rfl rfl) ?_;refine uAx rfl rfl rfl rfl rfl rfl gU (fun hh=>gA ((fun hh=>hh) hh) (gA ((fun hh=>hh) hh) (rfl))) (uC1 _ _) rfl ?_;refine uAa rfl rfl rfl (uAk rfl rfl (fun hh=>hh) gU rfl) ?_;refine uAa rfl rfl rfl (uAN rfl rfl gU (fun _ hi=>gP rfl hi)) ?_
 refine uAf ?_;refine uAl (s:=⟨[(2,_,_),(3,_,_),(18,_,_)],[(.l 2,_),(.l 3,_)],[],[]⟩) (uAj (⟨sx rfl,sx rfl,sx rfl,trivial⟩) (⟨sx rfl,sx rfl,trivial⟩) trivial) ?_;refine uAn rfl (fun hc=>?_) (fun hc=>?_)
 ·try simp only [nn,uAh,uAB,T.rows_len,Gl.rows_len,Fs.rows_len,Sp.rows_len] at hc
  have h : n.roles.contains s.frm=false∨n.roles.contains s.dst=false:=by rw [← uDb,← uDb]; exact hc
  have ht : twoE n.roles s.frm s.dst=13:=by rw [twoE,if_pos h]
  refine uAd (uAb ?_);refine uAa rfl rfl rfl (uAe rfl gU) ?_;refine uAf ?_;refine uAo ?_
  repeat (first | refine tR ?_ | refine bR ?_)
  refine uAs rfl ?_ trivial
  (rw [uDk,ht]; rfl)
 ·try simp only [nn,uAh,uAB,T.rows_len,Gl.rows_len,Fs.rows_len,Sp.rows_len] at hc
  have h : ¬(n.roles.contains s.frm=false∨n.roles.contains s.dst=false):=by rw [← uDb,← uDb]; omega
  refine uAp ?_;refine uAd ?_;refine uAd (uAb ?_);refine uAa rfl rfl rfl (uAg rfl gU rfl rfl) ?_;refine uAa rfl rfl rfl (uAi rfl gU rfl rfl rfl rfl) ?_;refine uAa rfl rfl rfl (uAg rfl gU rfl rfl) ?_;refine uAa rfl rfl rfl (uAi rfl gU rfl rfl rfl rfl) ?_;refine uAa rfl rfl rfl (uA2 rfl rfl gU gU rfl) ?_;refine uAf ?_;refine uAl (s:=⟨[(2,_,_),(3,_,_),(23,_,_)],[(.l 2,_),(.l 3,_)],[],[]⟩) (uAj (⟨sx rfl,sx rfl,sx rfl,trivial⟩) (⟨sx rfl,sx rfl,trivial⟩) trivial) ?_;refine uAn rfl (fun hc2=>?_) (fun hc2=>?_)
  ·try simp only [nn,uAh,uAB,T.rows_len,Gl.rows_len,Fs.rows_len,Sp.rows_len] at hc2
   have ht : twoE n.roles s.frm s.dst=1:=by rw [twoE,if_neg h,if_pos hc2]
   refine uAd (uAb ?_);refine uAa rfl rfl rfl (uAe rfl gU) ?_;refine uAf ?_;refine uAo ?_
   repeat (first | refine tR ?_ | refine bR ?_)
   refine uAs rfl ?_ trivial
   (rw [uDk,ht]; rfl)
  ·try simp only [nn,uAh,uAB,T.rows_len,Gl.rows_len,Fs.rows_len,Sp.rows_len] at hc2
   have ht : twoE n.roles s.frm s.dst=0:=by rw [twoE,if_neg h,if_neg hc2]
   refine uAp ?_;refine uAd (uAb ?_);refine uAa rfl rfl rfl (uAm rfl gU rfl rfl rfl rfl rfl) ?_;refine uAa rfl rfl rfl (uAg rfl gU rfl rfl) ?_;refine uAa rfl rfl rfl (uAm rfl gU rfl rfl rfl rfl rfl) ?_;refine uAx rfl rfl rfl rfl rfl rfl gU gU (uDU n h1 h2 h4 _ _ (Nat.le_refl _) hs) rfl ?_;refine uAa rfl rfl rfl (uAe rfl gU) ?_;refine uAf ?_;refine uAo ?_
   repeat (first | refine tR ?_ | refine bR ?_)
   refine uAs rfl ?_ trivial
   (rw [uDk,ht]; rfl)
theorem uId (n : Nar) (g : Gl) (h1 : n.roles.length≤900000) (h2 : n.fresh.length≤900000) (h4 : n.tags.length≤900000) (hg : T.sizes g.data≤900000) : Ctr sys 46 [xn n,xg g] [] (xi (uCv n g)) none []:=by
 have hr:=T.rows_len g.data
 have hls:=T.len_sizes g.data
 refine uAA Tryz.func46 rfl rfl rfl rfl rfl rfl ?_;refine uAd (uAb ?_);refine uAt rfl (uAI rfl rfl rfl rfl) ?_;refine uAt rfl (uAI rfl rfl rfl rfl) ?_;refine uAa rfl rfl rfl (uAe rfl gU) ?_;refine uAf ?_;refine uAd ?_;refine uAd (uAb ?_);refine uAa rfl rfl rfl (uAg rfl gU rfl rfl) ?_;refine uAa rfl rfl rfl (uAi rfl gU rfl rfl rfl rfl) ?_;refine uAa rfl rfl rfl (uAg rfl gU rfl rfl) ?_;refine uAa rfl rfl rfl (uAi rfl gU rfl rfl rfl rfl) ?_;refine uAx rfl rfl rfl rfl rfl rfl gU gU (uC1 _ _) rfl ?_;refine uAa rfl rfl rfl (uAk rfl rfl gU gU rfl) ?_;refine uAf ?_;refine uAl (s:=⟨[(2,_,_),(3,_,_),(12,_,_)],[(.l 2,_),(.l 3,_)],[],[]⟩) (uAj (⟨sx rfl,sx rfl,sx rfl,trivial⟩) (⟨sx rfl,sx rfl,trivial⟩) trivial) ?_;refine uAn rfl (fun hc=>?_) (fun hc=>?_)
 ·try simp only [nn,uAh,uAB,T.rows_len,Gl.rows_len,Fs.rows_len,Sp.rows_len] at hc
  have h:=(uDb _ _).1 hc
  refine uAd (uAb ?_);refine uAa rfl rfl rfl (uAe rfl gU) ?_;refine uAf ?_;refine uAo ?_
  repeat (first | refine tR ?_ | refine bR ?_)
  refine uAs rfl ?_ trivial
  (rw [uCv,if_pos h]; rfl)
 ·try simp only [nn,uAh,uAB,T.rows_len,Gl.rows_len,Fs.rows_len,Sp.rows_len] at hc
  have hc':=(uFv n.roles g.role).1 (by omega)
  have c1 : ¬ n.roles.contains g.role=false:=by rw [hc']; simp
  refine uAp ?_;refine uAd ?_;refine uAd (uAb ?_);refine uAa rfl rfl rfl (uAg rfl gU rfl rfl) ?_;refine uAa rfl rfl rfl (uAi rfl gU rfl rfl rfl rfl) ?_;refine uAa rfl rfl rfl (uAk rfl rfl gU gU rfl) ?_;refine uAa rfl rfl rfl (uAc rfl gU) ?_;refine uAa rfl rfl rfl (uAg rfl gU rfl rfl) ?_;refine uAa rfl rfl rfl (uAi rfl (fun hh=>hh) rfl rfl rfl rfl) ?_;refine uAa rfl rfl rfl (uAk rfl rfl (fun hh=>hh) gU rfl) ?_;refine uAa rfl rfl rfl (uAN rfl rfl gU (fun _ hi=>gP rfl hi)) ?_;refine uAf ?_;refine uAl (s:=⟨[(2,_,_),(3,_,_),(20,_,_)],[(.l 2,_),(.l 3,_)],[],[]⟩) (uAj (⟨sx rfl,sx rfl,sx rfl,trivial⟩) (⟨sx rfl,sx rfl,trivial⟩) trivial) ?_;refine uAn rfl (fun hc2=>?_) (fun hc2=>?_)
  ·try simp only [nn,uAh,uAB,T.rows_len,Gl.rows_len,Fs.rows_len,Sp.rows_len] at hc2
   have ha : uBm g.kind=true:=sagree_iff.2 hc2
   refine uAd ?_;refine uAd (uAb ?_);refine uAa rfl rfl rfl (uAg rfl gU rfl rfl) ?_;refine uAa rfl rfl rfl (uAi rfl gU rfl rfl rfl rfl) ?_;refine uAa rfl rfl rfl (uAg rfl gU rfl rfl) ?_;refine uAa rfl rfl rfl (uAi rfl gU rfl rfl rfl rfl) ?_;refine uAx rfl rfl rfl rfl rfl rfl gU gU (uC1 _ _) rfl ?_;refine uAa rfl rfl rfl (uAk rfl rfl gU gU rfl) ?_;refine uAf ?_;refine uAl (s:=⟨[(2,_,_),(3,_,_),(26,_,_)],[(.l 2,_),(.l 3,_)],[],[]⟩) (uAj (⟨sx rfl,sx rfl,sx rfl,trivial⟩) (⟨sx rfl,sx rfl,trivial⟩) trivial) ?_;refine uAn rfl (fun hc3=>?_) (fun hc3=>?_)
   ·try simp only [nn,uAh,uAB,T.rows_len,Gl.rows_len,Fs.rows_len,Sp.rows_len] at hc3
    have h:=(uDb _ _).1 hc3
    have ht : twoE n.roles g.role g.wth=13:=by rw [twoE,if_pos (.inr h)]
    refine uAd (uAb ?_);refine uAa rfl rfl rfl (uAe rfl gU) ?_;refine uAf ?_;refine uAo ?_
    repeat (first | refine tR ?_ | refine bR ?_)
    refine uAs rfl ?_ trivial
    (rw [uCv,if_neg c1,if_pos ⟨ha,by rw [ht]; simp⟩,ht]; rfl)
   ·try simp only [nn,uAh,uAB,T.rows_len,Gl.rows_len,Fs.rows_len,Sp.rows_len] at hc3
    have h:=(uFv n.roles g.wth).1 (by omega)
    have hn : ¬(n.roles.contains g.role=false∨n.roles.contains g.wth=false):=by rw [hc',h]; simp
    refine uAp ?_;refine uAd (uAb ?_);refine uAa rfl rfl rfl (uAg rfl gU rfl rfl) ?_;refine uAa rfl rfl rfl (uAi rfl gU rfl rfl rfl rfl) ?_;refine uAa rfl rfl rfl (uAg rfl gU rfl rfl) ?_;refine uAa rfl rfl rfl (uAi rfl gU rfl rfl rfl rfl) ?_;refine uAa rfl rfl rfl (uA2 rfl rfl gU gU rfl) ?_;refine uAf ?_;refine uAl (s:=⟨[(2,_,_),(3,_,_),(31,_,_)],[(.l 2,_),(.l 3,_)],[],[]⟩) (uAj (⟨sx rfl,sx rfl,sx rfl,trivial⟩) (⟨sx rfl,sx rfl,trivial⟩) trivial) ?_;refine uAn rfl (fun hc4=>?_) (fun hc4=>?_)
    ·try simp only [nn,uAh,uAB,T.rows_len,Gl.rows_len,Fs.rows_len,Sp.rows_len] at hc4
     have ht : twoE n.roles g.role g.wth=1:=by rw [twoE,if_neg hn,if_pos hc4.symm]
     refine uAd (uAb ?_);refine uAa rfl rfl rfl (uAe rfl gU) ?_;refine uAf ?_;refine uAo ?_
     repeat (first | refine tR ?_ | refine bR ?_)
     refine uAs rfl ?_ trivial
     (rw [uCv,if_neg c1,if_pos ⟨ha,by rw [ht]; simp⟩,ht]; rfl)
    ·try simp only [nn,uAh,uAB,T.rows_len,Gl.rows_len,Fs.rows_len,Sp.rows_len] at hc4
     have ht : twoE n.roles g.role g.wth=0:=by rw [twoE,if_neg hn,if_neg (fun q=>hc4 q.symm)]
     have hE : uCv n g=errs (uCj n.roles (uBh n)) g.data:=by rw [uCv,if_neg c1,if_neg (fun q=>q.2 ht)]
     rw [hE]
     refine uAp ?_;refine uAd ?_;refine uAd (uAb ?_);refine uAa rfl rfl rfl (uAe rfl gU) ?_;refine uAf ?_;refine uAv ?_;refine uAW (ι:=Nat) { t:=[(2,_,_),(3,_,_)],bx:=[(.l 2,_),(.l 3,_)],ow:=[] } (fun k=>[(5,true,xi (k : Int))]) (fun k=>[]) (fun k=>k≤g.data.length ∧ ∀ j,j < k→uCj n.roles (uBh n) (g.data.getD j default)=0) (fun k=>g.data.length - k) (0) (⟨by omega,fun j hj=>by omega⟩) (uAj (⟨sx rfl,sx rfl,sx rfl,trivial⟩) (⟨sx rfl,sx rfl,trivial⟩) trivial) ?_
     intro k hoka
     dsimp only [List.cons_append,List.nil_append]
     obtain ⟨hk,hi⟩:=hoka
     refine uAd ?_;refine uAd (uAb ?_);refine uAa rfl rfl rfl (uAc rfl gU) ?_;refine uAa rfl rfl rfl (uAg rfl gU rfl rfl) ?_;refine uAa rfl rfl rfl (uAi rfl gU rfl rfl rfl rfl) ?_;refine uAJ rfl rfl rfl rfl rfl gU rfl rfl ?_ (fun hh=>by simp at hh); intro hlen;refine uAa rfl rfl rfl (uAk rfl rfl gU gU rfl) ?_;refine uAf ?_;refine uAl (s:=⟨[(2,_,_),(3,_,_),(5,_,_),(36,_,_)],[(.l 2,_),(.l 3,_)],[],[]⟩) (uAj (⟨sx rfl,sx rfl,sx rfl,sx rfl,trivial⟩) (⟨sx rfl,sx rfl,trivial⟩) trivial) ?_;refine uAn rfl (fun hc5=>?_) (fun hc5=>?_)
     ·try simp only [nn,uAh,uAB,T.rows_len,Gl.rows_len,Fs.rows_len,Sp.rows_len] at hc5
      have hlt : k < g.data.length:=by omega
      have hks:=T.getD_size hlt
      have hts:=T.sizes_take_le g.data k
      refine uAp ?_;refine uAd ?_;refine uAv ?_;refine uAd ?_;refine awp_drawn' (by kernel_rfl) ?_;refine uAD rfl rfl rfl rfl rfl rfl rfl gU rfl rfl rfl rfl rfl ?_;refine uAq rfl rfl rfl rfl (uAg rfl gU rfl rfl) ?_;refine uBa rfl rfl rfl rfl rfl rfl rfl gU rfl rfl rfl rfl ?_;refine uAq rfl rfl rfl rfl (uAc rfl gU) ?_;refine uAq rfl rfl rfl rfl (uAr rfl rfl gU gU rfl rfl rfl (fun hh=>T.rows_at (by first | omega | (simp at hh ⊢; omega) | (simp [isT] at hh ⊢; omega)))) ?_;refine uAq rfl rfl rfl rfl (uAE rfl gU rfl rfl rfl rfl) ?_;refine uAR rfl rfl rfl rfl rfl rfl rfl gU gU (uDU n h1 h2 h4 _ (g.data.getD k default) (Nat.le_refl _) (by omega)) rfl ?_;refine uAq rfl rfl rfl rfl (uAe rfl gU) ?_;refine uA1 (by kernel_rfl) ?_;refine uAl (s:=⟨[(2,_,_),(3,_,_),(5,_,_),(6,_,_)],[(.l 2,_),(.l 3,_)],[],[]⟩) (uAj (⟨sx rfl,sx rfl,sx rfl,sx rfl,trivial⟩) (⟨sx rfl,sx rfl,trivial⟩) trivial) ?_;refine uAd (uAb ?_);refine uAa rfl rfl rfl (uAc rfl gU) ?_;refine uAa rfl rfl rfl (uAk rfl rfl gU gU rfl) ?_;refine uAf ?_;refine uAn rfl (fun hc6=>?_) (fun hc6=>?_)
      ·try simp only [nn,uAh,uAB,T.rows_len,Gl.rows_len,Fs.rows_len,Sp.rows_len] at hc6
       refine uAd (uAb ?_);refine uAa rfl rfl rfl (uAc rfl gU) ?_;refine uAa rfl rfl rfl (uAe rfl gU) ?_;refine uAf ?_;refine uAo ?_
       repeat (first | refine tR ?_ | refine bR ?_)
       refine uAs rfl ?_ trivial
       (rw [uDN hlt hi hc6]; rfl)
      ·try simp only [nn,uAh,uAB,T.rows_len,Gl.rows_len,Fs.rows_len,Sp.rows_len] at hc6
       refine uAp ?_;refine uAb ?_;refine uAa rfl rfl rfl (uAc rfl gU) ?_;refine uAa rfl rfl rfl (uAy rfl rfl gU gU rfl (IntWalk.i64_in _ (by omega))) ?_;refine uAa rfl rfl rfl (uAe rfl gU) ?_;refine uAf ?_;refine ⟨k + 1,?_,?_,uAj (⟨⟨_,rfl,?_⟩,⟨sx rfl,sx rfl,trivial⟩⟩) (⟨sx rfl,sx rfl,trivial⟩) trivial⟩
       all_goals (first | rfl | omega | exact ⟨by omega,uCl hi hc6⟩)
     ·try simp only [nn,uAh,uAB,T.rows_len,Gl.rows_len,Fs.rows_len,Sp.rows_len] at hc5
      have hke : k=g.data.length:=by omega
      subst hke
      refine uAO ?_
      repeat (first | refine uAG ?_ | refine uAF ?_ | refine uAC rfl ?_)
      refine uAd (uAb ?_);refine uAa rfl rfl rfl (uAe rfl gU) ?_;refine uAf ?_;refine uAo ?_
      repeat (first | refine tR ?_ | refine bR ?_)
      refine uAs rfl ?_ trivial
      (rw [uDh hi]; rfl)
  ·try simp only [nn,uAh,uAB,T.rows_len,Gl.rows_len,Fs.rows_len,Sp.rows_len] at hc2
   have ha : ¬ uBm g.kind=true := fun q=>by have := sagree_iff.1 q; omega
   have hE : uCv n g=errs (uCj n.roles (uBh n)) g.data:=by rw [uCv,if_neg c1,if_neg (fun q=>ha q.1)]
   rw [hE]
   refine uAp ?_;refine uAd ?_;refine uAd (uAb ?_);refine uAa rfl rfl rfl (uAe rfl gU) ?_;refine uAf ?_;refine uAv ?_;refine uAW (ι:=Nat) { t:=[(2,_,_),(3,_,_)],bx:=[(.l 2,_),(.l 3,_)],ow:=[] } (fun k=>[(5,true,xi (k : Int))]) (fun k=>[]) (fun k=>k≤g.data.length ∧ ∀ j,j < k→uCj n.roles (uBh n) (g.data.getD j default)=0) (fun k=>g.data.length - k) (0) (⟨by omega,fun j hj=>by omega⟩) (uAj (⟨sx rfl,sx rfl,sx rfl,trivial⟩) (⟨sx rfl,sx rfl,trivial⟩) trivial) ?_
   intro k hokb
   dsimp only [List.cons_append,List.nil_append]
   obtain ⟨hk,hi⟩:=hokb
   refine uAd ?_;refine uAd (uAb ?_);refine uAa rfl rfl rfl (uAc rfl gU) ?_;refine uAa rfl rfl rfl (uAg rfl gU rfl rfl) ?_;refine uAa rfl rfl rfl (uAi rfl gU rfl rfl rfl rfl) ?_;refine uAJ rfl rfl rfl rfl rfl gU rfl rfl ?_ (fun hh=>by simp at hh); intro hlen;refine uAa rfl rfl rfl (uAk rfl rfl gU gU rfl) ?_;refine uAf ?_;refine uAl (s:=⟨[(2,_,_),(3,_,_),(5,_,_),(36,_,_)],[(.l 2,_),(.l 3,_)],[],[]⟩) (uAj (⟨sx rfl,sx rfl,sx rfl,sx rfl,trivial⟩) (⟨sx rfl,sx rfl,trivial⟩) trivial) ?_;refine uAn rfl (fun hc3=>?_) (fun hc3=>?_)
   ·try simp only [nn,uAh,uAB,T.rows_len,Gl.rows_len,Fs.rows_len,Sp.rows_len] at hc3
    have hlt : k < g.data.length:=by omega
    have hks:=T.getD_size hlt
    have hts:=T.sizes_take_le g.data k
    refine uAp ?_;refine uAd ?_;refine uAv ?_;refine uAd ?_;refine awp_drawn' (by kernel_rfl) ?_;refine uAD rfl rfl rfl rfl rfl rfl rfl gU rfl rfl rfl rfl rfl ?_;refine uAq rfl rfl rfl rfl (uAg rfl gU rfl rfl) ?_;refine uBa rfl rfl rfl rfl rfl rfl rfl gU rfl rfl rfl rfl ?_;refine uAq rfl rfl rfl rfl (uAc rfl gU) ?_;refine uAq rfl rfl rfl rfl (uAr rfl rfl gU gU rfl rfl rfl (fun hh=>T.rows_at (by first | omega | (simp at hh ⊢; omega) | (simp [isT] at hh ⊢; omega)))) ?_;refine uAq rfl rfl rfl rfl (uAE rfl gU rfl rfl rfl rfl) ?_;refine uAR rfl rfl rfl rfl rfl rfl rfl gU gU (uDU n h1 h2 h4 _ (g.data.getD k default) (Nat.le_refl _) (by omega)) rfl ?_;refine uAq rfl rfl rfl rfl (uAe rfl gU) ?_;refine uA1 (by kernel_rfl) ?_;refine uAl (s:=⟨[(2,_,_),(3,_,_),(5,_,_),(6,_,_)],[(.l 2,_),(.l 3,_)],[],[]⟩) (uAj (⟨sx rfl,sx rfl,sx rfl,sx rfl,trivial⟩) (⟨sx rfl,sx rfl,trivial⟩) trivial) ?_;refine uAd (uAb ?_);refine uAa rfl rfl rfl (uAc rfl gU) ?_;refine uAa rfl rfl rfl (uAk rfl rfl gU gU rfl) ?_;refine uAf ?_;refine uAn rfl (fun hc4=>?_) (fun hc4=>?_)
    ·try simp only [nn,uAh,uAB,T.rows_len,Gl.rows_len,Fs.rows_len,Sp.rows_len] at hc4
     refine uAd (uAb ?_);refine uAa rfl rfl rfl (uAc rfl gU) ?_;refine uAa rfl rfl rfl (uAe rfl gU) ?_;refine uAf ?_;refine uAo ?_
     repeat (first | refine tR ?_ | refine bR ?_)
     refine uAs rfl ?_ trivial
     (rw [uDN hlt hi hc4]; rfl)
    ·try simp only [nn,uAh,uAB,T.rows_len,Gl.rows_len,Fs.rows_len,Sp.rows_len] at hc4
     refine uAp ?_;refine uAb ?_;refine uAa rfl rfl rfl (uAc rfl gU) ?_;refine uAa rfl rfl rfl (uAy rfl rfl gU gU rfl (IntWalk.i64_in _ (by omega))) ?_;refine uAa rfl rfl rfl (uAe rfl gU) ?_;refine uAf ?_;refine ⟨k + 1,?_,?_,uAj (⟨⟨_,rfl,?_⟩,⟨sx rfl,sx rfl,trivial⟩⟩) (⟨sx rfl,sx rfl,trivial⟩) trivial⟩
     all_goals (first | rfl | omega | exact ⟨by omega,uCl hi hc4⟩)
   ·try simp only [nn,uAh,uAB,T.rows_len,Gl.rows_len,Fs.rows_len,Sp.rows_len] at hc3
    have hke : k=g.data.length:=by omega
    subst hke
    refine uAO ?_
    repeat (first | refine uAG ?_ | refine uAF ?_ | refine uAC rfl ?_)
    refine uAd (uAb ?_);refine uAa rfl rfl rfl (uAe rfl gU) ?_;refine uAf ?_;refine uAo ?_
    repeat (first | refine tR ?_ | refine bR ?_)
    refine uAs rfl ?_ trivial
    (rw [uDh hi]; rfl)
end Go.Proofs.YteidahabkfgfjaaGreat
namespace Go.Proofs.YteidahabkfgfjaaGreat
open Go Go.Abs
theorem uLQ (l : List (List UInt8)) (rs : List (List C)) (s : List UInt8) (h : rs=strR l) : Ctr sys 52 [.v (.c (.sl 1 rs)),xs s] [] (xi (ixS l s)) none []:=by
 subst h; exact uC1 l s
theorem uJF (n : Nar) : (uBh n).length=n.roles.length + (n.fresh.length + n.tags.length):=by rw [uG6]; simp
theorem uIE (n : Nar) : (dclL n).map (·.1)=uBh n:=by
 rw [dclL,uG6]
 simp [List.map_append,List.map_map,Function.comp_def]
theorem uOF {n : Nar} {i : Nat} (h : i < (uBh n).length) : ∃ o,(dclL n)[i]? = some ((uBh n).getD i [],o)∧(if n.roles.length≤i∧i < n.roles.length + n.fresh.length then o=some (n.fresh.getD (i - n.roles.length) default).role else o=none):=by
 have hl:=uJF n
 have hk : (uBh n)[i]? = ((dclL n)[i]?).map (·.1):=by rw [← uIE,List.getElem?_map]
 by_cases h1 : i < n.roles.length
 ·have := uIY h1
  refine ⟨none,?_,by rw [if_neg (by omega)]⟩
  rw [List.getD_eq_getElem?_getD,hk,this]; rfl
 ·by_cases h2 : i < n.roles.length + n.fresh.length
  ·have := uHs (n := n) (k := i - n.roles.length) (by omega)
   rw [show n.roles.length + (i - n.roles.length)=i by omega] at this
   refine ⟨_,?_,by rw [if_pos (by omega)]⟩
   rw [List.getD_eq_getElem?_getD,hk,this]; rfl
  ·have := uLi (n := n) (k := i - n.roles.length - n.fresh.length) (by omega)
   rw [show n.roles.length + (n.fresh.length + (i - n.roles.length - n.fresh.length))=i by omega] at this
   refine ⟨none,?_,by rw [if_neg (by omega)]⟩
   rw [List.getD_eq_getElem?_getD,hk,this]; rfl
theorem uOv {l : List UInt8} {c : UInt8} (h : ∀ j,j < l.length → ¬ (((l.getD j 0).toNat : Nat) : Int)=(c.toNat : Nat)) : l.contains c=false:=by
 rw [Bool.eq_false_iff]
 intro q
 obtain ⟨j,hj,e⟩:=List.mem_iff_getElem.1 (List.contains_iff_mem.1 q)
 exact h j hj (by rw [List.getD_eq_getElem?_getD,List.getElem?_eq_getElem hj,Option.getD_some,e])
theorem uOx {l : List UInt8} {c : UInt8} {j : Nat} (hj : j < l.length) (h : (((l.getD j 0).toNat : Nat) : Int)=(c.toNat : Nat)) : l.contains c=true:=by
 have e : l.getD j 0=c:=UInt8.toNat.inj (by omega)
 rw [List.contains_iff_mem,← e]; exact uCz hj
theorem uGY (n : Nar) (h1 : n.roles.length≤900000) (h2 : n.fresh.length≤900000) (h4 : n.tags.length≤900000) : Ctr sys 44 [xn n] [] (xi (decE n)) none []:=by
 have l1:=uAh n.roles
 have l2:=Fs.rows_len n.fresh
 have l3:=uAh n.tags
 have lk:=uAh (uBh n)
 have hl:=uJF n
 refine uAA Tryz.func44 rfl rfl rfl rfl rfl rfl ?_;refine uAd (uAb ?_);refine uAt rfl (uAI rfl rfl rfl rfl) ?_;refine uAa rfl rfl rfl (uAe rfl gU) ?_;refine uAf ?_;refine uAd (uAb ?_);refine uAa rfl rfl rfl (uAm rfl gU rfl rfl rfl rfl rfl) ?_;refine uAx rfl rfl rfl rfl rfl rfl gU gU (uF7 n h1 h2 h4) rfl ?_;refine uAa rfl rfl rfl (uAc rfl gU) ?_;refine uAa rfl rfl rfl (uAu rfl gU rfl) ?_;refine uAa rfl rfl rfl (uAu rfl gU rfl) ?_;refine uAa rfl rfl rfl (uAe rfl gU) ?_;refine uAa rfl rfl rfl (uAe rfl gU) ?_;refine uAf ?_;refine uAl (s:=⟨[(1,_,_),(3,_,_)],[(.l 1,_)],[],[]⟩) (uAj (⟨sx rfl,sx rfl,trivial⟩) (⟨sx rfl,trivial⟩) trivial) ?_;refine uAd ?_;refine uAd (uAb ?_);refine uAa rfl rfl rfl (uAe rfl gU) ?_;refine uAf ?_;refine uAv ?_;refine uAW (ι:=Nat) { t:=[(1,_,_),(3,_,_)],bx:=[(.l 1,_)],ow:=[] } (fun i=>[(5,true,xi (i : Int))]) (fun i=>[]) (fun i=>i≤(uBh n).length∧decA n.roles ((uBh n).take i) ((dclL n).drop i)=decE n) (fun i=>(uBh n).length - i) (0) (⟨by omega,by simp [decE]⟩) (uAj (⟨sx rfl,sx rfl,sx rfl,trivial⟩) (⟨sx rfl,trivial⟩) trivial) ?_
 intro i hoka
 dsimp only [List.cons_append,List.nil_append]
 obtain ⟨hi,hd⟩:=hoka
 refine uAd ?_;refine uAd (uAb ?_);refine uAa rfl rfl rfl (uAc rfl gU) ?_;refine uAa rfl rfl rfl (uAc rfl gU) ?_;refine uAJ rfl rfl rfl rfl rfl gU rfl rfl ?_ (fun hh=>by simp at hh); intro hlen;refine uAa rfl rfl rfl (uAk rfl rfl gU gU rfl) ?_;refine uAf ?_;refine uAn rfl (fun hc=>?_) (fun hc=>?_)
 ·try simp only [nn,uAh,uAB,T.rows_len,Gl.rows_len,Fs.rows_len,Sp.rows_len] at hc
  have hlt : i < (uBh n).length:=by omega
  obtain ⟨o,hx,ho⟩:=uOF hlt
  have hF : o.isSome=true ↔ (n.roles.length≤i∧i < n.roles.length + n.fresh.length):=by
   split at ho
   ·rename_i q; rw [ho]; exact ⟨fun _=>q,fun _=>rfl⟩
   ·rename_i q; rw [ho]; exact ⟨fun z=>by simp at z,fun z=>absurd z q⟩
  refine uAp ?_;refine uAd ?_;refine uAv ?_;refine uAd (uAb ?_);refine uAa rfl rfl rfl (uAc rfl gU) ?_;refine uAa rfl rfl rfl (uAg rfl gU rfl rfl) ?_;refine uAa rfl rfl rfl (uAi rfl gU rfl rfl rfl rfl) ?_;refine uAJ rfl rfl rfl rfl rfl gU rfl rfl ?_ (fun hh=>by simp at hh); intro hlen;refine uAa rfl rfl rfl (uAk rfl rfl gU gU rfl) ?_;refine uAa rfl rfl rfl (uAc rfl gU) ?_;refine uAa rfl rfl rfl (uAc rfl gU) ?_;refine uAa rfl rfl rfl (uAg rfl gU rfl rfl) ?_;refine uA8 (s:=⟨[(1,_,_),(3,_,_),(5,_,_),(24,_,_),(25,_,_),(26,_,_)],[(.l 1,_)],[],[]⟩) (uAj (⟨sx rfl,sx rfl,sx rfl,sx rfl,sx rfl,sx rfl,trivial⟩) (⟨sx rfl,trivial⟩) trivial) ?_;refine uAa rfl rfl rfl (uAi rfl (fun hh=>hh) rfl rfl rfl rfl) ?_;refine uAa rfl rfl rfl (uA4 rfl (fun hh=>hh) rfl rfl) ?_;refine uAa rfl rfl rfl (uAg rfl gU rfl rfl) ?_;refine uAa rfl rfl rfl (uAi rfl (fun hh=>hh) rfl rfl rfl rfl) ?_;refine uAa rfl rfl rfl (uA4 rfl (fun hh=>hh) rfl rfl) ?_;refine uAa rfl rfl rfl (uAy rfl rfl (fun hh=>hh) (fun hh=>hh) rfl (IntWalk.i64_in _ (by omega))) ?_;refine uAa rfl rfl rfl (uAk rfl rfl (fun hh=>hh) (fun hh=>hh) rfl) ?_;refine uAa rfl rfl rfl (uAH rfl rfl gU (fun _ hi=>gP rfl hi)) ?_;refine uAa rfl rfl rfl (uAe rfl gU) ?_;refine uAf ?_
  refine uAl (s:=⟨[(1,_,_),(3,_,_),(5,_,_),(6,_,_)],[(.l 1,_)],[],[]⟩) (uAj (⟨sx rfl,sx rfl,sx rfl,sx rfl,trivial⟩) (⟨sx rfl,trivial⟩) trivial) ?_;refine uAd ?_;refine uAd (uAb ?_);refine uAa rfl rfl rfl (uAe rfl gU) ?_;refine uAf ?_;refine uAv ?_;refine uAW (ι:=Nat) { t:=[(1,_,_),(3,_,_),(5,_,_),(6,_,_)],bx:=[(.l 1,_)],ow:=[] } (fun k=>[(7,true,xi (k : Int))]) (fun k=>[]) (fun k=>k≤((uBh n).getD i []).length ∧ ∀ j,j < k → ¬ (((((uBh n).getD i []).getD j 0).toNat : Nat) : Int)=35) (fun k=>((uBh n).getD i []).length - k) (0) (⟨by omega,fun j hj=>by omega⟩) (uAj (⟨sx rfl,sx rfl,sx rfl,sx rfl,sx rfl,trivial⟩) (⟨sx rfl,trivial⟩) trivial) ?_
  intro k hokb
  dsimp only [List.cons_append,List.nil_append]
  obtain ⟨hk,hj⟩:=hokb
  refine uAd ?_;refine uAd (uAb ?_);refine uAa rfl rfl rfl (uAc rfl gU) ?_;refine uAa rfl rfl rfl (uAc rfl gU) ?_;refine uAa rfl rfl rfl (uAc rfl gU) ?_;refine uAa rfl rfl rfl (uAr rfl rfl gU gU rfl rfl rfl (fun hh=>uBI (by first | omega | (simp at hh ⊢; omega)))) ?_;refine uAa rfl rfl rfl (uAQ rfl gU rfl rfl rfl) ?_;refine uBJ rfl rfl rfl rfl rfl gU (Tryz.underlying9) ?_ (fun hh=>by simp at hh); intro hlen;refine uAa rfl rfl rfl (uAk rfl rfl gU gU rfl) ?_;refine uAf ?_;refine uAl (s:=⟨[(1,_,_),(3,_,_),(5,_,_),(6,_,_),(7,_,_),(41,_,_)],[(.l 1,_)],[],[]⟩) (uAj (⟨sx rfl,sx rfl,sx rfl,sx rfl,sx rfl,sx rfl,trivial⟩) (⟨sx rfl,trivial⟩) trivial) ?_;refine uAn rfl (fun hc2=>?_) (fun hc2=>?_)
  ·try simp only [nn,uAh,uAB,T.rows_len,Gl.rows_len,Fs.rows_len,Sp.rows_len] at hc2
   refine uAp ?_;refine uAd ?_;refine uAv ?_;refine uAd (uAb ?_);refine uAa rfl rfl rfl (uAc rfl gU) ?_;refine uAa rfl rfl rfl (uAc rfl gU) ?_;refine uAa rfl rfl rfl (uAr rfl rfl gU gU rfl rfl rfl (fun hh=>uBI (by first | omega | (simp at hh ⊢; omega)))) ?_;refine uAa rfl rfl rfl (uAQ rfl gU rfl rfl rfl) ?_;refine uAa rfl rfl rfl (uAc rfl gU) ?_;refine uAa rfl rfl rfl (uAL rfl rfl gU gU Tryz.underlying9 rfl (fun hh=>by first | omega | (simp at hh ⊢; omega))) ?_;refine uAa rfl rfl rfl (uAk rfl rfl gU gU rfl) ?_;refine uAf ?_;refine uAl (s:=⟨[(1,_,_),(3,_,_),(5,_,_),(6,_,_),(7,_,_),(50,_,_)],[(.l 1,_)],[],[]⟩) (uAj (⟨sx rfl,sx rfl,sx rfl,sx rfl,sx rfl,sx rfl,trivial⟩) (⟨sx rfl,trivial⟩) trivial) ?_;refine uAn rfl (fun hc3=>?_) (fun hc3=>?_)
   ·try simp only [nn,uAh,uAB,T.rows_len,Gl.rows_len,Fs.rows_len,Sp.rows_len] at hc3
    have he : dclE n.roles ((uBh n).take i) ((uBh n).getD i [],o)=2:=by rw [dclE,if_pos (uOx (c:=35) (l:=(uBh n).getD i []) (j:=k) (by omega) hc3)]
    have hh:=uCV hx (by rw [he]; simp)
    rw [hd,he] at hh
    refine uAd (uAb ?_);refine uAa rfl rfl rfl (uAe rfl gU) ?_;refine uAf ?_;refine uAo ?_
    repeat (first | refine tR ?_ | refine bR ?_)
    refine uAs rfl ?_ trivial
    (rw [hh]; rfl)
   ·try simp only [nn,uAh,uAB,T.rows_len,Gl.rows_len,Fs.rows_len,Sp.rows_len] at hc3
    refine uAp ?_;refine uAb ?_;refine uAa rfl rfl rfl (uAc rfl gU) ?_;refine uAa rfl rfl rfl (uAy rfl rfl gU gU rfl (IntWalk.i64_in _ (by omega))) ?_;refine uAa rfl rfl rfl (uAe rfl gU) ?_;refine uAf ?_;refine ⟨k + 1,?_,?_,uAj (⟨⟨_,rfl,?_⟩,⟨sx rfl,sx rfl,sx rfl,sx rfl,trivial⟩⟩) (⟨sx rfl,trivial⟩) trivial⟩
    all_goals (first | rfl | omega | exact ⟨by omega,fun j q=>by by_cases e : j=k; subst e; exact hc3; exact hj j (by omega)⟩)
  ·try simp only [nn,uAh,uAB,T.rows_len,Gl.rows_len,Fs.rows_len,Sp.rows_len] at hc2
   have hno : ((uBh n).getD i []).contains 35=false:=uOv (fun j q=>hj j (by omega))
   refine uAO ?_
   repeat (first | refine uAG ?_ | refine uAF ?_ | refine uAC rfl ?_)
   refine uAd ?_;refine uAd (uAb ?_);refine uAa rfl rfl rfl (uAc rfl gU) ?_;refine uAa rfl rfl rfl (uAc rfl gU) ?_;refine uAa rfl rfl rfl (uAc rfl gU) ?_;refine uAa rfl rfl rfl (uAc rfl gU) ?_;refine uAa rfl rfl rfl (uAr rfl rfl (fun hh=>hh) (fun hh=>hh) rfl rfl rfl (fun hh=>uBI (by first | omega | (simp at hh ⊢; omega)))) ?_;refine uAa rfl rfl rfl (uAQ rfl (fun hh=>hh) rfl rfl rfl) ?_;refine uAa rfl rfl rfl (uA2 rfl rfl (fun hh=>hh) gU rfl) ?_;refine uAa rfl rfl rfl (uAc rfl (fun hh=>hh)) ?_;refine uAa rfl rfl rfl (uAc rfl gU) ?_;refine uAa rfl rfl rfl (uAc rfl gU) ?_;refine uAa rfl rfl rfl (uAr rfl rfl (fun hh=>hh) (fun hh=>hh) rfl rfl rfl (fun hh=>uBI (by first | omega | (simp at hh ⊢; omega)))) ?_;refine uAa rfl rfl rfl (uAQ rfl (fun hh=>hh) rfl rfl rfl) ?_;refine uA8 (s:=⟨[(1,_,_),(3,_,_),(5,_,_),(6,_,_),(52,_,_),(58,_,_),(62,_,_)],[(.l 1,_)],[],[]⟩) (uAj (⟨sx rfl,sx rfl,sx rfl,sx rfl,sx rfl,sx rfl,sx rfl,trivial⟩) (⟨sx rfl,trivial⟩) trivial) ?_;refine uAa rfl rfl rfl (uA2 rfl rfl (fun hh=>hh) gU rfl) ?_;refine uAa rfl rfl rfl (uAN rfl rfl (fun hh=>hh) (fun hh hi=>gP hh hi)) ?_;refine uAa rfl rfl rfl (uAH rfl rfl gU (fun _ hi=>gP rfl hi)) ?_;refine uAf ?_
   have n1 : ¬((uBh n).getD i []).contains 35=true:=by rw [hno]; simp
   refine uAn rfl (fun hc3=>?_) (fun hc3=>?_)
   ·try simp only [nn,uAh,uAB,T.rows_len,Gl.rows_len,Fs.rows_len,Sp.rows_len] at hc3
    have he : dclE n.roles ((uBh n).take i) ((uBh n).getD i [],o)=1:=by rw [dclE,if_neg n1,if_pos ⟨hF.2 (by omega),hc3.2⟩]
    have hh:=uCV hx (by rw [he]; simp)
    rw [hd,he] at hh
    refine uAd (uAb ?_);refine uAa rfl rfl rfl (uAe rfl gU) ?_;refine uAf ?_;refine uAo ?_
    repeat (first | refine tR ?_ | refine bR ?_)
    refine uAs rfl ?_ trivial
    (rw [hh]; rfl)
   ·try simp only [nn,uAh,uAB,T.rows_len,Gl.rows_len,Fs.rows_len,Sp.rows_len] at hc3
    have n2 : ¬(o.isSome=true∧((uBh n).getD i []=[101]∨(uBh n).getD i []=[103])):=by
     rintro ⟨q1,q2⟩
     have := hF.1 q1
     rcases hc3 with z | z
     ·omega
     ·exact q2.elim z.1 z.2
    refine uAp ?_;refine uAd ?_;refine uAd ?_;refine awp_drawn' (by kernel_rfl) ?_;refine uAq rfl rfl rfl rfl (uAc rfl gU) ?_;refine uAq rfl rfl rfl rfl (uAc rfl gU) ?_;refine uAq rfl rfl rfl rfl (uDY rfl gU rfl rfl (fun _=>rfl) (fun _=>⟨_,_,_,rfl,gU,rfl⟩) (fun hh=>by first | omega | (simp at hh ⊢; omega)) (fun hh=>by first | omega | (simp at hh ⊢; omega))) ?_;refine uAq rfl rfl rfl rfl (uAc rfl gU) ?_;refine uAq rfl rfl rfl rfl (uAc rfl gU) ?_;refine uAq rfl rfl rfl rfl (uAr rfl rfl gU gU rfl rfl rfl (fun hh=>uBI (by first | omega | (simp at hh ⊢; omega)))) ?_;refine uAq rfl rfl rfl rfl (uAQ rfl gU rfl rfl rfl) ?_;refine uAR rfl rfl rfl rfl rfl rfl rfl gU gU (uLQ _ _ _ (uLL _ _)) rfl ?_;refine uAq rfl rfl rfl rfl (uAk rfl rfl gU gU rfl) ?_;refine uA1 (by kernel_rfl) ?_;refine uAl (s:=⟨[(1,_,_),(3,_,_),(5,_,_),(6,_,_),(74,_,_)],[(.l 1,_)],[],[]⟩) (uAj (⟨sx rfl,sx rfl,sx rfl,sx rfl,sx rfl,trivial⟩) (⟨sx rfl,trivial⟩) trivial) ?_;refine uAn rfl (fun hc4=>?_) (fun hc4=>?_)
    ·try simp only [nn,uAh,uAB,T.rows_len,Gl.rows_len,Fs.rows_len,Sp.rows_len] at hc4
     have h5:=(uFv _ _).1 hc4
     have he : dclE n.roles ((uBh n).take i) ((uBh n).getD i [],o)=5:=by rw [dclE,if_neg n1,if_neg n2,if_pos h5]
     have hh:=uCV hx (by rw [he]; simp)
     rw [hd,he] at hh
     refine uAd (uAb ?_);refine uAa rfl rfl rfl (uAe rfl gU) ?_;refine uAf ?_;refine uAo ?_
     repeat (first | refine tR ?_ | refine bR ?_)
     refine uAs rfl ?_ trivial
     (rw [hh]; rfl)
    ·try simp only [nn,uAh,uAB,T.rows_len,Gl.rows_len,Fs.rows_len,Sp.rows_len] at hc4
     have h5:=(uDb ((uBh n).take i) ((uBh n).getD i [])).1 (by omega)
     have n3 : ¬((uBh n).take i).contains ((uBh n).getD i [])=true:=by rw [h5]; simp
     refine uAp ?_;refine uAd ?_;refine awp_drawn' (by kernel_rfl) ?_;refine uAq rfl rfl rfl rfl (uAc rfl gU) ?_;refine uAq rfl rfl rfl rfl (uAc rfl gU) ?_;refine uAq rfl rfl rfl rfl (uAg rfl gU rfl rfl) ?_;refine uBa rfl rfl rfl rfl rfl rfl rfl (fun hh=>hh) rfl rfl rfl rfl ?_;refine uAq rfl rfl rfl rfl (uAg rfl gU rfl rfl) ?_;refine uBa rfl rfl rfl rfl rfl rfl rfl (fun hh=>hh) rfl rfl rfl rfl ?_;refine uAq rfl rfl rfl rfl (uAc rfl gU) ?_;refine uAq rfl rfl rfl rfl (uAg rfl gU rfl rfl) ?_;refine uBa rfl rfl rfl rfl rfl rfl rfl (fun hh=>hh) rfl rfl rfl rfl ?_;refine uAq rfl rfl rfl rfl (uA4 rfl (fun hh=>hh) rfl rfl) ?_;refine uAq rfl rfl rfl rfl (uAy rfl rfl (fun hh=>hh) (fun hh=>hh) rfl (IntWalk.i64_in _ (by omega))) ?_;refine uAq rfl rfl rfl rfl (uGb (j:=i - n.roles.length) rfl rfl (by first | exact fun hh=>hh | exact fun _=>rfl | exact fun hh=>gL hh | exact fun hh=>gL (gL hh) | (intro hh; simp_all)) (by first | exact fun hh=>hh | exact fun _=>rfl | exact fun hh=>gL hh | exact fun hh=>gL (gL hh) | (intro hh; simp_all)) rfl rfl (fun hh=>by simp at hh; omega) (fun hh=>Fs.rows_at (by simp at hh; omega))) ?_;refine uAq rfl rfl rfl rfl (uA0 rfl (fun hh=>hh) rfl rfl) ?_;refine uAq rfl rfl rfl rfl (uAQ rfl (fun hh=>hh) rfl rfl rfl) ?_;refine uAR rfl rfl rfl rfl rfl rfl rfl gU (fun hh=>gA ((fun hh=>hh) hh) (gA ((fun hh=>hh) hh) (rfl))) (uC1 _ _) rfl ?_
     refine uAq rfl rfl rfl rfl (uAk rfl rfl (fun hh=>hh) gU rfl) ?_;refine uAq rfl rfl rfl rfl (uAH rfl rfl gU (fun _ hi=>gP rfl hi)) ?_;refine uA1 (by kernel_rfl) ?_;refine uAl (s:=⟨[(1,_,_),(3,_,_),(5,_,_),(91,_,_)],[(.l 1,_)],[],[]⟩) (uAj (⟨sx rfl,sx rfl,sx rfl,sx rfl,trivial⟩) (⟨sx rfl,trivial⟩) trivial) ?_;refine uAn rfl (fun hc5=>?_) (fun hc5=>?_)
     ·try simp only [nn,uAh,uAB,T.rows_len,Gl.rows_len,Fs.rows_len,Sp.rows_len] at hc5
      have hr:=(uDb _ _).1 hc5.2
      rw [if_pos (by omega)] at ho
      have he : dclE n.roles ((uBh n).take i) ((uBh n).getD i [],o)=13:=by rw [dclE,if_neg n1,if_neg n2,if_neg n3,ho]; exact if_neg (by rw [hr]; simp)
      have hh:=uCV hx (by rw [he]; simp)
      rw [hd,he] at hh
      refine uAd (uAb ?_);refine uAa rfl rfl rfl (uAe rfl gU) ?_;refine uAf ?_;refine uAo ?_
      repeat (first | refine tR ?_ | refine bR ?_)
      refine uAs rfl ?_ trivial
      (rw [hh]; rfl)
     ·try simp only [nn,uAh,uAB,T.rows_len,Gl.rows_len,Fs.rows_len,Sp.rows_len] at hc5
      have he : dclE n.roles ((uBh n).take i) ((uBh n).getD i [],o)=0:=by
       rw [dclE,if_neg n1,if_neg n2,if_neg n3]
       split at ho
       ·rename_i q
        have hr:=(uFv n.roles (n.fresh.getD (i - n.roles.length) default).role).1 (by omega)
        rw [ho]; exact if_pos hr
       ·rw [ho]
      have hh:=uGk hx he
      rw [hd] at hh
      refine uAp ?_;refine uAb ?_;refine uAa rfl rfl rfl (uAc rfl gU) ?_;refine uAa rfl rfl rfl (uAy rfl rfl gU gU rfl (IntWalk.i64_in _ (by omega))) ?_;refine uAa rfl rfl rfl (uAe rfl gU) ?_;refine uAf ?_;refine ⟨i + 1,?_,?_,uAj (⟨⟨_,rfl,?_⟩,⟨sx rfl,sx rfl,trivial⟩⟩) (⟨sx rfl,trivial⟩) trivial⟩
      all_goals (first | rfl | omega | exact ⟨by omega,by rw [uBx (d:=[]) hlt]; exact hh.symm⟩)
 ·try simp only [nn,uAh,uAB,T.rows_len,Gl.rows_len,Fs.rows_len,Sp.rows_len] at hc
  rw [List.drop_of_length_le (by have := congrArg List.length (uIE n); rw [List.length_map] at this; omega)] at hd
  refine uAO ?_
  repeat (first | refine uAG ?_ | refine uAF ?_ | refine uAC rfl ?_)
  refine uAd (uAb ?_);refine uAa rfl rfl rfl (uAe rfl gU) ?_;refine uAf ?_;refine uAo ?_
  repeat (first | refine tR ?_ | refine bR ?_)
  refine uAs rfl ?_ trivial
  (rw [← hd]; rfl)
set_option maxHeartbeats 4000000 in
theorem uJJ (n : Nar) (hs : ∀ s ∈ n.steps,s.msg.size≤900000) (hg : ∀ g ∈ n.goals,T.sizes g.data≤900000) : Ctr sys 14 [xn n] [] (xii (chkE uAK n)) none []:=by
 have l5:=Sp.rows_len n.steps
 have l6:=Gl.rows_len n.goals
 refine uAA Tryz.func14 rfl rfl rfl rfl rfl rfl ?_;refine uAd (uAb ?_);refine uAt rfl (uAI rfl rfl rfl rfl) ?_;refine uAa rfl rfl rfl (uAe rfl gU) ?_;refine uAa rfl rfl rfl (uAe rfl gU) ?_;refine uAf ?_;refine uAd ?_;refine uAd (uAb ?_);refine uAa rfl rfl rfl (uAm rfl gU rfl rfl rfl rfl rfl) ?_;refine uAx rfl rfl rfl rfl rfl rfl gU gU (uF4 _ hs hg) rfl ?_;refine uAa rfl rfl rfl (uAe rfl gU) ?_;refine uAf ?_;refine uAl (s:=⟨[(1,_,_),(4,_,_)],[(.l 1,_)],[],[]⟩) (uAj (⟨sx rfl,sx rfl,trivial⟩) (⟨sx rfl,trivial⟩) trivial) ?_;refine uAd (uAb ?_);refine uAa rfl rfl rfl (uAc rfl gU) ?_;refine uAa rfl rfl rfl (uAk rfl rfl gU gU rfl) ?_;refine uAf ?_;refine uAn rfl (fun hc=>?_) (fun hc=>?_)
 ·try simp only [nn,uAh,uAB,T.rows_len,Gl.rows_len,Fs.rows_len,Sp.rows_len] at hc
  refine uAd (uAb ?_);refine uAa rfl rfl rfl (uAc rfl gU) ?_;refine uAa rfl rfl rfl (uAe rfl gU) ?_;refine uAa rfl rfl rfl (uAe rfl gU) ?_;refine uAf ?_;refine uAo ?_
  repeat (first | refine tR ?_ | refine bR ?_)
  refine uAs rfl ?_ trivial
  (rw [chkE,if_pos hc]; rfl)
 ·try simp only [nn,uAh,uAB,T.rows_len,Gl.rows_len,Fs.rows_len,Sp.rows_len] at hc
  have hok:=uFI (n:=n) hc
  have b1 : n.roles.length≤900000 := by have := hok.r2; omega
  have b2 : n.fresh.length≤900000 := by have := hok.f2; omega
  have b3 : n.tags.length≤900000 := by have := hok.t2; omega
  have e1 : chkE uAK n=if decE n≠0 then (0,decE n) else useE n:=by rw [chkE,if_neg (by simpa using hc)]
  rw [e1]
  refine uAp ?_;refine uAd ?_;refine uAd (uAb ?_);refine uAa rfl rfl rfl (uAm rfl gU rfl rfl rfl rfl rfl) ?_;refine uAx rfl rfl rfl rfl rfl rfl gU gU (uGY n b1 b2 b3) rfl ?_;refine uAa rfl rfl rfl (uAe rfl gU) ?_;refine uAf ?_;refine uAl (s:=⟨[(1,_,_),(5,_,_)],[(.l 1,_)],[],[]⟩) (uAj (⟨sx rfl,sx rfl,trivial⟩) (⟨sx rfl,trivial⟩) trivial) ?_;refine uAd (uAb ?_);refine uAa rfl rfl rfl (uAc rfl gU) ?_;refine uAa rfl rfl rfl (uAk rfl rfl gU gU rfl) ?_;refine uAf ?_;refine uAn rfl (fun hc2=>?_) (fun hc2=>?_)
  ·try simp only [nn,uAh,uAB,T.rows_len,Gl.rows_len,Fs.rows_len,Sp.rows_len] at hc2
   refine uAd (uAb ?_);refine uAa rfl rfl rfl (uAc rfl gU) ?_;refine uAa rfl rfl rfl (uAe rfl gU) ?_;refine uAa rfl rfl rfl (uAe rfl gU) ?_;refine uAf ?_;refine uAo ?_
   repeat (first | refine tR ?_ | refine bR ?_)
   refine uAs rfl ?_ trivial
   (rw [if_pos hc2]; rfl)
  ·try simp only [nn,uAh,uAB,T.rows_len,Gl.rows_len,Fs.rows_len,Sp.rows_len] at hc2
   rw [if_neg (by simpa using hc2)]
   refine uAp ?_;refine uAd ?_;refine uAd (uAb ?_);refine uAa rfl rfl rfl (uAe rfl gU) ?_;refine uAf ?_;refine uAv ?_;refine uAW (ι:=Nat) { t:=[(1,_,_)],bx:=[(.l 1,_)],ow:=[] } (fun k=>[(6,true,xi (k : Int))]) (fun k=>[]) (fun k=>k≤n.steps.length ∧ ∀ j,j < k→uDk n (n.steps.getD j default)=0) (fun k=>n.steps.length - k) (0) (⟨by omega,fun j hj=>by omega⟩) (uAj (⟨sx rfl,sx rfl,trivial⟩) (⟨sx rfl,trivial⟩) trivial) ?_
   intro k hoka
   dsimp only [List.cons_append,List.nil_append]
   obtain ⟨hk,hi⟩:=hoka
   refine uAd ?_;refine uAd (uAb ?_);refine uAa rfl rfl rfl (uAc rfl gU) ?_;refine uAa rfl rfl rfl (uAg rfl gU rfl rfl) ?_;refine uAa rfl rfl rfl (uAi rfl gU rfl rfl rfl rfl) ?_;refine uAJ rfl rfl rfl rfl rfl gU rfl rfl ?_ (fun hh=>by simp at hh); intro hlen;refine uAa rfl rfl rfl (uAk rfl rfl gU gU rfl) ?_;refine uAf ?_;refine uAl (s:=⟨[(1,_,_),(6,_,_),(24,_,_)],[(.l 1,_)],[],[]⟩) (uAj (⟨sx rfl,sx rfl,sx rfl,trivial⟩) (⟨sx rfl,trivial⟩) trivial) ?_;refine uAn rfl (fun hc3=>?_) (fun hc3=>?_)
   ·try simp only [nn,uAh,uAB,T.rows_len,Gl.rows_len,Fs.rows_len,Sp.rows_len] at hc3
    have hlt : k < n.steps.length:=by omega
    have hks:=hs _ (uCz (d:=default) hlt)
    refine uAp ?_;refine uAd ?_;refine uAv ?_;refine uAd ?_;refine awp_drawn' (by kernel_rfl) ?_;refine uAD rfl rfl rfl rfl rfl rfl rfl gU rfl rfl rfl rfl rfl ?_;refine uAq rfl rfl rfl rfl (uAg rfl gU rfl rfl) ?_;refine uBa rfl rfl rfl rfl rfl rfl rfl gU rfl rfl rfl rfl ?_;refine uAq rfl rfl rfl rfl (uAc rfl gU) ?_;refine uAq rfl rfl rfl rfl (uAr rfl rfl gU gU rfl rfl rfl (fun hh=>Sp.rows_at (by first | omega | (simp at hh ⊢; omega)))) ?_;refine uAq rfl rfl rfl rfl (uAE rfl gU rfl rfl rfl rfl) ?_;refine uAR rfl rfl rfl rfl rfl rfl rfl gU gU (uHZ n (n.steps.getD k default) b1 b2 b3 hks) rfl ?_;refine uAq rfl rfl rfl rfl (uAe rfl gU) ?_;refine uA1 (by kernel_rfl) ?_;refine uAl (s:=⟨[(1,_,_),(6,_,_),(7,_,_)],[(.l 1,_)],[],[]⟩) (uAj (⟨sx rfl,sx rfl,sx rfl,trivial⟩) (⟨sx rfl,trivial⟩) trivial) ?_;refine uAd (uAb ?_);refine uAa rfl rfl rfl (uAc rfl gU) ?_;refine uAa rfl rfl rfl (uAk rfl rfl gU gU rfl) ?_;refine uAf ?_;refine uAn rfl (fun hc4=>?_) (fun hc4=>?_)
    ·try simp only [nn,uAh,uAB,T.rows_len,Gl.rows_len,Fs.rows_len,Sp.rows_len] at hc4
     have hh:=uGl (ln:=Sp.line) hlt hi hc4
     have hu : useE n=((n.steps.getD k default).line,uDk n (n.steps.getD k default)):=by rw [useE,if_pos (by rw [hh]; exact hc4),hh]
     rw [hu]
     refine uAd (uAb ?_);refine uAa rfl rfl rfl (uAg rfl gU rfl rfl) ?_;refine uAa rfl rfl rfl (uAi rfl gU rfl rfl rfl rfl) ?_;refine uAa rfl rfl rfl (uAc rfl gU) ?_;refine uAa rfl rfl rfl (uAr rfl rfl gU gU rfl rfl rfl (fun hh=>Sp.rows_at (by first | omega | (simp at hh ⊢; omega)))) ?_;refine uAa rfl rfl rfl (uA0 rfl gU rfl rfl) ?_;refine uAa rfl rfl rfl (uAQ rfl gU rfl rfl rfl) ?_;refine uAa rfl rfl rfl (uAc rfl gU) ?_;refine uAa rfl rfl rfl (uAe rfl gU) ?_;refine uAa rfl rfl rfl (uAe rfl gU) ?_;refine uAf ?_;refine uAo ?_
     repeat (first | refine tR ?_ | refine bR ?_)
     refine uAs rfl ?_ trivial
     rfl
    ·try simp only [nn,uAh,uAB,T.rows_len,Gl.rows_len,Fs.rows_len,Sp.rows_len] at hc4
     refine uAp ?_;refine uAb ?_;refine uAa rfl rfl rfl (uAc rfl gU) ?_;refine uAa rfl rfl rfl (uAy rfl rfl gU gU rfl (IntWalk.i64_in _ (by omega))) ?_;refine uAa rfl rfl rfl (uAe rfl gU) ?_;refine uAf ?_;refine ⟨k + 1,?_,?_,uAj (⟨⟨_,rfl,?_⟩,⟨sx rfl,trivial⟩⟩) (⟨sx rfl,trivial⟩) trivial⟩
     all_goals (first | rfl | omega | exact ⟨by omega,uCl hi hc4⟩)
   ·try simp only [nn,uAh,uAB,T.rows_len,Gl.rows_len,Fs.rows_len,Sp.rows_len] at hc3
    have hke : k=n.steps.length:=by omega
    subst hke
    have hus : useE n=lnE (uCv n) Gl.line n.goals:=by rw [useE,if_neg (by rw [uFc (ln:=Sp.line) hi]; simp)]
    rw [hus]
    refine uAO ?_
    repeat (first | refine uAG ?_ | refine uAF ?_ | refine uAC rfl ?_)
    refine uAd ?_;refine uAd (uAb ?_);refine uAa rfl rfl rfl (uAe rfl gU) ?_;refine uAf ?_;refine uAv ?_;refine uAW (ι:=Nat) { t:=[(1,_,_)],bx:=[(.l 1,_)],ow:=[] } (fun j=>[(8,true,xi (j : Int))]) (fun j=>[]) (fun j=>j≤n.goals.length ∧ ∀ i,i < j→uCv n (n.goals.getD i default)=0) (fun j=>n.goals.length - j) (0) (⟨by omega,fun j hj=>by omega⟩) (uAj (⟨sx rfl,sx rfl,trivial⟩) (⟨sx rfl,trivial⟩) trivial) ?_
    intro j hokb
    dsimp only [List.cons_append,List.nil_append]
    obtain ⟨hj,hi2⟩:=hokb
    refine uAd ?_;refine uAd (uAb ?_);refine uAa rfl rfl rfl (uAc rfl gU) ?_;refine uAa rfl rfl rfl (uAg rfl gU rfl rfl) ?_;refine uAa rfl rfl rfl (uAi rfl gU rfl rfl rfl rfl) ?_;refine uAJ rfl rfl rfl rfl rfl gU rfl rfl ?_ (fun hh=>by simp at hh); intro hlen;refine uAa rfl rfl rfl (uAk rfl rfl gU gU rfl) ?_;refine uAf ?_;refine uAl (s:=⟨[(1,_,_),(8,_,_),(47,_,_)],[(.l 1,_)],[],[]⟩) (uAj (⟨sx rfl,sx rfl,sx rfl,trivial⟩) (⟨sx rfl,trivial⟩) trivial) ?_;refine uAn rfl (fun hc4=>?_) (fun hc4=>?_)
    ·try simp only [nn,uAh,uAB,T.rows_len,Gl.rows_len,Fs.rows_len,Sp.rows_len] at hc4
     have hlt : j < n.goals.length:=by omega
     have hks:=hg _ (uCz (d:=default) hlt)
     refine uAp ?_;refine uAd ?_;refine uAv ?_;refine uAd ?_;refine awp_drawn' (by kernel_rfl) ?_;refine uAD rfl rfl rfl rfl rfl rfl rfl gU rfl rfl rfl rfl rfl ?_;refine uAq rfl rfl rfl rfl (uAg rfl gU rfl rfl) ?_;refine uBa rfl rfl rfl rfl rfl rfl rfl gU rfl rfl rfl rfl ?_;refine uAq rfl rfl rfl rfl (uAc rfl gU) ?_;refine uAq rfl rfl rfl rfl (uAr rfl rfl gU gU rfl rfl rfl (fun hh=>Gl.rows_at (by first | omega | (simp at hh ⊢; omega)))) ?_;refine uAq rfl rfl rfl rfl (uAE rfl gU rfl rfl rfl rfl) ?_;refine uAR rfl rfl rfl rfl rfl rfl rfl gU gU (uId n (n.goals.getD j default) b1 b2 b3 hks) rfl ?_;refine uAq rfl rfl rfl rfl (uAe rfl gU) ?_;refine uA1 (by kernel_rfl) ?_;refine uAl (s:=⟨[(1,_,_),(8,_,_),(9,_,_)],[(.l 1,_)],[],[]⟩) (uAj (⟨sx rfl,sx rfl,sx rfl,trivial⟩) (⟨sx rfl,trivial⟩) trivial) ?_;refine uAd (uAb ?_);refine uAa rfl rfl rfl (uAc rfl gU) ?_;refine uAa rfl rfl rfl (uAk rfl rfl gU gU rfl) ?_;refine uAf ?_;refine uAn rfl (fun hc5=>?_) (fun hc5=>?_)
     ·try simp only [nn,uAh,uAB,T.rows_len,Gl.rows_len,Fs.rows_len,Sp.rows_len] at hc5
      rw [uGl (ln:=Gl.line) hlt hi2 hc5]
      refine uAd (uAb ?_);refine uAa rfl rfl rfl (uAg rfl gU rfl rfl) ?_;refine uAa rfl rfl rfl (uAi rfl gU rfl rfl rfl rfl) ?_;refine uAa rfl rfl rfl (uAc rfl gU) ?_;refine uAa rfl rfl rfl (uAr rfl rfl gU gU rfl rfl rfl (fun hh=>Gl.rows_at (by first | omega | (simp at hh ⊢; omega)))) ?_;refine uAa rfl rfl rfl (uA0 rfl gU rfl rfl) ?_;refine uAa rfl rfl rfl (uAQ rfl gU rfl rfl rfl) ?_;refine uAa rfl rfl rfl (uAc rfl gU) ?_;refine uAa rfl rfl rfl (uAe rfl gU) ?_;refine uAa rfl rfl rfl (uAe rfl gU) ?_;refine uAf ?_;refine uAo ?_
      repeat (first | refine tR ?_ | refine bR ?_)
      refine uAs rfl ?_ trivial
      rfl
     ·try simp only [nn,uAh,uAB,T.rows_len,Gl.rows_len,Fs.rows_len,Sp.rows_len] at hc5
      refine uAp ?_;refine uAb ?_;refine uAa rfl rfl rfl (uAc rfl gU) ?_;refine uAa rfl rfl rfl (uAy rfl rfl gU gU rfl (IntWalk.i64_in _ (by omega))) ?_;refine uAa rfl rfl rfl (uAe rfl gU) ?_;refine uAf ?_;refine ⟨j + 1,?_,?_,uAj (⟨⟨_,rfl,?_⟩,⟨sx rfl,trivial⟩⟩) (⟨sx rfl,trivial⟩) trivial⟩
      all_goals (first | rfl | omega | exact ⟨by omega,uCl hi2 hc5⟩)
    ·try simp only [nn,uAh,uAB,T.rows_len,Gl.rows_len,Fs.rows_len,Sp.rows_len] at hc4
     have hje : j=n.goals.length:=by omega
     subst hje
     rw [uFc (ln:=Gl.line) hi2]
     refine uAO ?_
     repeat (first | refine uAG ?_ | refine uAF ?_ | refine uAC rfl ?_)
     refine uAd (uAb ?_);refine uAa rfl rfl rfl (uAe rfl gU) ?_;refine uAa rfl rfl rfl (uAe rfl gU) ?_;refine uAf ?_;refine uAo ?_
     repeat (first | refine tR ?_ | refine bR ?_)
     refine uAs rfl ?_ trivial
     rfl
end Go.Proofs.YteidahabkfgfjaaGreat
namespace Go.Proofs.YteidahabkfgfjaaGreat
open Go Go.Abs
namespace T
mutual
def bud : T→Int→Int
 | mk _ nm _ ks,m=>if m≤0∨40 < nm.length then -1 else buds ks (m - 1)
def buds : List T→Int→Int
 | [],m=>m
 | t :: ts,m=>if bud t m < 0 then -1 else buds ts (bud t m)
end
theorem bud_eq (t : T) (m : Int) : t.bud m=if m≤0∨40 < t.name.length then -1 else buds t.kids (m - 1):=by cases t; rw [bud]; rfl
mutual
theorem uOH : ∀ (t : T) (m : Int),0≤t.bud m→t.bud m + t.size≤m
 | mk _ nm _ ks,m,h=>by
  rw [bud] at h ⊢
  rw [size]
  split at h
  ·omega
  ·rename_i hn
   rw [if_neg hn]
   have := buds_le ks (m - 1) h
   omega
theorem buds_le : ∀ (ts : List T) (m : Int),0≤buds ts m→buds ts m + sizes ts≤m
 | [],m,_=>by rw [buds,sizes]; omega
 | t :: ts,m,h=>by
  rw [buds] at h ⊢
  rw [sizes]
  split at h
  ·omega
  ·rename_i hn
   rw [if_neg hn]
   have h1:=uOH t m (by omega)
   have h2:=buds_le ts (t.bud m) h
   omega
end
theorem buds_step : ∀ (ts : List T) (k : Nat) (x : T) (m : Int),ts[k]? = some x→0≤buds (ts.take k) m→0≤x.bud (buds (ts.take k) m)→buds (ts.take (k + 1)) m=x.bud (buds (ts.take k) m)
 | [],k,x,m,h,_,_=>by simp at h
 | t :: ts,0,x,m,h,h0,hx=>by
  simp at h; subst h
  simp only [List.take_zero,buds] at hx ⊢
  simp only [List.take_succ_cons,List.take_zero,buds]
  rw [if_neg (by omega)]
 | t :: ts,k + 1,x,m,h,h0,hx=>by
  rw [List.take_succ_cons,buds] at h0 hx ⊢
  rw [List.take_succ_cons,buds]
  split at h0
  ·omega
  ·rename_i hn
   rw [if_neg hn] at hx ⊢
   rw [if_neg hn]
   exact buds_step ts k x _ (by simpa using h) h0 hx
theorem buds_hit : ∀ (ts : List T) (k : Nat) (x : T) (m : Int),ts[k]? = some x→0≤buds (ts.take k) m→x.bud (buds (ts.take k) m) < 0→buds ts m = -1
 | [],k,x,m,h,_,_=>by simp at h
 | t :: ts,0,x,m,h,h0,hx=>by
  simp at h; subst h
  simp only [List.take_zero,buds] at hx
  rw [buds,if_pos hx]
 | t :: ts,k + 1,x,m,h,h0,hx=>by
  rw [List.take_succ_cons,buds] at h0 hx
  rw [buds]
  split at h0
  ·omega
  ·rename_i hn
   rw [if_neg hn] at hx ⊢
   exact buds_hit ts k x _ (by simpa using h) h0 hx
end T
def fewB (l : List T) (n : Nat) (m : Int) : Bool:=decide (l.length≤n) && decide (0≤T.buds l m)
theorem uKB {l : List T} {n : Nat} {m : Int} (h : fewB l n m=true) : l.length≤n∧T.sizes l≤m:=by
 simp only [fewB,Bool.and_eq_true,decide_eq_true_eq] at h
 have := T.buds_le l m h.2
 exact ⟨h.1,by omega⟩
def budS (t : T) (m : Int) (k : Nat) : St:={ t:=[(1,true,xi (T.buds (t.kids.take k) (m - 1))),(2,true, .v (.ptr (.l 2) 0)),(5,true,xi k)],bx:=[(.l 2,t.cells)],ow:=[] }
theorem uJE : ∀ (n : Nat) (t : T) (m : Int),m≤n→n≤2000000 → -2000000≤m→Ctr sys 70 [xm t,xi m] [] (xi (t.bud m)) none []:=by
 intro n
 induction n with
 | zero =>
  intro t m hm _ _
  refine uAA Tryz.func70 rfl rfl rfl rfl rfl rfl ?_;refine uAd (uAb ?_);refine uAt rfl (uAI rfl rfl rfl rfl) ?_;refine uAa rfl rfl rfl (uAe rfl gU) ?_;refine uAf ?_;refine uAd ?_;refine uAd (uAb ?_);refine uAa rfl rfl rfl (uAc rfl gU) ?_;refine uAa rfl rfl rfl (uAk rfl rfl gU gU rfl) ?_;refine uAa rfl rfl rfl (uAc rfl gU) ?_;refine uAa rfl rfl rfl (uAg rfl gU rfl rfl) ?_;refine uAa rfl rfl rfl (uAi rfl (fun hh=>hh) rfl rfl rfl rfl) ?_;refine uAa rfl rfl rfl (uB9 rfl (fun hh=>hh) (Tryz.underlying9)) ?_;refine uAa rfl rfl rfl (uAk rfl rfl (fun hh=>hh) gU rfl) ?_;refine uAa rfl rfl rfl (uAN rfl rfl gU (fun _ hi=>gP rfl hi)) ?_;refine uAf ?_;refine uAl (s:=⟨[(1,_,_),(2,_,_),(13,_,_)],[(.l 2,_)],[],[]⟩) (uAj (⟨sx rfl,sx rfl,sx rfl,trivial⟩) (⟨sx rfl,trivial⟩) trivial) ?_;refine uAn rfl (fun hc=>?_) (fun hc=>?_)
  ·refine uAd (uAb ?_)
   refine uAa rfl rfl rfl (uAe rfl gU) ?_;refine uAf ?_;refine uAo ?_
   repeat (first | refine tR ?_ | refine bR ?_)
   refine uAs rfl ?_ trivial;refine uA7 ?_
   rw [T.bud_eq,if_pos (by omega)]
  ·simp only [Bool.or_eq_false_iff,decide_eq_false_iff_not] at hc
   omega
 | succ n ih =>
  intro t m hm hn hm2
  refine uAA Tryz.func70 rfl rfl rfl rfl rfl rfl ?_;refine uAd (uAb ?_);refine uAt rfl (uAI rfl rfl rfl rfl) ?_;refine uAa rfl rfl rfl (uAe rfl gU) ?_;refine uAf ?_;refine uAd ?_;refine uAd (uAb ?_);refine uAa rfl rfl rfl (uAc rfl gU) ?_;refine uAa rfl rfl rfl (uAk rfl rfl gU gU rfl) ?_;refine uAa rfl rfl rfl (uAc rfl gU) ?_;refine uAa rfl rfl rfl (uAg rfl gU rfl rfl) ?_;refine uAa rfl rfl rfl (uAi rfl (fun hh=>hh) rfl rfl rfl rfl) ?_;refine uAa rfl rfl rfl (uB9 rfl (fun hh=>hh) (Tryz.underlying9)) ?_;refine uAa rfl rfl rfl (uAk rfl rfl (fun hh=>hh) gU rfl) ?_;refine uAa rfl rfl rfl (uAN rfl rfl gU (fun _ hi=>gP rfl hi)) ?_;refine uAf ?_;refine uAl (s:=⟨[(1,_,_),(2,_,_),(13,_,_)],[(.l 2,_)],[],[]⟩) (uAj (⟨sx rfl,sx rfl,sx rfl,trivial⟩) (⟨sx rfl,trivial⟩) trivial) ?_;refine uAn rfl (fun hc=>?_) (fun hc=>?_)
  ·refine uAd (uAb ?_)
   refine uAa rfl rfl rfl (uAe rfl gU) ?_;refine uAf ?_;refine uAo ?_
   repeat (first | refine tR ?_ | refine bR ?_)
   refine uAs rfl ?_ trivial;refine uA7 ?_
   simp only [Bool.or_eq_true,decide_eq_true_eq] at hc
   rw [T.bud_eq,if_pos (by omega)]
  ·simp only [Bool.or_eq_false_iff,decide_eq_false_iff_not] at hc
   have hB : t.bud m=T.buds t.kids (m - 1):=by rw [T.bud_eq,if_neg (by omega)]
   refine uAp ?_;refine uAd (uAb ?_);refine uAa rfl rfl rfl (uAc rfl gU) ?_;refine uAa rfl rfl rfl (uAy rfl rfl gU gU rfl (IntWalk.i64_in _ (by omega))) ?_;refine uAa rfl rfl rfl (uAe rfl gU) ?_;refine uAf ?_;refine uAd ?_;refine uAd (uAb ?_);refine uAa rfl rfl rfl (uAe rfl gU) ?_;refine uAf ?_;refine uAv ?_;refine uCh (budS t m) (fun k=>k≤t.kids.length∧0≤T.buds (t.kids.take k) (m - 1)) (fun k=>t.kids.length - k) 0 ⟨Nat.zero_le _,by simp [T.buds]; omega⟩ ?_ ?_
   ·refine uAj ⟨⟨_,rfl,rfl⟩,⟨_,rfl,rfl⟩,⟨_,rfl,rfl⟩,trivial⟩ ⟨⟨_,rfl,rfl⟩,trivial⟩ trivial
   ·rintro k ⟨hk,hz⟩
    have hbl:=T.buds_le _ _ hz
    refine uAd ?_;refine uAd (uAb ?_);refine uAa rfl rfl rfl (uAc rfl gU) ?_;refine uAa rfl rfl rfl (uAg rfl gU rfl rfl) ?_;refine uAa rfl rfl rfl (uAi rfl gU rfl rfl rfl rfl) ?_;refine uAJ rfl rfl rfl rfl rfl gU rfl rfl ?_ (fun hh=>by simp at hh); intro hlen;refine uAa rfl rfl rfl (uAk rfl rfl gU gU rfl) ?_;refine uAf ?_;refine uAl (s:=⟨[(1,_,_),(2,_,_),(5,_,_),(20,_,_)],[(.l 2,_)],[],[]⟩) (uAj (⟨sx rfl,sx rfl,sx rfl,sx rfl,trivial⟩) (⟨sx rfl,trivial⟩) trivial) ?_;refine uAn rfl (fun hc2=>?_) (fun hc2=>?_)
    ·rw [T.rows_len] at hlen hc2
     have hlt : k < t.kids.length:=by simpa using hc2
     obtain ⟨x,hx⟩ : ∃ x,t.kids[k]? = some x:=⟨_,List.getElem?_eq_getElem hlt⟩
     refine uAp ?_;refine uAd ?_;refine uAv ?_;refine uAd (uAb ?_);refine uAa rfl rfl rfl (uAg rfl gU rfl rfl) ?_;refine uAa rfl rfl rfl (uAi rfl gU rfl rfl rfl rfl) ?_;refine uAa rfl rfl rfl (uAc rfl gU) ?_;refine uAa rfl rfl rfl (uAr rfl rfl gU gU rfl rfl rfl (fun _=>T.rows_get hx)) ?_;refine uAa rfl rfl rfl (uAE rfl gU rfl rfl rfl rfl) ?_;refine uAa rfl rfl rfl (uAc rfl gU) ?_;refine uAx rfl rfl rfl rfl rfl rfl gU gU (ih x _ (by omega) (by omega) (by omega)) rfl ?_;refine uAa rfl rfl rfl (uAe rfl gU) ?_;refine uAf ?_;refine uAl (s:=⟨[(1,_,_),(2,_,_),(5,_,_)],[(.l 2,_)],[],[]⟩) (uAj (⟨sx rfl,sx rfl,sx rfl,trivial⟩) (⟨sx rfl,trivial⟩) trivial) ?_;refine uAd (uAb ?_);refine uAa rfl rfl rfl (uAc rfl gU) ?_;refine uAa rfl rfl rfl (uAk rfl rfl gU gU rfl) ?_;refine uAf ?_;refine uAn rfl (fun hc3=>?_) (fun hc3=>?_)
     ·refine uAd (uAb ?_)
      refine uAa rfl rfl rfl (uAe rfl gU) ?_;refine uAf ?_;refine uAo ?_
      repeat (first | refine tR ?_ | refine bR ?_)
      refine uAs rfl ?_ trivial;refine uA7 ?_
      simp only [decide_eq_true_eq] at hc3
      rw [hB,T.buds_hit _ _ _ _ hx hz hc3]
     ·simp only [decide_eq_false_iff_not] at hc3
      have hst:=T.buds_step _ _ _ _ hx hz (by omega)
      refine uAp ?_;refine uAb ?_;refine uAa rfl rfl rfl (uAc rfl gU) ?_;refine uAa rfl rfl rfl (uAy rfl rfl gU gU rfl (IntWalk.i64_in _ (by omega))) ?_;refine uAa rfl rfl rfl (uAe rfl gU) ?_;refine uAf ?_;refine ⟨k + 1,⟨by omega,by rw [hst]; omega⟩,by omega,?_⟩;refine uAj ⟨⟨_,rfl,by rw [hst]⟩,⟨_,rfl,rfl⟩,⟨_,rfl,rfl⟩,trivial⟩ ⟨⟨_,rfl,rfl⟩,trivial⟩ trivial
    ·refine uAO ?_
     repeat (first | refine uAG ?_ | refine uAF ?_ | refine uAC rfl ?_)
     refine uAd (uAb ?_);refine uAa rfl rfl rfl (uAc rfl gU) ?_;refine uAa rfl rfl rfl (uAe rfl gU) ?_;refine uAf ?_;refine uAo ?_
     repeat (first | refine tR ?_ | refine bR ?_)
     refine uAs rfl ?_ trivial
     rw [T.rows_len] at hc2
     have : k=t.kids.length:=by simp at hc2; omega
     subst this
     exact uA7 (by rw [hB,List.take_length])
def fewS (l : List T) (n : Nat) (m : Int) (k : Nat) : St:={ t:=[(0,true,xl l),(2,true,xi (T.buds (l.take k) m)),(7,true,xi k)],bx:=[],ow:=[] }
theorem uMG (l : List T) (n : Nat) (m : Nat) (hm : m≤2000000) : Ctr sys 36 [xl l,xi n,xi m] [] (xb (fewB l n m)) none []:=by
 refine uAA Tryz.func36 rfl rfl rfl rfl rfl rfl ?_;refine uAd (uAb ?_);refine uAa rfl rfl rfl (uAe rfl gU) ?_;refine uAf ?_;refine uAd ?_;refine uAd (uAb ?_);refine uAa rfl rfl rfl (uAc rfl gU) ?_;refine uAJ rfl rfl rfl rfl rfl gU rfl rfl ?_ (fun hh=>by simp at hh); intro hlen;refine uAa rfl rfl rfl (uAc rfl gU) ?_;refine uAa rfl rfl rfl (uAk rfl rfl gU gU rfl) ?_;refine uAf ?_;refine uAl (s:=⟨[(0,_,_),(2,_,_),(11,_,_)],[],[],[]⟩) (uAj (⟨sx rfl,sx rfl,sx rfl,trivial⟩) trivial trivial) ?_;refine uAn rfl (fun hc=>?_) (fun hc=>?_)
 ·refine uAd (uAb ?_)
  refine uAa rfl rfl rfl (uAe rfl gU) ?_;refine uAf ?_;refine uAo ?_
  repeat (first | refine tR ?_ | refine bR ?_)
  refine uAs rfl ?_ trivial;refine uBV ?_
  simp only [T.rows_len,decide_eq_true_eq] at hc
  have : ¬ l.length≤n:=by omega
  simp [fewB,this]
 ·simp only [T.rows_len,decide_eq_false_iff_not] at hc
  have hn : l.length≤n:=by omega
  refine uAp ?_;refine uAd ?_;refine uAd (uAb ?_);refine uAa rfl rfl rfl (uAe rfl gU) ?_;refine uAf ?_;refine uAv ?_;refine uCh (fewS l n m) (fun k=>k≤l.length∧0≤T.buds (l.take k) m) (fun k=>l.length - k) 0 ⟨Nat.zero_le _,by simp [T.buds]⟩ ?_ ?_
  ·refine uAj ⟨⟨_,rfl,rfl⟩,⟨_,rfl,rfl⟩,⟨_,rfl,rfl⟩,trivial⟩ trivial trivial
  ·rintro k ⟨hk,hz⟩
   have hbl:=T.buds_le _ _ hz
   refine uAd ?_;refine uAd (uAb ?_);refine uAa rfl rfl rfl (uAc rfl gU) ?_;refine uAa rfl rfl rfl (uAc rfl gU) ?_;refine uAJ rfl rfl rfl rfl rfl gU rfl rfl ?_ (fun hh=>by simp at hh); intro hlen;refine uAa rfl rfl rfl (uAk rfl rfl gU gU rfl) ?_;refine uAf ?_;refine uAn rfl (fun hc2=>?_) (fun hc2=>?_)
   ·rw [T.rows_len] at hlen hc2
    have hlt : k < l.length:=by simpa using hc2
    obtain ⟨x,hx⟩ : ∃ x,l[k]? = some x:=⟨_,List.getElem?_eq_getElem hlt⟩
    refine uAp ?_;refine uAd ?_;refine uAv ?_;refine uAd (uAb ?_);refine uAa rfl rfl rfl (uAc rfl gU) ?_;refine uAa rfl rfl rfl (uAc rfl gU) ?_;refine uAa rfl rfl rfl (uAr rfl rfl gU gU rfl rfl rfl (fun _=>T.rows_get hx)) ?_;refine uAa rfl rfl rfl (uAE rfl gU rfl rfl rfl rfl) ?_;refine uAa rfl rfl rfl (uAc rfl gU) ?_;refine uAx rfl rfl rfl rfl rfl rfl gU gU (uJE m x _ (by omega) (by omega) (by omega)) rfl ?_;refine uAa rfl rfl rfl (uAe rfl gU) ?_;refine uAf ?_;refine uAl (s:=⟨[(0,_,_),(2,_,_),(7,_,_)],[],[],[]⟩) (uAj (⟨sx rfl,sx rfl,sx rfl,trivial⟩) trivial trivial) ?_;refine uAd (uAb ?_);refine uAa rfl rfl rfl (uAc rfl gU) ?_;refine uAa rfl rfl rfl (uAk rfl rfl gU gU rfl) ?_;refine uAf ?_;refine uAn rfl (fun hc3=>?_) (fun hc3=>?_)
    ·refine uAd (uAb ?_)
     refine uAa rfl rfl rfl (uAe rfl gU) ?_;refine uAf ?_;refine uAo ?_
     repeat (first | refine tR ?_ | refine bR ?_)
     refine uAs rfl ?_ trivial;refine uBV ?_
     simp only [decide_eq_true_eq] at hc3
     simp [fewB,T.buds_hit _ _ _ _ hx hz hc3]
    ·simp only [decide_eq_false_iff_not] at hc3
     have hst:=T.buds_step _ _ _ _ hx hz (by omega)
     refine uAp ?_;refine uAb ?_;refine uAa rfl rfl rfl (uAc rfl gU) ?_;refine uAa rfl rfl rfl (uAy rfl rfl gU gU rfl (IntWalk.i64_in _ (by omega))) ?_;refine uAa rfl rfl rfl (uAe rfl gU) ?_;refine uAf ?_;refine ⟨k + 1,⟨by omega,by rw [hst]; omega⟩,by omega,?_⟩;refine uAj ⟨⟨_,rfl,rfl⟩,⟨_,rfl,by rw [hst]⟩,⟨_,rfl,rfl⟩,trivial⟩ trivial trivial
   ·refine uAO ?_
    repeat (first | refine uAG ?_ | refine uAF ?_ | refine uAC rfl ?_)
    refine uAd (uAb ?_);refine uAa rfl rfl rfl (uAe rfl gU) ?_;refine uAf ?_;refine uAo ?_
    repeat (first | refine tR ?_ | refine bR ?_)
    refine uAs rfl ?_ trivial
    rw [T.rows_len] at hc2
    have : k=l.length:=by simp at hc2; omega
    subst this
    rw [List.take_length] at hz
    exact uBV (by simp [fewB,hn,hz])
end Go.Proofs.YteidahabkfgfjaaGreat
namespace Go.Proofs.YteidahabkfgfjaaGreat
open Go Go.Abs
theorem uOt (l r : List T) : X.v (.c (.sl 4 (T.rows l++T.rows r)))=xl (l++r):=by simp [xl,T.rows_eq]
def uDj (l : List Gl) : List T:=(l.map Gl.data).flatten
theorem uKx {l : List Gl} {k : Nat} (h : k < l.length) : uDj (l.take (k + 1))=uDj (l.take k)++(l.getD k default).data:=by
 rw [uBx (d:=default) h]; simp [uDj]
theorem uLH {l : List Gl} (h : ∀ g ∈ l,g.data.length≤2097152) : (uDj l).length≤2097152 * l.length:=by
 induction l with
 | nil=>simp [uDj]
 | cons g l ih =>
  have h1:=h g (by simp)
  have h2:=ih fun x hx=>h x (by simp [hx])
  simp only [uDj,List.map_cons,List.flatten_cons,List.length_append,List.length_cons,Nat.mul_succ] at h2 ⊢
  omega
def uJN (n : Nar) : List T:=n.steps.map Sp.msg++uDj n.goals
def fewN (n : Nar) : Bool:=(decide (n.roles.length≤16) && decide (n.fresh.length≤16) && decide (n.tags.length≤16) && decide (n.steps.length≤16) && decide (n.goals.length≤16)) && fewB (uJN n) 100 900
theorem uJ0 (n : Nar) (hd : ∀ g ∈ n.goals,g.data.length≤2097152) : Ctr sys 12 [xn n] [] (xb (fewN n)) none []:=by
 have l1:=uAh n.roles
 have l3:=Fs.rows_len n.fresh
 have l4:=uAh n.tags
 have l5:=Sp.rows_len n.steps
 have l6:=Gl.rows_len n.goals
 refine uAA Tryz.func12 rfl rfl rfl rfl rfl rfl ?_;refine uAd (uAb ?_);refine uAt rfl (uAI rfl rfl rfl rfl) ?_;refine uAa rfl rfl rfl (uAe rfl gU) ?_;refine uAf ?_;refine uAd ?_;refine uAd (uAb ?_);refine uAa rfl rfl rfl (uAg rfl gU rfl rfl) ?_;refine uAa rfl rfl rfl (uAi rfl gU rfl rfl rfl rfl) ?_;refine uAJ rfl rfl rfl rfl rfl gU rfl rfl ?_ (fun hh=>by simp at hh); intro hlen;refine uAa rfl rfl rfl (uAk rfl rfl gU gU rfl) ?_;refine uAa rfl rfl rfl (uAc rfl gU) ?_;refine uAa rfl rfl rfl (uAg rfl gU rfl rfl) ?_;refine uAa rfl rfl rfl (uAi rfl (fun hh=>hh) rfl rfl rfl rfl) ?_;refine uAa rfl rfl rfl (uA4 rfl (fun hh=>hh) rfl rfl) ?_;refine uAa rfl rfl rfl (uAk rfl rfl (fun hh=>hh) gU rfl) ?_;refine uAa rfl rfl rfl (uAN rfl rfl gU (fun _ hi=>gP rfl hi)) ?_;refine uA8 (s:=⟨[(1,_,_),(15,_,_)],[(.l 1,_)],[],[]⟩) (uAj (⟨sx rfl,sx rfl,trivial⟩) (⟨sx rfl,trivial⟩) trivial) ?_;refine uAa rfl rfl rfl (uAc rfl gU) ?_;refine uAa rfl rfl rfl (uAg rfl gU rfl rfl) ?_;refine uAa rfl rfl rfl (uAi rfl (fun hh=>hh) rfl rfl rfl rfl) ?_;refine uAa rfl rfl rfl (uA4 rfl (fun hh=>hh) rfl rfl) ?_;refine uAa rfl rfl rfl (uAk rfl rfl (fun hh=>hh) gU rfl) ?_;refine uAa rfl rfl rfl (uAN rfl rfl gU (fun _ hi=>gP rfl hi)) ?_;refine uAa rfl rfl rfl (uAc rfl gU) ?_
 refine uAa rfl rfl rfl (uAg rfl gU rfl rfl) ?_;refine uAa rfl rfl rfl (uAi rfl (fun hh=>hh) rfl rfl rfl rfl) ?_;refine uAa rfl rfl rfl (uA4 rfl (fun hh=>hh) rfl rfl) ?_;refine uAa rfl rfl rfl (uAk rfl rfl (fun hh=>hh) gU rfl) ?_;refine uAa rfl rfl rfl (uAN rfl rfl gU (fun _ hi=>gP rfl hi)) ?_;refine uA8 (s:=⟨[(1,_,_),(27,_,_)],[(.l 1,_)],[],[]⟩) (uAj (⟨sx rfl,sx rfl,trivial⟩) (⟨sx rfl,trivial⟩) trivial) ?_;refine uAa rfl rfl rfl (uAc rfl gU) ?_;refine uAa rfl rfl rfl (uAg rfl gU rfl rfl) ?_;refine uAa rfl rfl rfl (uAi rfl (fun hh=>hh) rfl rfl rfl rfl) ?_;refine uAa rfl rfl rfl (uA4 rfl (fun hh=>hh) rfl rfl) ?_;refine uAa rfl rfl rfl (uAk rfl rfl (fun hh=>hh) gU rfl) ?_;refine uAa rfl rfl rfl (uAN rfl rfl gU (fun _ hi=>gP rfl hi)) ?_;refine uAf ?_;refine uAl (s:=⟨[(1,_,_),(33,_,_)],[(.l 1,_)],[],[]⟩) (uAj (⟨sx rfl,sx rfl,trivial⟩) (⟨sx rfl,trivial⟩) trivial) ?_;refine uAn rfl (fun hc=>?_) (fun hc=>?_)
 ·try simp only [nn,uAh,T.rows_len,Gl.rows_len,Fs.rows_len,Sp.rows_len] at hc
  refine uAd (uAb ?_);refine uAa rfl rfl rfl (uAe rfl gU) ?_;refine uAf ?_;refine uAo ?_
  repeat (first | refine tR ?_ | refine bR ?_)
  refine uAs rfl ?_ trivial
  (refine uBV ?_; symm; unfold fewN; rw [Bool.eq_false_iff]; intro q; simp only [Bool.and_eq_true,decide_eq_true_eq] at q; omega)
 ·try simp only [nn,uAh,T.rows_len,Gl.rows_len,Fs.rows_len,Sp.rows_len] at hc
  have h16 : n.roles.length≤16∧n.fresh.length≤16∧n.tags.length≤16∧n.steps.length≤16∧n.goals.length≤16:=by omega
  have hE : fewN n=fewB (uJN n) 100 900:=by
   unfold fewN
   rw [decide_eq_true h16.1,decide_eq_true h16.2.1,decide_eq_true h16.2.2.1,decide_eq_true h16.2.2.2.1,decide_eq_true h16.2.2.2.2]; rfl
  rw [hE]
  refine uAp ?_;refine uAd (uAb ?_);refine uAt rfl (uBl (.inr rfl) rfl rfl) ?_;refine uAf ?_;refine uAd ?_;refine uAd (uAb ?_);refine uAa rfl rfl rfl (uAe rfl gU) ?_;refine uAf ?_;refine uAv ?_;refine uAW (ι:=Nat) { t:=[(1,_,_)],bx:=[(.l 1,_)],ow:=[(.t 3,_)] } (fun k=>[(4,true,xi (k : Int)),(3,true,xl ((n.steps.take k).map Sp.msg))]) (fun k=>[]) (fun k=>k≤n.steps.length) (fun k=>n.steps.length - k) (0) (by simp) (uAj (⟨sx rfl,sx rfl,sx rfl,trivial⟩) (⟨sx rfl,trivial⟩) (⟨rfl,trivial⟩)) ?_
  intro k hoka
  dsimp only [List.cons_append,List.nil_append]
  refine uAd ?_;refine uAd (uAb ?_);refine uAa rfl rfl rfl (uAc rfl gU) ?_;refine uAa rfl rfl rfl (uAg rfl gU rfl rfl) ?_;refine uAa rfl rfl rfl (uAi rfl gU rfl rfl rfl rfl) ?_;refine uAJ rfl rfl rfl rfl rfl gU rfl rfl ?_ (fun hh=>by simp at hh); intro hlen;refine uAa rfl rfl rfl (uAk rfl rfl gU gU rfl) ?_;refine uAf ?_;refine uAl (s:=⟨[(1,_,_),(3,_,_),(4,_,_),(38,_,_)],[(.l 1,_)],[(.t 3,_)],[]⟩) (uAj (⟨sx rfl,sx rfl,sx rfl,sx rfl,trivial⟩) (⟨sx rfl,trivial⟩) (⟨rfl,trivial⟩)) ?_;refine uAn rfl (fun hc2=>?_) (fun hc2=>?_)
  ·try simp only [nn,uAh,T.rows_len,Gl.rows_len,Fs.rows_len,Sp.rows_len] at hc2
   have hT:=uBx (l:=n.steps) (d:=default) (k:=k) (by omega)
   refine uAp ?_;refine uAd ?_;refine uAv ?_;refine uAb ?_;refine uAt rfl (uAT (.inl rfl) rfl rfl rfl) ?_;refine uAa rfl rfl rfl (uAg rfl gU rfl rfl) ?_;refine uAa rfl rfl rfl (uAi rfl gU rfl rfl rfl rfl) ?_;refine uAa rfl rfl rfl (uAc rfl gU) ?_;refine uAa rfl rfl rfl (uAr rfl rfl gU gU rfl rfl rfl (fun hh=>Sp.rows_at (by first | omega | (simp at hh ⊢; omega)))) ?_;refine uAa rfl rfl rfl (uA0 rfl gU rfl rfl) ?_;refine uAa rfl rfl rfl (uAE rfl gU rfl rfl rfl rfl) ?_;refine uAU (xs:=[_]) rfl rfl rfl rfl rfl rfl rfl rfl rfl gU rfl ?_;refine uAt rfl (uA3 rfl rfl rfl rfl rfl rfl rfl (by first | omega | (simp only [List.length_append,List.length_singleton,T.rows_len,List.length_map,List.length_take]; omega)) (by first | omega | (simp only [List.length_append,List.length_singleton,T.rows_len,List.length_map,List.length_take]; omega))) ?_;refine uAt rfl (uAT (.inr rfl) rfl rfl rfl) ?_;refine uAf ?_;refine uAl (s:=⟨[(1,_,_),(3,_,_),(4,_,_)],[(.l 1,_)],[(.t 3,_)],[]⟩) (uAj (⟨sx rfl,sx rfl,sx rfl,trivial⟩) (⟨sx rfl,trivial⟩) (⟨rfl,trivial⟩)) ?_;refine uAb ?_;refine uAa rfl rfl rfl (uAc rfl gU) ?_;refine uAa rfl rfl rfl (uAy rfl rfl gU gU rfl (IntWalk.i64_in _ (by omega))) ?_;refine uAa rfl rfl rfl (uAe rfl gU) ?_;refine uAf ?_;refine ⟨k + 1,?_,?_,uAj (⟨⟨_,rfl,?_⟩,⟨⟨_,rfl,?_⟩,⟨sx rfl,trivial⟩⟩⟩) (⟨sx rfl,trivial⟩) (⟨rfl,trivial⟩)⟩
   all_goals (first | rfl | omega | exact tx ((uFi _ _).trans (by rw [hT,List.map_append]; rfl)))
  ·try simp only [nn,uAh,T.rows_len,Gl.rows_len,Fs.rows_len,Sp.rows_len] at hc2
   have hk : k=n.steps.length:=by omega
   subst hk
   refine uAO ?_
   repeat (first | refine uAG ?_ | refine uAF ?_ | refine uAC rfl ?_)
   refine uAd ?_;refine uAd (uAb ?_);refine uAa rfl rfl rfl (uAe rfl gU) ?_;refine uAf ?_;refine uAv ?_;refine uAW (ι:=Nat) { t:=[(1,_,_)],bx:=[(.l 1,_)],ow:=[(.t 3,_)] } (fun j=>[(5,true,xi (j : Int)),(3,true,xl (n.steps.map Sp.msg++uDj (n.goals.take j)))]) (fun j=>[]) (fun j=>j≤n.goals.length) (fun j=>n.goals.length - j) (0) (by simp) (uAj (⟨sx rfl,⟨⟨_,rfl,by simp [uDj]⟩,⟨sx rfl,trivial⟩⟩⟩) (⟨sx rfl,trivial⟩) (⟨rfl,trivial⟩)) ?_
   intro j hokb
   dsimp only [List.cons_append,List.nil_append]
   have hdl:=uLH (l:=n.goals.take j) fun g hg=>hd g (List.mem_of_mem_take hg)
   rw [List.length_take] at hdl
   refine uAd ?_;refine uAd (uAb ?_);refine uAa rfl rfl rfl (uAc rfl gU) ?_;refine uAa rfl rfl rfl (uAg rfl gU rfl rfl) ?_;refine uAa rfl rfl rfl (uAi rfl gU rfl rfl rfl rfl) ?_;refine uAJ rfl rfl rfl rfl rfl gU rfl rfl ?_ (fun hh=>by simp at hh); intro hlen;refine uAa rfl rfl rfl (uAk rfl rfl gU gU rfl) ?_;refine uAf ?_;refine uAl (s:=⟨[(1,_,_),(3,_,_),(5,_,_),(54,_,_)],[(.l 1,_)],[(.t 3,_)],[]⟩) (uAj (⟨sx rfl,sx rfl,sx rfl,sx rfl,trivial⟩) (⟨sx rfl,trivial⟩) (⟨rfl,trivial⟩)) ?_;refine uAn rfl (fun hc3=>?_) (fun hc3=>?_)
   ·try simp only [nn,uAh,T.rows_len,Gl.rows_len,Fs.rows_len,Sp.rows_len] at hc3
    have hT:=uKx (l:=n.goals) (k:=j) (by omega)
    have hdj : (n.goals.getD j default).data.length≤2097152:=hd _ (by rw [List.getD_eq_getElem?_getD,List.getElem?_eq_getElem (by omega)]; exact List.getElem_mem _)
    refine uAp ?_;refine uAd ?_;refine uAv ?_;refine uAb ?_;refine uAt rfl (uAT (.inl rfl) rfl rfl rfl) ?_;refine uAa rfl rfl rfl (uAg rfl gU rfl rfl) ?_;refine uAa rfl rfl rfl (uAi rfl gU rfl rfl rfl rfl) ?_;refine uAa rfl rfl rfl (uAc rfl gU) ?_;refine uAa rfl rfl rfl (uAr rfl rfl gU gU rfl rfl rfl (fun hh=>Gl.rows_at (by first | omega | (simp at hh ⊢; omega)))) ?_;refine uAa rfl rfl rfl (uA0 rfl gU rfl rfl) ?_;refine uAa rfl rfl rfl (uAQ rfl gU rfl rfl rfl) ?_;refine uAt rfl (uA3 rfl rfl rfl rfl rfl rfl rfl (by first | omega | (simp only [List.length_append,List.length_singleton,T.rows_len,List.length_map,List.length_take]; omega)) (by first | omega | (simp only [List.length_append,List.length_singleton,T.rows_len,List.length_map,List.length_take]; omega))) ?_;refine uAt rfl (uAT (.inr rfl) rfl rfl rfl) ?_;refine uAf ?_;refine uAl (s:=⟨[(1,_,_),(3,_,_),(5,_,_)],[(.l 1,_)],[(.t 3,_)],[]⟩) (uAj (⟨sx rfl,sx rfl,sx rfl,trivial⟩) (⟨sx rfl,trivial⟩) (⟨rfl,trivial⟩)) ?_;refine uAb ?_;refine uAa rfl rfl rfl (uAc rfl gU) ?_;refine uAa rfl rfl rfl (uAy rfl rfl gU gU rfl (IntWalk.i64_in _ (by omega))) ?_;refine uAa rfl rfl rfl (uAe rfl gU) ?_;refine uAf ?_;refine ⟨j + 1,?_,?_,uAj (⟨⟨_,rfl,?_⟩,⟨⟨_,rfl,?_⟩,⟨sx rfl,trivial⟩⟩⟩) (⟨sx rfl,trivial⟩) (⟨rfl,trivial⟩)⟩
    all_goals (first | rfl | omega | exact tx ((uOt _ _).trans (by rw [hT,List.append_assoc])))
   ·try simp only [nn,uAh,T.rows_len,Gl.rows_len,Fs.rows_len,Sp.rows_len] at hc3
    have hk : j=n.goals.length:=by omega
    subst hk
    have e : n.steps.map Sp.msg++uDj (n.goals.take n.goals.length)=uJN n:=by rw [List.take_length]; rfl
    rw [e]
    refine uAO ?_
    repeat (first | refine uAG ?_ | refine uAF ?_ | refine uAC rfl ?_)
    refine uAd (uAb ?_);refine uAa rfl rfl rfl (uAc rfl gU) ?_;refine uAx rfl rfl rfl rfl rfl rfl gU gU (uMG (uJN n) 100 900 (by omega)) rfl ?_;refine uAa rfl rfl rfl (uAe rfl gU) ?_;refine uAf ?_;refine uAo ?_
    repeat (first | refine tR ?_ | refine bR ?_)
    refine uAs rfl ?_ trivial
    rfl
theorem uN0 {n : Nar} (h : fewN n=true) : n.steps.length≤16∧n.goals.length≤16∧(∀ s ∈ n.steps,s.msg.size≤900000) ∧ ∀ g ∈ n.goals,T.sizes g.data≤900000:=by
 simp only [fewN,Bool.and_eq_true,decide_eq_true_eq] at h
 obtain ⟨_,h2⟩:=uKB h.2
 have h3 : T.sizes (n.steps.map Sp.msg++uDj n.goals)≤900:=by unfold uJN at h2; omega
 have happ : ∀ a b : List T,T.sizes (a++b)=T.sizes a + T.sizes b:=by
  intro a b
  induction a with
  | nil=>simp [T.sizes]
  | cons t a ih=>simp only [List.cons_append,T.sizes,ih]; omega
 rw [happ] at h3
 refine ⟨h.1.1.2,h.1.2,fun s hs=>?_,fun g hg=>?_⟩
 ·have : ∀ l : List Sp,s ∈ l→s.msg.size≤T.sizes (l.map Sp.msg):=by
   intro l hl
   induction l with
   | nil=>simp at hl
   | cons x l ih =>
    simp only [List.map_cons,T.sizes]
    rcases List.mem_cons.1 hl with q | q
    ·subst q; omega
    ·have := ih q; omega
  have := this _ hs
  omega
 ·have : ∀ l : List Gl,g ∈ l→T.sizes g.data≤T.sizes (uDj l):=by
   intro l hl
   induction l with
   | nil=>simp at hl
   | cons x l ih =>
    have e : uDj (x :: l)=x.data++uDj l:=by simp [uDj]
    rw [e,happ]
    rcases List.mem_cons.1 hl with q | q
    ·subst q; omega
    ·have := ih q; omega
  have := this _ hg
  omega
namespace T
mutual
def all : T→List T
 | mk k n s ks=>mk k n s ks :: alls ks
def alls : List T→List T
 | []=>[]
 | t :: ts=>all t++alls ts
end
end T
end Go.Proofs.YteidahabkfgfjaaGreat
namespace Go.Proofs.YteidahabkfgfjaaGreat
open Go Go.Abs
theorem uH5 {nm : NmB} {n : Nar} (h : (chkE nm n).2=0) : narE nm n=0∧decE n=0∧useE n=(0,0):=by
 unfold chkE at h
 split at h
 ·rename_i q; exact absurd h q
 rename_i q1
 split at h
 ·rename_i q; exact absurd h q
 rename_i q2
 refine ⟨Decidable.not_not.1 q1,Decidable.not_not.1 q2,?_⟩
 unfold useE at h ⊢
 split at h
 ·rename_i q; exact absurd h q
 ·rename_i q; rw [if_neg q]; exact uKC h
def valL (l : List Fs) (r : List UInt8) : List T:=(l.filter fun f=>decide (f.role=r)).map fun f=>⟨2,f.name,f.sort,[]⟩
def uC3 (n : Nar) (k : Int) : List T:=if (chkE uAK n).2≠0∨k < 0∨(n.roles.length : Int)≤k then [] else valL n.fresh (n.roles.getD k.toNat [])
theorem uJC (l : List Fs) (r : List UInt8) : (valL l r).length≤l.length:=by
 rw [valL,List.length_map]; exact List.length_filter_le _ _
theorem uHo (l : List Fs) (r : List UInt8) (f : Fs) : valL (l++[f]) r=valL l r++if f.role=r then [⟨2,f.name,f.sort,[]⟩] else []:=by
 rw [valL,List.filter_append,List.map_append,valL]
 congr 1
 by_cases h : f.role=r
 ·rw [if_pos h,List.filter_cons_of_pos (by simpa using h)]; rfl
 ·rw [if_neg h,List.filter_cons_of_neg (by simpa using h)]; rfl
theorem uIa (n : Nar) (k : Int) (hk : 0≤k∧k < n.roles.length) (hf : n.fresh.length≤900000) : Ctr sys 55 [xn n,xi k] [] (xl (valL n.fresh (n.roles.getD k.toNat []))) none []:=by
 have l2:=Fs.rows_len n.fresh
 have l1:=uAh n.roles
 refine uAA Tryz.func55 rfl rfl rfl rfl rfl rfl ?_;refine uAd (uAb ?_);refine uAt rfl (uAI rfl rfl rfl rfl) ?_;refine uAt rfl (uBl (.inr rfl) rfl rfl) ?_;refine uAf ?_;refine uAd (uAb ?_);refine uAt rfl (uBl (.inr rfl) rfl rfl) ?_;refine uAf ?_;refine uAd ?_;refine uAd (uAb ?_);refine uAa rfl rfl rfl (uAe rfl gU) ?_;refine uAf ?_;refine uAv ?_;refine uAW (ι:=Nat) { t:=[(1,_,_),(2,_,_)],bx:=[(.l 2,_)],ow:=[(.t 5,_)] } (fun j=>[(6,true,xi (j : Int)),(5,true,xl (valL (n.fresh.take j) (n.roles.getD k.toNat [])))]) (fun j=>[]) (fun j=>j≤n.fresh.length) (fun j=>n.fresh.length - j) (0) (by simp) (uAj (⟨sx rfl,sx rfl,sx rfl,sx rfl,trivial⟩) (⟨sx rfl,trivial⟩) (⟨rfl,trivial⟩)) ?_
 intro j hok
 dsimp only [List.cons_append,List.nil_append]
 have hvl:=uJC (n.fresh.take j) (n.roles.getD k.toNat [])
 have hrl:=T.rows_len (valL (n.fresh.take j) (n.roles.getD k.toNat []))
 rw [List.length_take] at hvl
 refine uAd ?_;refine uAd (uAb ?_);refine uAa rfl rfl rfl (uAc rfl gU) ?_;refine uAa rfl rfl rfl (uAg rfl gU rfl rfl) ?_;refine uAa rfl rfl rfl (uAi rfl gU rfl rfl rfl rfl) ?_;refine uAJ rfl rfl rfl rfl rfl gU rfl rfl ?_ (fun hh=>by simp at hh); intro hlen;refine uAa rfl rfl rfl (uAk rfl rfl gU gU rfl) ?_;refine uAf ?_;refine uAl (s:=⟨[(1,_,_),(2,_,_),(5,_,_),(6,_,_),(11,_,_)],[(.l 2,_)],[(.t 5,_)],[]⟩) (uAj (⟨sx rfl,sx rfl,sx rfl,sx rfl,sx rfl,trivial⟩) (⟨sx rfl,trivial⟩) (⟨rfl,trivial⟩)) ?_;refine uAn rfl (fun hc=>?_) (fun hc=>?_)
 ·try simp only [nn,uAh,uAB,T.rows_len,Gl.rows_len,Fs.rows_len,Sp.rows_len] at hc
  have hT:=uBx (l:=n.fresh) (d:=default) (k:=j) (by omega)
  have hV:=uHo (n.fresh.take j) (n.roles.getD k.toNat []) (n.fresh.getD j default)
  rw [← hT] at hV
  refine uAp ?_;refine uAd ?_;refine uAv ?_;refine uAd ?_;refine awp_drawn' (by kernel_rfl) ?_;refine uAq rfl rfl rfl rfl (uAg rfl gU rfl rfl) ?_;refine uBa rfl rfl rfl rfl rfl rfl rfl gU rfl rfl rfl rfl ?_;refine uAq rfl rfl rfl rfl (uAc rfl gU) ?_;refine uAq rfl rfl rfl rfl (uAr rfl rfl gU gU rfl rfl rfl (fun hh=>Fs.rows_at (by first | omega | (simp at hh ⊢; omega)))) ?_;refine uAq rfl rfl rfl rfl (uA0 rfl gU rfl rfl) ?_;refine uAq rfl rfl rfl rfl (uAQ rfl gU rfl rfl rfl) ?_;refine uAq rfl rfl rfl rfl (uAg rfl gU rfl rfl) ?_;refine uBa rfl rfl rfl rfl rfl rfl rfl gU rfl rfl rfl rfl ?_;refine uAq rfl rfl rfl rfl (uAc rfl gU) ?_;refine uAq rfl rfl rfl rfl (uAr (j:=k.toNat) rfl rfl gU gU rfl rfl (by first | omega | (simp at hh ⊢; omega)) (fun hh=>uBI (by first | omega | (simp at hh ⊢; omega)))) ?_;refine uAq rfl rfl rfl rfl (uAQ rfl gU rfl rfl rfl) ?_;refine uAq rfl rfl rfl rfl (uA2 rfl rfl gU gU rfl) ?_;refine uA1 (by kernel_rfl) ?_;refine uAl (s:=⟨[(1,_,_),(2,_,_),(5,_,_),(6,_,_),(25,_,_)],[(.l 2,_)],[(.t 5,_)],[]⟩) (uAj (⟨sx rfl,sx rfl,sx rfl,sx rfl,sx rfl,trivial⟩) (⟨sx rfl,trivial⟩) (⟨(ak rfl (ak rfl (ak rfl (ak rfl (ak rfl (ak rfl (ak rfl (ak rfl (ak rfl (ak rfl (ak rfl (ak rfl (rfl))))))))))))),trivial⟩)) ?_;refine uAn rfl (fun hc2=>?_) (fun hc2=>?_)
  ·try simp only [nn,uAh,uAB,T.rows_len,Gl.rows_len,Fs.rows_len,Sp.rows_len] at hc2
   rw [if_pos hc2] at hV
   refine awp_drawn' (by kernel_rfl) ?_;refine uCN rfl (.inl rfl) rfl rfl rfl rfl rfl ?_;refine uAq rfl rfl rfl rfl (uAg rfl gU rfl rfl) ?_;refine uBa rfl rfl rfl rfl rfl rfl rfl gU rfl rfl rfl rfl ?_;refine uAq rfl rfl rfl rfl (uAc rfl gU) ?_;refine uAq rfl rfl rfl rfl (uAr rfl rfl gU gU rfl rfl rfl (fun hh=>Fs.rows_at (by first | omega | (simp at hh ⊢; omega)))) ?_;refine uAq rfl rfl rfl rfl (uA0 rfl gU rfl rfl) ?_;refine uAq rfl rfl rfl rfl (uAQ rfl gU rfl rfl rfl) ?_;refine uAq rfl rfl rfl rfl (uAg rfl gU rfl rfl) ?_;refine uBa rfl rfl rfl rfl rfl rfl rfl gU rfl rfl rfl rfl ?_;refine uAq rfl rfl rfl rfl (uAc rfl gU) ?_;refine uAq rfl rfl rfl rfl (uAr rfl rfl gU gU rfl rfl rfl (fun hh=>Fs.rows_at (by first | omega | (simp at hh ⊢; omega)))) ?_;refine uAq rfl rfl rfl rfl (uA0 rfl gU rfl rfl) ?_;refine uAq rfl rfl rfl rfl (uAQ rfl gU rfl rfl rfl) ?_;refine uAR rfl rfl rfl rfl rfl rfl rfl gU gU (uHq _ _) rfl ?_;refine uDM (xs:=[_]) rfl rfl rfl rfl rfl rfl rfl rfl rfl rfl gU rfl ?_;refine uEq rfl rfl rfl rfl rfl (rko (ak2 rfl (ak rfl (ak rfl (ak rfl (ak rfl (ak rfl (ak rfl (ak rfl (ak rfl (ak rfl (ak rfl (ak rfl (ak rfl (ak rfl (rfl)))))))))))))))) rfl rfl rfl rfl rfl (by first | omega | (simp only [List.length_append,List.length_singleton,T.rows_len,List.length_map,List.length_take]; omega)) (by first | omega | (simp only [List.length_append,List.length_singleton,T.rows_len,List.length_map,List.length_take]; omega)) ?_
   refine uCN rfl (.inr rfl) rfl rfl rfl rfl rfl ?_;refine uA1 (by kernel_rfl) ?_;refine uAl (s:=⟨[(1,_,_),(2,_,_),(5,_,_),(6,_,_)],[(.l 2,_)],[(.t 5,_)],[]⟩) (uAj (⟨sx rfl,sx rfl,sx rfl,sx rfl,trivial⟩) (⟨sx rfl,trivial⟩) (⟨rfl,trivial⟩)) ?_;refine uAb ?_;refine uAa rfl rfl rfl (uAc rfl gU) ?_;refine uAa rfl rfl rfl (uAy rfl rfl gU gU rfl (IntWalk.i64_in _ (by omega))) ?_;refine uAa rfl rfl rfl (uAe rfl gU) ?_;refine uAf ?_;refine ⟨j + 1,?_,?_,uAj (⟨⟨_,rfl,?_⟩,⟨⟨_,rfl,?_⟩,⟨sx rfl,sx rfl,trivial⟩⟩⟩) (⟨sx rfl,trivial⟩) (⟨rfl,trivial⟩)⟩
   all_goals (first | rfl | omega | exact tx ((uFi _ _).trans (by rw [hV])))
  ·try simp only [nn,uAh,uAB,T.rows_len,Gl.rows_len,Fs.rows_len,Sp.rows_len] at hc2
   rw [if_neg hc2,List.append_nil] at hV
   refine uAp ?_;refine uAb ?_;refine uAa rfl rfl rfl (uAc rfl gU) ?_;refine uAa rfl rfl rfl (uAy rfl rfl gU gU rfl (IntWalk.i64_in _ (by omega))) ?_;refine uAa rfl rfl rfl (uAe rfl gU) ?_;refine uAf ?_;refine ⟨j + 1,?_,?_,uAj (⟨⟨_,rfl,?_⟩,⟨⟨_,rfl,?_⟩,⟨sx rfl,sx rfl,trivial⟩⟩⟩) (⟨sx rfl,trivial⟩) (⟨rfl,trivial⟩)⟩
   all_goals (first | rfl | omega | exact tx (by rw [hV]))
 ·try simp only [nn,uAh,uAB,T.rows_len,Gl.rows_len,Fs.rows_len,Sp.rows_len] at hc
  have hj : j=n.fresh.length:=by omega
  subst hj
  rw [List.take_length]
  refine uAO ?_
  repeat (first | refine uAG ?_ | refine uAF ?_ | refine uAC rfl ?_)
  refine uAd (uAb ?_);refine uAt rfl (uAT (.inl rfl) rfl rfl rfl) ?_;refine uAt rfl (uAT (.inr rfl) rfl rfl rfl) ?_;refine uAf ?_;refine uAo ?_
  repeat (first | refine tR ?_ | refine bR ?_)
  refine uAs rfl ?_ trivial
  rfl
theorem uJQ (n : Nar) (k : Int) (hs : ∀ s ∈ n.steps,s.msg.size≤900000) (hg : ∀ g ∈ n.goals,T.sizes g.data≤900000) : Ctr sys 24 [xn n,xi k] [] (xl (uC3 n k)) none []:=by
 refine uAA Tryz.func24 rfl rfl rfl rfl rfl rfl ?_;refine uAd (uAb ?_);refine uAt rfl (uAI rfl rfl rfl rfl) ?_;refine uAa rfl rfl rfl (uAe rfl gU) ?_;refine uAf ?_;refine uAd ?_;refine uAd (uAb ?_);refine uAa rfl rfl rfl (uAm rfl gU rfl rfl rfl rfl rfl) ?_;refine uAx rfl rfl rfl rfl rfl rfl gU gU (uJJ n hs hg) rfl ?_;refine uAa rfl rfl rfl (uAc rfl gU) ?_;refine uAa rfl rfl rfl (uAu rfl gU rfl) ?_;refine uAa rfl rfl rfl (uAu rfl gU rfl) ?_;refine uAa rfl rfl rfl (uAe rfl gU) ?_;refine uAa rfl rfl rfl (uAe rfl gU) ?_;refine uAf ?_;refine uAl (s:=⟨[(1,_,_),(2,_,_),(6,_,_)],[(.l 2,_)],[],[]⟩) (uAj (⟨sx rfl,sx rfl,sx rfl,trivial⟩) (⟨sx rfl,trivial⟩) trivial) ?_;refine uAd (uAb ?_);refine uAa rfl rfl rfl (uAc rfl gU) ?_;refine uAa rfl rfl rfl (uAk rfl rfl gU gU rfl) ?_;refine uAa rfl rfl rfl (uAc rfl gU) ?_;refine uAa rfl rfl rfl (uAc rfl gU) ?_;refine uAa rfl rfl rfl (uAk rfl rfl (fun hh=>hh) gU rfl) ?_;refine uAa rfl rfl rfl (uAN rfl rfl gU (fun _ hi=>gP rfl hi)) ?_;refine uAa rfl rfl rfl (uAc rfl gU) ?_;refine uAa rfl rfl rfl (uAc rfl gU) ?_;refine uAa rfl rfl rfl (uAg rfl gU rfl rfl) ?_;refine uAa rfl rfl rfl (uAi rfl (fun hh=>hh) rfl rfl rfl rfl) ?_;refine uAa rfl rfl rfl (uA4 rfl (fun hh=>hh) rfl rfl) ?_
 refine uAa rfl rfl rfl (uAk rfl rfl (fun hh=>hh) (fun hh=>hh) rfl) ?_;refine uA8 (s:=⟨[(1,_,_),(2,_,_),(18,_,_),(23,_,_)],[(.l 2,_)],[],[]⟩) (uAj (⟨sx rfl,sx rfl,sx rfl,sx rfl,trivial⟩) (⟨sx rfl,trivial⟩) trivial) ?_;refine uAa rfl rfl rfl (uAN rfl rfl gU (fun _ hi=>gP rfl hi)) ?_;refine uAf ?_;refine uAn rfl (fun hc=>?_) (fun hc=>?_)
 ·try simp only [nn,uAh,uAB,T.rows_len,Gl.rows_len,Fs.rows_len,Sp.rows_len] at hc
  have h : uC3 n k=[]:=by rw [uC3,if_pos (by omega)]
  refine uAd (uAb ?_);refine uAa rfl rfl rfl (uAe rfl gU) ?_;refine uAf ?_;refine uAo ?_
  repeat (first | refine tR ?_ | refine bR ?_)
  refine uAs rfl ?_ trivial
  (rw [h]; rfl)
 ·try simp only [nn,uAh,uAB,T.rows_len,Gl.rows_len,Fs.rows_len,Sp.rows_len] at hc
  have h : uC3 n k=valL n.fresh (n.roles.getD k.toNat []):=by rw [uC3,if_neg (by omega)]
  have hok:=uFI (n:=n) (uH5 (n:=n) (by omega)).1
  have b2:=hok.f2
  refine uAp ?_;refine uAd (uAb ?_);refine uAa rfl rfl rfl (uAm rfl gU rfl rfl rfl rfl rfl) ?_;refine uAa rfl rfl rfl (uAc rfl gU) ?_;refine uAx rfl rfl rfl rfl rfl rfl gU gU (uIa n k (by omega) (by omega)) rfl ?_;refine uAa rfl rfl rfl (uAe rfl gU) ?_;refine uAf ?_;refine uAo ?_
  repeat (first | refine tR ?_ | refine bR ?_)
  refine uAs rfl ?_ trivial
  (rw [h]; rfl)
theorem uJz (n : Nar) (k : Int) (hs : ∀ s ∈ n.steps,s.msg.size≤900000) (hg : ∀ g ∈ n.goals,T.sizes g.data≤900000) : Ctr sys 23 [xn n,xi k] [] (xl (uC3 n k)) none []:=by
 have l2:=Fs.rows_len n.fresh
 have l1:=uAh n.roles
 refine uAA Tryz.func23 rfl rfl rfl rfl rfl rfl ?_;refine uAd (uAb ?_);refine uAt rfl (uAI rfl rfl rfl rfl) ?_;refine uAt rfl (uBl (.inr rfl) rfl rfl) ?_;refine uAf ?_;refine uAd ?_;refine uAd (uAb ?_);refine uAa rfl rfl rfl (uAm rfl gU rfl rfl rfl rfl rfl) ?_;refine uAx rfl rfl rfl rfl rfl rfl gU gU (uCg n hs hg) rfl ?_;refine uAa rfl rfl rfl (uAc rfl gU) ?_;refine uAa rfl rfl rfl (uAu rfl gU rfl) ?_;refine uAa rfl rfl rfl (uAu rfl gU rfl) ?_;refine uAa rfl rfl rfl (uAe rfl gU) ?_;refine uAa rfl rfl rfl (uAe rfl gU) ?_;refine uAf ?_;refine uAl (s:=⟨[(1,_,_),(2,_,_),(6,_,_)],[(.l 2,_)],[],[]⟩) (uAj (⟨sx rfl,sx rfl,sx rfl,trivial⟩) (⟨sx rfl,trivial⟩) trivial) ?_;refine uAd (uAb ?_);refine uAa rfl rfl rfl (uAc rfl gU) ?_;refine uAa rfl rfl rfl (uAk rfl rfl gU gU rfl) ?_;refine uAa rfl rfl rfl (uAc rfl gU) ?_;refine uAa rfl rfl rfl (uAc rfl gU) ?_;refine uAa rfl rfl rfl (uAk rfl rfl (fun hh=>hh) gU rfl) ?_;refine uAa rfl rfl rfl (uAN rfl rfl gU (fun _ hi=>gP rfl hi)) ?_;refine uAa rfl rfl rfl (uAc rfl gU) ?_;refine uAa rfl rfl rfl (uAc rfl gU) ?_;refine uAa rfl rfl rfl (uAg rfl gU rfl rfl) ?_;refine uAa rfl rfl rfl (uAi rfl (fun hh=>hh) rfl rfl rfl rfl) ?_;refine uAa rfl rfl rfl (uA4 rfl (fun hh=>hh) rfl rfl) ?_
 refine uAa rfl rfl rfl (uAk rfl rfl (fun hh=>hh) (fun hh=>hh) rfl) ?_;refine uA8 (s:=⟨[(1,_,_),(2,_,_),(21,_,_),(26,_,_)],[(.l 2,_)],[],[]⟩) (uAj (⟨sx rfl,sx rfl,sx rfl,sx rfl,trivial⟩) (⟨sx rfl,trivial⟩) trivial) ?_;refine uAa rfl rfl rfl (uAN rfl rfl gU (fun _ hi=>gP rfl hi)) ?_;refine uAf ?_;refine uAn rfl (fun hc=>?_) (fun hc=>?_)
 ·try simp only [nn,uAh,uAB,T.rows_len,Gl.rows_len,Fs.rows_len,Sp.rows_len] at hc
  have h : uC3 n k=[]:=by rw [uC3,if_pos (by omega)]
  refine uAd (uAb ?_);refine uAt rfl (uBl (.inr rfl) rfl rfl) ?_;refine uAf ?_;refine uAo ?_
  repeat (first | refine tR ?_ | refine bR ?_)
  refine uAs rfl ?_ trivial
  (rw [h]; rfl)
 ·try simp only [nn,uAh,uAB,T.rows_len,Gl.rows_len,Fs.rows_len,Sp.rows_len] at hc
  have h : uC3 n k=valL n.fresh (n.roles.getD k.toNat []):=by rw [uC3,if_neg (by omega)]
  have hok:=uFI (n:=n) (uH5 (n:=n) (by omega)).1
  have b2:=hok.f2
  rw [h]
  refine uAp ?_;refine uAd (uAb ?_);refine uAt rfl (uBl (.inr rfl) rfl rfl) ?_;refine uAf ?_;refine uAd ?_;refine uAd (uAb ?_);refine uAa rfl rfl rfl (uAg rfl gU rfl rfl) ?_;refine uAa rfl rfl rfl (uAi rfl gU rfl rfl rfl rfl) ?_;refine uAJ rfl rfl rfl rfl rfl gU rfl rfl ?_ (fun hh=>by simp at hh); intro hlen;refine uAa rfl rfl rfl (uAc rfl gU) ?_;refine uAf ?_;refine uAl (s:=⟨[(1,_,_),(2,_,_),(7,_,_),(29,_,_),(30,_,_),(31,_,_)],[(.l 2,_)],[(.t 7,_)],[]⟩) (uAj (⟨sx rfl,sx rfl,sx rfl,sx rfl,sx rfl,sx rfl,trivial⟩) (⟨sx rfl,trivial⟩) (⟨rfl,trivial⟩)) ?_;refine uAv ?_;refine uAW (ι:=Nat) { t:=[(1,_,_),(2,_,_),(29,_,_),(30,_,_)],bx:=[(.l 2,_)],ow:=[(.t 7,_)] } (fun j=>[(31,true,xi (j : Int)),(7,true,xl (valL (n.fresh.take j) (n.roles.getD k.toNat [])))]) (fun j=>[]) (fun j=>j≤n.fresh.length) (fun j=>n.fresh.length - j) (0) (by simp) (uAj (⟨sx rfl,sx rfl,sx rfl,sx rfl,sx rfl,sx rfl,trivial⟩) (⟨sx rfl,trivial⟩) (⟨rfl,trivial⟩)) ?_
  intro j hok
  dsimp only [List.cons_append,List.nil_append]
  have hvl:=uJC (n.fresh.take j) (n.roles.getD k.toNat [])
  have hrl:=T.rows_len (valL (n.fresh.take j) (n.roles.getD k.toNat []))
  rw [List.length_take] at hvl
  refine uAd (uAb ?_);refine uAa rfl rfl rfl (uAk rfl rfl gU gU rfl) ?_;refine uAf ?_;refine uAd ?_;refine uAn rfl (fun hc2=>?_) (fun hc2=>?_)
  ·try simp only [nn,uAh,uAB,T.rows_len,Gl.rows_len,Fs.rows_len,Sp.rows_len] at hc2
   have hT:=uBx (l:=n.fresh) (d:=default) (k:=j) (by omega)
   have hV:=uHo (n.fresh.take j) (n.roles.getD k.toNat []) (n.fresh.getD j default)
   rw [← hT] at hV
   refine uAp ?_;refine uAd ?_;refine uAv ?_;refine uAd (uAb ?_);refine uAa rfl rfl rfl (uAr rfl rfl gU gU rfl rfl rfl (fun hh=>Fs.rows_at (by first | omega | (simp at hh ⊢; omega)))) ?_;refine uAa rfl rfl rfl (uAE rfl gU rfl rfl rfl rfl) ?_;refine uAt rfl (uAM rfl rfl rfl) ?_;refine uAt rfl (uAz rfl rfl rfl rfl rfl rfl rfl) ?_;refine uAf ?_;refine uAd ?_;refine awp_drawn' (by kernel_rfl) ?_;refine uAq rfl rfl rfl rfl (uAg rfl gU rfl rfl) ?_;refine uBa rfl rfl rfl rfl rfl rfl rfl gU rfl rfl rfl rfl ?_;refine uAq rfl rfl rfl rfl (uAg rfl gU rfl rfl) ?_;refine uBa rfl rfl rfl rfl rfl rfl rfl gU rfl rfl rfl rfl ?_;refine uAq rfl rfl rfl rfl (uAc rfl gU) ?_;refine uAq rfl rfl rfl rfl (uAr (j:=k.toNat) rfl rfl gU gU rfl rfl (by first | omega | (simp at hh ⊢; omega)) (fun hh=>uBI (by first | omega | (simp at hh ⊢; omega)))) ?_;refine uAq rfl rfl rfl rfl (uAQ rfl gU rfl rfl rfl) ?_;refine uAq rfl rfl rfl rfl (uA2 rfl rfl gU gU rfl) ?_;refine uA1 (by kernel_rfl) ?_;refine uAl (s:=⟨[(1,_,_),(2,_,_),(7,_,_),(9,_,_),(29,_,_),(30,_,_),(31,_,_),(42,_,_)],[(.l 2,_),(.l 9,_)],[(.t 7,_)],[]⟩) (uAj (⟨sx rfl,sx rfl,sx rfl,sx rfl,sx rfl,sx rfl,sx rfl,sx rfl,trivial⟩) (⟨sx rfl,sx rfl,trivial⟩) (⟨(ak rfl (ak rfl (ak rfl (ak rfl (ak rfl (ak rfl (ak rfl (ak rfl (rfl))))))))),trivial⟩)) ?_
   refine uAn rfl (fun hc3=>?_) (fun hc3=>?_)
   ·try simp only [nn,uAh,uAB,T.rows_len,Gl.rows_len,Fs.rows_len,Sp.rows_len] at hc3
    rw [if_pos hc3] at hV
    refine uAb ?_;refine uAt rfl (uAT (.inl rfl) rfl rfl rfl) ?_;refine uAa rfl rfl rfl (uAg rfl gU rfl rfl) ?_;refine uAa rfl rfl rfl (uAi rfl gU rfl rfl rfl rfl) ?_;refine uAa rfl rfl rfl (uAg rfl gU rfl rfl) ?_;refine uAa rfl rfl rfl (uAi rfl gU rfl rfl rfl rfl) ?_;refine uAa rfl rfl rfl (uBc rfl Tryz.underlying47 rfl gU) ?_;refine uAU (xs:=[_]) rfl rfl rfl rfl rfl rfl rfl rfl rfl gU rfl ?_;refine uAt rfl (uA3 rfl rfl rfl rfl rfl rfl rfl (by first | omega | (simp only [List.length_append,List.length_singleton,T.rows_len,List.length_map,List.length_take]; omega)) (by first | omega | (simp only [List.length_append,List.length_singleton,T.rows_len,List.length_map,List.length_take]; omega))) ?_;refine uAt rfl (uAT (.inr rfl) rfl rfl rfl) ?_;refine uAf ?_;refine uAl (s:=⟨[(1,_,_),(2,_,_),(7,_,_),(29,_,_),(30,_,_),(31,_,_)],[(.l 2,_)],[(.t 7,_)],[]⟩) (uAj (⟨sx rfl,sx rfl,sx rfl,sx rfl,sx rfl,sx rfl,trivial⟩) (⟨sx rfl,trivial⟩) (⟨rfl,trivial⟩)) ?_;refine uAb ?_;refine uAa rfl rfl rfl (uAy rfl rfl gU gU rfl (IntWalk.i64_in _ (by omega))) ?_;refine uAa rfl rfl rfl (uAc rfl gU) ?_;refine uAf ?_;refine ⟨j + 1,?_,?_,uAj (⟨⟨_,rfl,?_⟩,⟨⟨_,rfl,?_⟩,⟨sx rfl,sx rfl,sx rfl,sx rfl,trivial⟩⟩⟩) (⟨sx rfl,trivial⟩) (⟨rfl,trivial⟩)⟩
    all_goals (first | rfl | omega | exact tx ((uFi _ ⟨2,(n.fresh.getD j default).name,(n.fresh.getD j default).sort,[]⟩).trans (by rw [hV])))
   ·try simp only [nn,uAh,uAB,T.rows_len,Gl.rows_len,Fs.rows_len,Sp.rows_len] at hc3
    rw [if_neg hc3,List.append_nil] at hV
    refine uAp ?_;refine uAb ?_;refine uAa rfl rfl rfl (uAy rfl rfl gU gU rfl (IntWalk.i64_in _ (by omega))) ?_;refine uAa rfl rfl rfl (uAc rfl gU) ?_;refine uAf ?_;refine ⟨j + 1,?_,?_,uAj (⟨⟨_,rfl,?_⟩,⟨⟨_,rfl,?_⟩,⟨sx rfl,sx rfl,sx rfl,sx rfl,trivial⟩⟩⟩) (⟨sx rfl,trivial⟩) (⟨rfl,trivial⟩)⟩
    all_goals (first | rfl | omega | exact tx (by rw [hV]))
  ·try simp only [nn,uAh,uAB,T.rows_len,Gl.rows_len,Fs.rows_len,Sp.rows_len] at hc2
   have hj : j=n.fresh.length:=by omega
   subst hj
   rw [List.take_length]
   refine uAO ?_
   repeat (first | refine uAG ?_ | refine uAF ?_ | refine uAC rfl ?_)
   refine uAd (uAb ?_);refine uAt rfl (uAT (.inl rfl) rfl rfl rfl) ?_;refine uAt rfl (uAT (.inr rfl) rfl rfl rfl) ?_;refine uAf ?_;refine uAo ?_
   repeat (first | refine tR ?_ | refine bR ?_)
   refine uAs rfl ?_ trivial
   rfl
end Go.Proofs.YteidahabkfgfjaaGreat
namespace Go.Proofs.YteidahabkfgfjaaGreat
open Go Go.Abs
def hasB (l : List T) (u : T) : Bool:=l.any fun x=>x.cmp u == 0
theorem uKz (l : List Fs) (r : List UInt8) : T.sizes (valL l r)≤l.length:=by
 have h : ∀ m : List Fs,T.sizes (m.map fun f=>(⟨2,f.name,f.sort,[]⟩ : T))=m.length:=by
  intro m
  induction m with
  | nil=>simp [T.sizes]
  | cons x m ih=>rw [List.map_cons,T.sizes,ih,T.size,T.sizes,List.length_cons]; omega
 rw [valL,h]; exact List.length_filter_le _ _
theorem uE7 (n : Nar) (k : Int) (hd : ∀ g ∈ n.goals,g.data.length≤2097152) : Ctr sys 6 [xn n,xi k] [] (xb true) none []:=by
 refine uAA Tryz.func6 rfl rfl rfl rfl rfl rfl ?_;refine uAd (uAb ?_);refine uAt rfl (uAI rfl rfl rfl rfl) ?_;refine uAa rfl rfl rfl (uAe rfl gU) ?_;refine uAf ?_;refine uAd ?_;refine uAd (uAb ?_);refine uAx rfl rfl rfl rfl rfl rfl gU gU (uGy) rfl ?_;refine uAa rfl rfl rfl (uAX rfl gU) ?_;refine uAa rfl rfl rfl (uAc rfl gU) ?_;refine uAa rfl rfl rfl (uAm rfl gU rfl rfl rfl rfl rfl) ?_;refine uAx rfl rfl rfl rfl rfl rfl gU (fun hh=>gA ((fun hh=>hh) hh) (rfl)) (uJ0 n hd) rfl ?_;refine uAa rfl rfl rfl (uAX rfl (fun hh=>hh)) ?_;refine uAa rfl rfl rfl (uAN rfl rfl gU (fun _ hi=>gP rfl hi)) ?_;refine uAf ?_;refine uAl (s:=⟨[(1,_,_),(2,_,_),(11,_,_)],[(.l 2,_)],[],[]⟩) (uAj (⟨sx rfl,sx rfl,sx rfl,trivial⟩) (⟨sx rfl,trivial⟩) trivial) ?_;refine uAn rfl (fun hc=>?_) (fun hc=>?_)
 ·refine uAd (uAb ?_)
  refine uAx rfl rfl rfl rfl rfl rfl gU gU (uGy) rfl ?_;refine uAa rfl rfl rfl (uAe rfl gU) ?_;refine uAf ?_;refine uAo ?_
  repeat (first | refine tR ?_ | refine bR ?_)
  refine uAs rfl ?_ trivial
  rfl
 ·try simp only [nn,uAh,uAB,T.rows_len,Gl.rows_len,Fs.rows_len,Sp.rows_len] at hc
  obtain ⟨p1,p2,p3,p4⟩:=uN0 (n:=n) (by simpa using hc)
  have hz : T.sizes (uC3 n k)≤900000:=by
   rw [uC3]
   split
   ·simp [T.sizes]
   ·rename_i q
    have hok:=uFI (n:=n) (uH5 (n:=n) (by omega)).1
    have b2:=hok.f2
    have := uKz n.fresh (n.roles.getD k.toNat [])
    omega
  refine uAp ?_;refine uAd ?_;refine awp_drawn' (by kernel_rfl) ?_;refine uAD rfl rfl rfl rfl rfl rfl rfl gU rfl rfl rfl rfl rfl ?_;refine uAq rfl rfl rfl rfl (uAc rfl gU) ?_;refine uAR rfl rfl rfl rfl rfl rfl rfl gU gU (uJz n k p3 p4) rfl ?_;refine uAD rfl rfl rfl rfl rfl rfl rfl gU rfl rfl rfl rfl rfl ?_;refine uAq rfl rfl rfl rfl (uAc rfl gU) ?_;refine uAR rfl rfl rfl rfl rfl rfl rfl gU gU (uJQ n k p3 p4) rfl ?_;refine uAR rfl rfl rfl rfl rfl rfl rfl gU gU (uJ2 _ _ (by omega) (by omega)) rfl ?_;refine uAq rfl rfl rfl rfl (uAe rfl gU) ?_;refine uA1 (by kernel_rfl) ?_;refine uAo ?_
  repeat (first | refine tR ?_ | refine bR ?_)
  refine uAs rfl ?_ trivial;exact uBV (uKf _)
end Go.Proofs.YteidahabkfgfjaaGreat
namespace Go.Abs
def uBf (P : Program) (M : Nat) : Nat→TypeId→List C→Prop
 | 0,_,_=>False
 | n + 1,t,cs=>match P.underlying t with
  | some .bool=>∃ x,cs=[.b x]
  | some (.int k)=>∃ m,cs=[.i k m]∧(Lit.int k m).wf=true
  | some .string=>∃ l,cs=[.s l]∧l.length≤M
  | some (.slice e)=>∃ es,cs=[.sl (P.cellsOf e) es]∧es.length≤M ∧ ∀ row,row ∈ es→uBf P M n e row
  | some (.struct fs)=>uFX (uBf P M n) fs.toList cs
  | some (.array m e)=>hasN (uBf P M n e) m cs
  | _=>False
section
variable {H : Type} {enc : TypeId × Value→H} {P : Program} {L : List TypeId} {w : World}
structure Bnd (P : Program) (L : List TypeId) (M : Nat) (B : TypeId→DataW H→Prop) : Prop where
 str : ∀ {t : TypeId} {s : List UInt8},P.underlying t=some .string→B t (.lit (.string s))→s.length≤M
 sl : ∀ {t e : TypeId} {es sp : List (DataW H)},t ∈ L→P.underlying t=some (.slice e)→B t (.slice es sp)→es.length≤M ∧ ∀ x ∈ es,B e x
 st : ∀ {t : TypeId} {fs : Array Field} {ps : List (DataW H)},P.underlying t=some (.struct fs)→B t (.agg ps) → ∀ (j : Nat) (f : Field) (x : DataW H),fs.toList[j]? = some f→ps[j]? = some x→B f.type x
 arr : ∀ {t e : TypeId} {n : Nat} {ps : List (DataW H)},P.underlying t=some (.array n e)→B t (.agg ps) → ∀ x ∈ ps,B e x
theorem uFL {M : Nat} {B : TypeId→DataW H→Prop} (hB : Bnd P L M B) (hL : uGg P L=true) : ∀ (fuel : Nat) (t : TypeId) (vs : List Value) (d : DataW H) (p : List MemPlace),t ∈ L→B t d →
  DataW.trod enc P w 0 (fun _=>true) true fuel t vs=some (d,p) → ∃ cs,uBf P M fuel t cs∧All2 (CRep w (topG w).S) cs vs∧cs.length=P.cellsOf t
 | 0,t,vs,d,p,_,_,h=>by simp [DataW.trod] at h
 | fuel + 1,t,vs,d,p,ht,hbd,h=>by
  have IH:=uFL hB hL fuel
  have hc:=List.all_eq_true.1 hL t ht
  unfold DataW.trod at h
  split at h
  ·rename_i b hu
   simp only [hu,beq_iff_eq] at hc
   exact ⟨[.b b],by simp only [uBf,hu]; exact ⟨_,rfl⟩,⟨.b b,trivial⟩,hc.symm⟩
  ·rename_i k k' n hu
   simp only [hu,beq_iff_eq] at hc
   split at h
   ·rename_i hk
    obtain ⟨rfl,hwf⟩:=hk
    exact ⟨[.i k' n],by simp only [uBf,hu]; exact ⟨n,rfl,hwf⟩,⟨.i _ n,trivial⟩,hc.symm⟩
   ·simp at h
  ·rename_i hu; simp only [hu] at hc; simp at hc
  ·rename_i s hu
   simp only [hu,beq_iff_eq] at hc
   split at h
   ·rename_i hs
    have hs' : s.data.toList.length≤9223372036854775807:=by
     have h1 : s.data.toList.length=s.size:=rfl
     have h2 : maxLen=9223372036854775807:=by decide
     omega
    simp only [Option.some.injEq,Prod.mk.injEq] at h
    obtain ⟨rfl,_⟩:=h
    refine ⟨[.s s.data.toList],by simp only [uBf,hu]; exact ⟨_,rfl,hB.str hu hbd⟩,⟨?_,trivial⟩,hc.symm⟩
    have := CRep.s (w := w) (S := (topG w).S) s.data.toList hs'
    rwa [uKR] at this
   ·simp at h
  ·rename_i hu; simp only [hu] at hc; simp at hc
  ·rename_i hu; simp only [hu] at hc; simp at hc
  ·rename_i e hu
   simp only [hu,Bool.and_eq_true,beq_iff_eq] at hc
   exact ⟨[.sl (P.cellsOf e) []],by simp [uBf,hu],⟨.nil _,trivial⟩,hc.1.1.symm⟩
  ·rename_i e a len cap hu
   simp only [hu,Bool.and_eq_true,beq_iff_eq,decide_eq_true_eq,bne_iff_ne] at hc
   obtain ⟨⟨hc1,heL⟩,hsz0⟩:=hc
   simp only at h
   split at h
   ·rename_i hb
    obtain ⟨_,hlc,hcm⟩:=hb
    have hmax : len≤9223372036854775807:=by
     have h2 : maxLen=9223372036854775807:=by decide
     omega
    simp only [Option.bind_eq_some_iff,if_true,Option.map_eq_some_iff] at h
    obtain ⟨elems,h1,rest,h2,hd⟩:=h
    simp only [Prod.mk.injEq] at hd
    obtain ⟨rfl,_⟩:=hd
    have hbs:=hB.sl ht hu hbd
    have hel0 : ∀ i,i < len → ∃ ci y,w.cells? 0 (a.add (i * P.cellsOf e)) (P.cellsOf e)=some ci∧DataW.trod enc P w 0 (fun _=>true) true fuel e ci=some y∧B e y.1:=by
     intro i hil
     obtain ⟨y,hy,hy2⟩:=uGm h1 (i:=i) (x:=i) (by simp [hil])
     simp only [Option.bind_eq_some_iff] at hy
     obtain ⟨ci,q1,q2⟩:=hy
     exact ⟨ci,y,q1,q2,hbs.2 _ (List.mem_map.2 ⟨y,List.mem_of_getElem? hy2,rfl⟩)⟩
    have hlen0 : elems.length=len := by have := Go.mapM_some_length h1; simpa using this
    have hel : ∀ i,i < cap → ∃ ci y,w.cells? 0 (a.add (i * P.cellsOf e)) (P.cellsOf e)=some ci∧DataW.trod enc P w 0 (fun _=>true) true fuel e ci=some y:=by
     intro i hi
     by_cases hil : i < len
     ·obtain ⟨y,hy,_⟩:=uGm h1 (i:=i) (x:=i) (by simp [hil])
      simp only [Option.bind_eq_some_iff] at hy
      obtain ⟨ci,q1,q2⟩:=hy
      exact ⟨ci,y,q1,q2⟩
     ·obtain ⟨y,hy,_⟩:=uGm h2 (i:=i - len) (x:=i - len) (by simp [show i - len < cap - len by omega])
      rw [show len + (i - len)=i by omega] at hy
      simp only [Option.bind_eq_some_iff] at hy
      obtain ⟨ci,q1,q2⟩:=hy
      exact ⟨ci,y,q1,q2⟩
    have hspot : cap≠0→a.spot=none:=by
     intro h0
     obtain ⟨ci,y,q1,_⟩:=hel 0 (by omega)
     obtain ⟨q3,q4⟩:=uJM q1
     have hlt : 0 < ci.length:=by omega
     have := q4 0 _ (List.getElem?_eq_getElem hlt)
     simpa [Addr.add] using World.cell?_spot this
    obtain ⟨es,hesl,hes⟩:=uCO (R:=fun i row=>uBf P M fuel e row∧row.length=P.cellsOf e∧RowAt w (topG w).S a.block (a.off + i * P.cellsOf e) row) len (by
     intro i hi
     obtain ⟨ci,⟨y1,y2⟩,q1,q2,q3⟩:=hel0 i (by omega)
     obtain ⟨row,r1,r2,r3⟩:=IH e ci y1 y2 heL q3 q2
     refine ⟨row,r1,r3,fun j c hj=>?_⟩
     obtain ⟨v,hv,hrep⟩:=r2.get j c hj
     have hcell:=(uJM q1).2 j v hv
     have hsp:=hspot (by omega)
     obtain ⟨b,o,sp⟩:=a
     simp only at hsp
     subst hsp
     rw [uNR] at hcell
     exact ⟨uOq (World.block_lt_of_cell? w ⟨b,o + i * P.cellsOf e + j,none⟩ hcell),v,hcell,hrep⟩)
    refine ⟨[.sl (P.cellsOf e) es],?_,⟨?_,trivial⟩,hc1.symm⟩
    ·simp only [uBf,hu]
     refine ⟨es,rfl,by have := hbs.1; rw [List.length_map] at this; omega,fun row hr=>?_⟩
     obtain ⟨i,hi⟩:=List.getElem?_of_mem hr
     exact (hes i row hi).1
    ·exact CRep.mk_any hesl hlc hmax hspot fun i row hi=>(hes i row hi).2
   ·simp at h
  ·rename_i vs _ _ fs hu
   simp only [hu,beq_iff_eq] at hc
   split at h
   ·rename_i hlen
    simp only [Option.map_eq_some_iff] at h
    obtain ⟨xs,hxs,hd⟩:=h
    simp only [Prod.mk.injEq] at hd
    obtain ⟨rfl,_⟩:=hd
    have hbs:=hB.st hu hbd
    have key : ∀ (fs : List Field) (off : Nat) (xs : List (DataW H × List MemPlace)),uFV P L fs off=some (P.cellsOf t) →
      (fs.mapM fun f=>DataW.trod enc P w 0 (fun _=>true) true fuel f.type ((vs.drop f.offset).take (P.cellsOf f.type)))=some xs→(∀ (j : Nat) (f : Field) (x : DataW H),fs[j]? = some f→(xs.map (·.1))[j]? = some x→B f.type x) →
      ∃ cs,uFX (uBf P M fuel) fs cs∧All2 (CRep w (topG w).S) cs (vs.drop off)∧cs.length=P.cellsOf t - off:=by
     intro fs
     induction fs with
     | nil =>
      intro off xs hf _ _
      simp only [uFV,Option.some.injEq] at hf
      refine ⟨[],rfl,?_,by simp; omega⟩
      rw [List.drop_eq_nil_of_le (by omega)]
      trivial
     | cons f r ih =>
      intro off xs hf hm hbb
      simp only [uFV] at hf
      split at hf
      ·rename_i hfo
       obtain ⟨rfl,hfL⟩:=hfo
       simp only [List.mapM_cons,Option.bind_eq_bind,Option.bind_eq_some_iff] at hm
       obtain ⟨⟨y1,y2⟩,hy,ys,hys,hxs2⟩:=hm
       have hxs2 : (y1,y2) :: ys=xs:=by simpa using hxs2
       subst hxs2
       obtain ⟨a,a1,a2,a3⟩:=IH _ _ _ _ hfL (hbb 0 f y1 rfl rfl) hy
       obtain ⟨b,b1,b2,b3⟩:=ih _ _ hf hys (fun j f x h1 h2=>hbb (j + 1) f x (by simpa using h1) (by simpa using h2))
       have hle:=uJA hf
       refine ⟨a++b,⟨a,b,rfl,a1,b1⟩,?_,by simp; omega⟩
       have := a2.append b2
       rwa [← List.drop_drop,List.take_append_drop] at this
      ·simp at hf
    obtain ⟨cs,c1,c2,c3⟩:=key fs.toList 0 xs hc hxs hbs
    exact ⟨cs,by simp only [uBf,hu]; exact c1,by simpa using c2,by simpa using c3⟩
   ·simp at h
  ·rename_i vs _ _ n e hu
   simp only [hu,Bool.and_eq_true,beq_iff_eq,decide_eq_true_eq] at hc
   obtain ⟨heL,hct⟩:=hc
   split at h
   ·rename_i hlen
    simp only [Option.map_eq_some_iff] at h
    obtain ⟨xs,hxs,hd⟩:=h
    simp only [Prod.mk.injEq] at hd
    obtain ⟨rfl,_⟩:=hd
    have hbs:=hB.arr hu hbd
    have key : ∀ (m k : Nat),k + m=n → ∃ cs,hasN (uBf P M fuel e) m cs∧All2 (CRep w (topG w).S) cs (vs.drop (k * P.cellsOf e))∧cs.length=m * P.cellsOf e:=by
     intro m
     induction m with
     | zero =>
      intro k hk
      refine ⟨[],rfl,?_,by simp⟩
      have : k=n:=by omega
      subst this
      rw [List.drop_eq_nil_of_le (by omega)]
      trivial
     | succ m ih =>
      intro k hk
      obtain ⟨⟨y1,y2⟩,hy,hy2⟩:=uGm hxs (i:=k) (x:=k) (by simp [show k < n by omega])
      obtain ⟨a,a1,a2,a3⟩:=IH _ _ _ _ heL (hbs _ (List.mem_map.2 ⟨(y1,y2),List.mem_of_getElem? hy2,rfl⟩)) hy
      obtain ⟨b,b1,b2,b3⟩:=ih (k + 1) (by omega)
      refine ⟨a++b,⟨a,b,rfl,a1,b1⟩,?_,by simp [a3,b3,Nat.succ_mul]; omega⟩
      have := a2.append b2
      rwa [Nat.succ_mul,← List.drop_drop,List.take_append_drop] at this
    obtain ⟨cs,c1,c2,c3⟩:=key n 0 (by omega)
    exact ⟨cs,by simp only [uBf,hu]; exact c1,by simpa using c2,by rw [c3,hct]⟩
   ·simp at h
  all_goals first | (rename_i hu; simp only [hu] at hc; simp at hc) | (simp at h) | trace_state
theorem uMB {M : Nat} {B : TypeId→DataW H→Prop} (hB : Bnd P L M B) (hL : uGg P L=true) {t : TypeId} {v : Value} {base : Nat} {d : TypeDesc} {x : DataW H} {p : List MemPlace} (ht : t ∈ L) (hd : P.underlying t=some d) (hp : uKe d=true) (hok : Value.okWide P w .any base t v)
  (hbd : B t x) (h : DataW.Trod enc P w 0 (fun _=>true) true t v x p) : ∃ n c,uBf P M n t [c]∧XRep w (topG w) (.v (.c c)) v:=by
 obtain ⟨n,hn⟩:=h
 rw [uFB (uIl hd hp hok)] at hn
 obtain ⟨cs,h1,h2,_⟩:=uFL hB hL n t _ _ _ ht hbd hn
 match cs,h2 with
 | [c],h2=>exact ⟨n,c,h1,h2.1⟩
theorem uM3 {M : Nat} {B : TypeId→DataW H→Prop} (hB : Bnd P L M B) (hL : uGg P L=true) {t : TypeId} {v : Value} {base : Nat} {d : TypeDesc} {x : DataW H} {p : List MemPlace} (ht : t ∈ L) (hd : P.underlying t=some d) (hp : rowD d=true) (hok : Value.okWide P w .any base t v)
  (hbd : B t x) (h : DataW.Trod enc P w 0 (fun _=>true) true t v x p) : ∃ n cs,uBf P M n t cs∧XRep w (topG w) (.v (.agg cs)) v:=by
 obtain ⟨n,hn⟩:=h
 obtain ⟨vs,rfl⟩:=uKk hd hp hok
 obtain ⟨cs,h1,h2,_⟩:=uFL hB hL n t _ _ _ ht hbd hn
 exact ⟨n,cs,h1,vs.toList,by simp,by simpa [Value.cells] using h2⟩
end
end Go.Abs
namespace Go.Proofs.YteidahabkfgfjaaGreat
open Go Go.Abs
theorem uCO {α : Type} {f : α→List C} {R : List C→Prop} (h : ∀ row,R row → ∃ t : α,row=f t) : ∀ es : List (List C),(∀ row,row ∈ es→R row) → ∃ ts : List α,es=ts.map f
 | [],_=>⟨[],rfl⟩
 | e :: es,he=>by
  obtain ⟨t,ht⟩:=h e (he e (List.mem_cons_self ..))
  obtain ⟨ts,hts⟩:=uCO h es fun row hr=>he row (List.mem_cons_of_mem _ hr)
  exact ⟨t :: ts,by rw [List.map_cons,← hts,ht]⟩
theorem own : ownKnob Tryz.prog.godebug=none:=by kernel_rfl
theorem uKS : laidOutB Tryz.prog=true:=by kernel_rfl
end Go.Proofs.YteidahabkfgfjaaGreat
namespace Go.Proofs.YteidahabkfgfjaaGreat
open Go Go.Abs
theorem uOi {H : Type} (d : DataW H) : 1≤Rows.uptoBulk d:=by
 cases d with
 | lit l=>cases l <;> simp [Rows.uptoBulk]
 | nil=>simp [Rows.uptoBulk]
 | ptr d=>simp [Rows.uptoBulk]
 | slice elems spare=>simp [Rows.uptoBulk]
 | agg parts=>simp [Rows.uptoBulk]
 | iface t d=>simp [Rows.uptoBulk]
 | map entries=>simp [Rows.uptoBulk]
 | held h=>simp [Rows.uptoBulk]
theorem uE9 {H : Type} {d : DataW H} {l : List (DataW H)} (h : d ∈ l) : Rows.uptoBulk d≤Rows.uptoBulkAll l:=by
 induction l with
 | nil=>cases h
 | cons x r ih =>
  simp only [Rows.uptoBulkAll]
  rcases List.mem_cons.1 h with e | e
  ·subst e; omega
  ·have := ih e; omega
theorem uOm {H : Type} (l : List (DataW H)) : l.length≤Rows.uptoBulkAll l:=by
 induction l with
 | nil=>simp
 | cons x r ih=>have := uOi x; simp only [Rows.uptoBulkAll,List.length_cons]; omega
theorem uIQ {H : Type} {L : List TypeId} : Bnd Tryz.prog L 1048576 (fun _ (d : DataW H)=>Rows.uptoBulk d≤1048576) where
 str:=fun _ h=>by simp only [Rows.uptoBulk] at h; omega
 sl:=fun {t e es sp} _ _ h=>by
  simp only [Rows.uptoBulk] at h
  have h1:=uOm es
  exact ⟨by omega,fun x hx=>by have := uE9 hx; omega⟩
 st:=fun {t fs ps} _ h j f x _ hx=>by
  simp only [Rows.uptoBulk] at h
  have := uE9 (List.mem_of_getElem? hx); omega
 arr:=fun {t e n ps} _ h x hx=>by
  simp only [Rows.uptoBulk] at h
  have := uE9 hx; omega
theorem uMw : uGg Tryz.prog [3,9,5,22,47,39,79,23,49,24,51,25,27]=true:=by kernel_rfl
theorem uNm : Tryz.prog.cellsOf 47=4:=by kernel_rfl
theorem uOk : Tryz.prog.cellsOf 9=1:=by kernel_rfl
theorem uNE : Tryz.prog.cellsOf 79=3:=by kernel_rfl
theorem uNZ : Tryz.prog.cellsOf 49=7:=by kernel_rfl
theorem uNO : Tryz.prog.cellsOf 51=5:=by kernel_rfl
theorem uDX {M n : Nat} {cs : List C} (h : uBf Tryz.prog M n 3 cs) : ∃ m,cs=[.i .i64 m]:=by
 cases n with
 | zero=>exact h.elim
 | succ n =>
  simp only [uBf,Tryz.underlying3] at h
  obtain ⟨m,h,_⟩:=h
  exact ⟨m,h⟩
theorem uC8 {M n : Nat} {cs : List C} (h : uBf Tryz.prog M n 9 cs) : ∃ l,cs=[.s l]:=by
 cases n with
 | zero=>exact h.elim
 | succ n =>
  simp only [uBf,Tryz.underlying9] at h
  obtain ⟨m,h,_⟩:=h
  exact ⟨m,h⟩
theorem uIr {M n : Nat} {cs : List C} (h : uBf Tryz.prog M n 22 cs) : ∃ l : List (List UInt8),cs=[.sl 1 (strR l)]:=by
 cases n with
 | zero=>exact h.elim
 | succ n =>
  simp only [uBf,Tryz.underlying22,uOk] at h
  obtain ⟨es,h1,_,h5⟩:=h
  obtain ⟨ts,rfl⟩:=uCO (f:=fun s : List UInt8=>[C.s s]) (fun row hr=>uC8 hr) es h5
  exact ⟨ts,h1⟩
theorem uI0 {M : Nat} (n : Nat) : ∀ cs : List C,uBf Tryz.prog M n 47 cs → ∃ t : T,cs=t.cells:=by
 induction n using Nat.strongRecOn with
 | ind n IH =>
  intro cs h
  cases n with
  | zero=>exact h.elim
  | succ n =>
   simp only [uBf,Tryz.underlying47,uFX] at h
   obtain ⟨a,b,rfl,h1,c,d,rfl,h2,e,f,rfl,h3,g,k,rfl,h4,rfl⟩:=h
   obtain ⟨m1,rfl⟩:=uDX h1
   obtain ⟨m2,rfl⟩:=uC8 h2
   obtain ⟨m3,rfl⟩:=uDX h3
   cases n with
   | zero=>exact h4.elim
   | succ n =>
    simp only [uBf,Tryz.underlying39,uNm] at h4
    obtain ⟨es,rfl,_,h5⟩:=h4
    obtain ⟨ts,rfl⟩:=uCO (f:=T.cells) (IH n (by omega)) es h5
    exact ⟨.mk m1 m2 m3 ts,by simp [T.cells,T.kind,T.name,T.sort,T.kids,T.rows_eq]⟩
theorem uLR {M n : Nat} {cs : List C} (h : uBf Tryz.prog M n 39 cs) : ∃ ts : List T,cs=[.sl 4 (T.rows ts)]∧ts.length≤M:=by
 cases n with
 | zero=>exact h.elim
 | succ n =>
  simp only [uBf,Tryz.underlying39,uNm] at h
  obtain ⟨es,h1,h2,h5⟩:=h
  obtain ⟨ts,rfl⟩:=uCO (f:=T.cells) (uI0 n) es h5
  exact ⟨ts,by rw [h1,T.rows_eq],by simpa using h2⟩
theorem uLB {M n : Nat} {cs : List C} (h : uBf Tryz.prog M n 79 cs) : ∃ f : Fs,cs=f.cells:=by
 cases n with
 | zero=>exact h.elim
 | succ n =>
  simp only [uBf,Tryz.underlying79,uFX] at h
  obtain ⟨a,b,rfl,h1,c,d,rfl,h2,e,f,rfl,h3,rfl⟩:=h
  obtain ⟨m1,rfl⟩:=uC8 h1
  obtain ⟨m2,rfl⟩:=uC8 h2
  obtain ⟨m3,rfl⟩:=uDX h3
  exact ⟨⟨m1,m2,m3⟩,rfl⟩
theorem uNs {M n : Nat} {cs : List C} (h : uBf Tryz.prog M n 49 cs) : ∃ s : Sp,cs=s.cells:=by
 cases n with
 | zero=>exact h.elim
 | succ n =>
  simp only [uBf,Tryz.underlying49,uFX] at h
  obtain ⟨a,b,rfl,h1,c,d,rfl,h2,e,f,rfl,h3,g,k,rfl,h4,rfl⟩:=h
  obtain ⟨m1,rfl⟩:=uC8 h1
  obtain ⟨m2,rfl⟩:=uC8 h2
  obtain ⟨m3,rfl⟩:=uI0 _ _ h3
  obtain ⟨m4,rfl⟩:=uDX h4
  exact ⟨⟨m1,m2,m3,m4⟩,by cases m3; rfl⟩
theorem uMD {M n : Nat} {cs : List C} (h : uBf Tryz.prog M n 51 cs) : ∃ g : {g : Gl // g.data.length≤M},cs=g.1.cells:=by
 cases n with
 | zero=>exact h.elim
 | succ n =>
  simp only [uBf,Tryz.underlying51,uFX] at h
  obtain ⟨a,b,rfl,h1,c,d,rfl,h2,e,f,rfl,h3,g,k,rfl,h4,u,v,rfl,h5,rfl⟩:=h
  obtain ⟨m1,rfl⟩:=uDX h1
  obtain ⟨m2,rfl⟩:=uC8 h2
  obtain ⟨m3,rfl⟩:=uC8 h3
  obtain ⟨m4,rfl,hl⟩:=uLR h4
  obtain ⟨m5,rfl⟩:=uDX h5
  exact ⟨⟨⟨m1,m2,m3,m4,m5⟩,hl⟩,rfl⟩
theorem uLV {M n : Nat} {cs : List C} (h : uBf Tryz.prog M n 23 cs) : ∃ l : List Fs,cs=[.sl 3 (Fs.rows l)]:=by
 cases n with
 | zero=>exact h.elim
 | succ n =>
  simp only [uBf,Tryz.underlying23,uNE] at h
  obtain ⟨es,h1,_,h5⟩:=h
  obtain ⟨ts,rfl⟩:=uCO (f:=Fs.cells) (fun row hr=>uLB hr) es h5
  exact ⟨ts,h1⟩
theorem uLx {M n : Nat} {cs : List C} (h : uBf Tryz.prog M n 24 cs) : ∃ l : List Sp,cs=[.sl 7 (Sp.rows l)]:=by
 cases n with
 | zero=>exact h.elim
 | succ n =>
  simp only [uBf,Tryz.underlying24,uNZ] at h
  obtain ⟨es,h1,_,h5⟩:=h
  obtain ⟨ts,rfl⟩:=uCO (f:=Sp.cells) (fun row hr=>uNs hr) es h5
  exact ⟨ts,h1⟩
theorem uLY {M n : Nat} {cs : List C} (h : uBf Tryz.prog M n 25 cs) : ∃ l : List Gl,cs=[.sl 5 (Gl.rows l)] ∧ ∀ g ∈ l,g.data.length≤M:=by
 cases n with
 | zero=>exact h.elim
 | succ n =>
  simp only [uBf,Tryz.underlying25,uNO] at h
  obtain ⟨es,h1,_,h5⟩:=h
  obtain ⟨ts,rfl⟩:=uCO (f:=fun g : {g : Gl // g.data.length≤M}=>g.1.cells) (fun row hr=>uMD hr) es h5
  refine ⟨ts.map (·.1),by rw [h1,Gl.rows,List.map_map]; rfl,fun g hg=>?_⟩
  obtain ⟨x,_,rfl⟩:=List.mem_map.1 hg
  exact x.2
theorem uOl {n : Nat} {cs : List C} (h : uBf Tryz.prog 1048576 n 27 cs) : ∃ m : {m : Nar // ∀ g ∈ m.goals,g.data.length≤2097152},cs=m.1.cells:=by
 cases n with
 | zero=>exact h.elim
 | succ n =>
  simp only [uBf,Tryz.underlying27,uFX] at h
  obtain ⟨a,b,rfl,h1,c,d,rfl,h2,e,f,rfl,h3,g,k,rfl,h4,u,v,rfl,h5,x,y,rfl,h6,rfl⟩:=h
  obtain ⟨m1,rfl⟩:=uC8 h1
  obtain ⟨m2,rfl⟩:=uIr h2
  obtain ⟨m3,rfl⟩:=uLV h3
  obtain ⟨m4,rfl⟩:=uIr h4
  obtain ⟨m5,rfl⟩:=uLx h5
  obtain ⟨m6,rfl,hl⟩:=uLY h6
  exact ⟨⟨⟨m1,m2,m3,m4,m5,m6⟩,fun g hg=>Nat.le_trans (hl g hg) (by omega)⟩,rfl⟩
theorem uM9 {M n : Nat} {c : C} (h : uBf Tryz.prog M n 3 [c]) : ∃ m,c = .i .i64 m:=by
 obtain ⟨l,hl⟩:=uDX h
 exact ⟨l,by simpa using hl⟩
end Go.Proofs.YteidahabkfgfjaaGreat
