/- Our abstract program logic and contracts of this seat's functions, part 5: no statement of its own (long names of ours are shortened by a program). -/
import Derived.Test.YteidahabkfgfjaaGreatM4
set_option linter.unusedVariables false
set_option linter.unusedSimpArgs false
namespace Go.Proofs.YteidahabkfgfjaaGreat
open Go Go.Abs
def lkI (R : List (List UInt8)) (t : T) : Int:=match J2 R t with
 | none=>-1
 | some k=>(k : Int)
theorem R1 {t : T} (h3 : t.kind=3) (w : List UInt8) (k : Int) : isT t w k=true ↔ t.name=w∧(t.kids.length : Int)=k:=by simp [isT,h3]
theorem shkT_iff {R : List (List UInt8)} {t : T} : shkT R t=true ↔ ((isT t wShk 2=true∧Cj R (kid t 0)=true)∧Cj R (kid t 1)=true) ∧ ¬ (kid t 0).name=(kid t 1).name:=by simp [shkT]
theorem Uk (n : Nar) (t : T) (h3 : t.kind=3) : Ctr sys 120 [xn n,xm t] [] (xi (lkI n.roles t)) none []:=by
 have hr:=T.rows_len t.kids
 refine D1 Tryz.func120 J J J J J J ?_;refine A8 (A6 ?_);refine C3 J (D8 J J J J) ?_;refine C3 J (D8 J J J J) ?_;refine A5 J J J (A9 J gU) ?_;refine B0 ?_;refine A8 (A6 ?_);refine A5 J J J (B1 J gU J J) ?_;refine A5 J J J (B2 J gU J J J J) ?_;refine E0 J J J J J gU J J ?_ (fun hh=>by simp at hh); intro hlen;refine A5 J J J (A9 J gU) ?_;refine B0 ?_;refine B6 (s:=⟨[(2,_,_),(3,_,_),(5,_,_)],[(.l 2,_),(.l 3,_)],[],[]⟩) (B4 (⟨U J,U J,U J,O⟩) (⟨U J,U J,O⟩) O) ?_;refine A8 ?_;refine C4 ?_;refine A8 (A6 ?_);refine A5 J J J (B1 J gU J J) ?_;refine A5 J J J (B2 J gU J J J J) ?_;refine A5 J J J (G0 J J gU gU J) ?_;refine A5 J J J (A7 J gU) ?_;refine A5 J J J (A7 J gU) ?_;refine A5 J J J (B7 J J (fun hh=>hh) gU J) ?_;refine A5 J J J (E2 J J gU (fun _ hi=>gP J hi)) ?_;refine A5 J J J (A7 J gU) ?_;refine A5 J J J (B1 J gU J J) ?_;refine A5 J J J (B2 J (fun hh=>hh) J J J J) ?_;refine A5 J J J (G0 J J (fun hh=>hh) gU J) ?_
 refine A5 J J J (A7 J (fun hh=>hh)) ?_;refine H3 (s:=⟨[(2,_,_),(3,_,_),(5,_,_),(17,_,_),(21,_,_)],[(.l 2,_),(.l 3,_)],[],[]⟩) (B4 (⟨U J,U J,U J,U J,U J,O⟩) (⟨U J,U J,O⟩) O) ?_;refine A5 J J J (A7 J gU) ?_;refine A5 J J J (B7 J J (fun hh=>hh) gU J) ?_;refine A5 J J J (E2 J J (fun hh=>hh) (fun hh hi=>gP hh hi)) ?_;refine A5 J J J (E5 J J gU (fun _ hi=>gP J hi)) ?_;refine A5 J J J (A9 J gU) ?_;refine B0 ?_;refine B6 (s:=⟨[(2,_,_),(3,_,_),(5,_,_),(9,_,_)],[(.l 2,_),(.l 3,_)],[],[]⟩) (B4 (⟨U J,U J,U J,U J,O⟩) (⟨U J,U J,O⟩) O) ?_;refine B9 J (fun hc=>?_) (fun hc=>?_)
 ·try simp only [nn,B3,D3,nq] at hc
  have h1 : isT t Gz 2=true∨isT t wEnc 2=true:=by rw[R1 h3,R1 h3]; first|exact hc|(rw[hr] at hc; exact hc)|omega
  have hk : J2 n.roles t=some 2:=by rw[J2,if_pos h1]
  refine A8 (A6 ?_);refine A5 J J J (A9 J gU) ?_;refine B0 ?_;refine C1 ?_
  repeat(first|refine tR ?_|refine bR ?_)
  refine C5 J ?_ O
  (rw[lkI,hk]; rfl)
 ·try simp only [nn,B3,D3,nq] at hc
  have h1 : ¬(isT t Gz 2=true∨isT t wEnc 2=true):=by rw[R1 h3,R1 h3]; exact fun q=>q.elim (fun q=>hc.1.elim (fun z=>z q.1) fun z=>z q.2) (fun q=>hc.2.elim (fun z=>z q.1) fun z=>z q.2)
  refine A8 (A6 ?_);refine A5 J J J (B1 J gU J J) ?_;refine A5 J J J (B2 J gU J J J J) ?_;refine A5 J J J (G0 J J gU gU J) ?_;refine A5 J J J (A7 J gU) ?_;refine A5 J J J (A7 J gU) ?_;refine A5 J J J (B7 J J (fun hh=>hh) gU J) ?_;refine A5 J J J (E2 J J gU (fun _ hi=>gP J hi)) ?_;refine A5 J J J (A9 J gU) ?_;refine B0 ?_;refine B6 (s:=⟨[(2,_,_),(3,_,_),(5,_,_),(26,_,_)],[(.l 2,_),(.l 3,_)],[],[]⟩) (B4 (⟨U J,U J,U J,U J,O⟩) (⟨U J,U J,O⟩) O) ?_;refine B9 J (fun hc2=>?_) (fun hc2=>?_)
  ·try simp only [nn,B3,D3,nq] at hc2
   have h2 : isT t Pe 1=true:=by rw[R1 h3]; first|exact hc2|(rw[hr] at hc2; exact hc2)|omega
   have hk : J2 n.roles t=some 1:=by rw[J2,if_neg h1,if_pos h2]
   refine A8 (A6 ?_);refine A5 J J J (A9 J gU) ?_;refine B0 ?_;refine C1 ?_
   repeat(first|refine tR ?_|refine bR ?_)
   refine C5 J ?_ O
   (rw[lkI,hk]; rfl)
  ·try simp only [nn,B3,D3,nq] at hc2
   have h2 : ¬ isT t Pe 1=true:=by rw[R1 h3]; exact fun q=>hc2.elim (fun z=>z q.1) fun z=>z q.2
   refine A8 ?_;refine awp_drawn' (by kernel_rfl) ?_;refine B5 J J J J (B1 J gU J J) ?_;refine G4 J J J J J J J gU J J J J ?_;refine B5 J J J J (G0 J J gU gU J) ?_;refine B5 J J J J (A7 J gU) ?_;refine B5 J J J J (A7 J gU) ?_;refine B5 J J J J (B7 J J (fun hh=>hh) gU J) ?_;refine B5 J J J J (E2 J J gU (fun _ hi=>gP J hi)) ?_;refine B5 J J J J (A7 J gU) ?_;refine D7 J J J J J J J gU J J J J J ?_;refine B5 J J J J (B1 J gU J J) ?_;refine G4 J J J J J J J (fun hh=>hh) J J J J ?_;refine B5 J J J J (C2 (j:=1) J J (fun hh=>hh) gU J J (by first|omega|(simp at hh ⊢; omega)|(simp [isT] at hh ⊢; omega)) (fun hh=>T.rows_at (by first|omega|(simp at hh ⊢; omega)|(simp [isT] at hh ⊢; omega)))) ?_;refine B5 J J J J (D4 J (fun hh=>hh) J J J J) ?_;refine E9 J J J J J J J gU (fun hh=>gA ((fun hh=>hh) hh) (gA ((fun hh=>hh) hh) (rfl))) (Ks _ _) J ?_;refine B5 J J J J (E2 J J gU (fun _ hi=>gP J hi)) ?_;refine B5 J J J J (A9 J gU) ?_;refine F6 (by kernel_rfl) ?_;refine B6 (s:=⟨[(2,_,_),(3,_,_),(5,_,_),(34,_,_)],[(.l 2,_),(.l 3,_)],[],[]⟩) (B4 (⟨U J,U J,U J,U J,O⟩) (⟨U J,U J,O⟩) O) ?_
   refine B9 J (fun hc3=>?_) (fun hc3=>?_)
   ·try simp only [nn,B3,D3,nq] at hc3
    have a1 : isT t Ja 2=true∧pubT n.roles (kid t 1)=true:=by rw[R1 h3]; first|exact hc3|(rw[hr] at hc3; exact hc3)|omega
    have hk : J2 n.roles t=some 1:=by rw[J2,if_neg h1,if_neg h2,if_pos (.inl a1)]
    refine A8 (A6 ?_);refine A5 J J J (A9 J gU) ?_;refine B0 ?_;refine C1 ?_
    repeat(first|refine tR ?_|refine bR ?_)
    refine C5 J ?_ O
    (rw[lkI,hk]; rfl)
   ·try simp only [nn,B3,D3,nq] at hc3
    have a1 : ¬(isT t Ja 2=true∧pubT n.roles (kid t 1)=true):=by rw[R1 h3]; exact fun q=>hc3.elim (fun z=>z.elim (fun z=>z q.1.1) fun z=>z q.1.2) fun z=>Bool.noConfusion (q.2.symm.trans z)
    refine A8 ?_;refine awp_drawn' (by kernel_rfl) ?_;refine B5 J J J J (B1 J gU J J) ?_;refine G4 J J J J J J J gU J J J J ?_;refine B5 J J J J (G0 J J gU gU J) ?_;refine B5 J J J J (A7 J gU) ?_;refine B5 J J J J (A7 J gU) ?_;refine B5 J J J J (B7 J J (fun hh=>hh) gU J) ?_;refine B5 J J J J (E2 J J gU (fun _ hi=>gP J hi)) ?_;refine B5 J J J J (A7 J gU) ?_;refine D7 J J J J J J J gU J J J J J ?_;refine B5 J J J J (B1 J gU J J) ?_;refine G4 J J J J J J J (fun hh=>hh) J J J J ?_;refine B5 J J J J (C2 (j:=1) J J (fun hh=>hh) gU J J (by first|omega|(simp at hh ⊢; omega)|(simp [isT] at hh ⊢; omega)) (fun hh=>T.rows_at (by first|omega|(simp at hh ⊢; omega)|(simp [isT] at hh ⊢; omega)))) ?_;refine B5 J J J J (D4 J (fun hh=>hh) J J J J) ?_;refine E9 J J J J J J J gU (fun hh=>gA ((fun hh=>hh) hh) (gA ((fun hh=>hh) hh) (rfl))) (Jp _ _) J ?_;refine B5 J J J J (E2 J J gU (fun _ hi=>gP J hi)) ?_;refine B5 J J J J (A9 J gU) ?_;refine F6 (by kernel_rfl) ?_;refine B6 (s:=⟨[(2,_,_),(3,_,_),(5,_,_),(50,_,_)],[(.l 2,_),(.l 3,_)],[],[]⟩) (B4 (⟨U J,U J,U J,U J,O⟩) (⟨U J,U J,O⟩) O) ?_
    refine B9 J (fun hc4=>?_) (fun hc4=>?_)
    ·try simp only [nn,B3,D3,nq] at hc4
     have a2 : isT t Ia 2=true∧Ax n.roles (kid t 1)=true:=by rw[R1 h3]; first|exact hc4|(rw[hr] at hc4; exact hc4)|omega
     have hk : J2 n.roles t=some 1:=by rw[J2,if_neg h1,if_neg h2,if_pos (.inr a2)]
     refine A8 (A6 ?_);refine A5 J J J (A9 J gU) ?_;refine B0 ?_;refine C1 ?_
     repeat(first|refine tR ?_|refine bR ?_)
     refine C5 J ?_ O
     (rw[lkI,hk]; rfl)
    ·try simp only [nn,B3,D3,nq] at hc4
     have a2 : ¬(isT t Ia 2=true∧Ax n.roles (kid t 1)=true):=by rw[R1 h3]; exact fun q=>hc4.elim (fun z=>z.elim (fun z=>z q.1.1) fun z=>z q.1.2) fun z=>Bool.noConfusion (q.2.symm.trans z)
     have a3 : ¬((isT t Ja 2=true∧pubT n.roles (kid t 1)=true)∨(isT t Ia 2=true∧Ax n.roles (kid t 1)=true)):=fun q=>q.elim a1 a2
     refine A8 (A6 ?_);refine A5 J J J (B8 J gU J J J J J) ?_;refine A5 J J J (B8 J gU J J J J J) ?_;refine C7 J J J J J J gU gU (Ks _ _) J ?_;refine A5 J J J (A9 J gU) ?_;refine B0 ?_;refine B9 J (fun hc5=>?_) (fun hc5=>?_)
     ·try simp only [nn,B3,D3,nq] at hc5
      have hk : J2 n.roles t=some 0:=by rw[J2,if_neg h1,if_neg h2,if_neg a3,if_pos (.inl hc5)]
      refine A8 (A6 ?_);refine A5 J J J (A9 J gU) ?_;refine B0 ?_;refine C1 ?_
      repeat(first|refine tR ?_|refine bR ?_)
      refine C5 J ?_ O
      (rw[lkI,hk]; rfl)
     ·try simp only [nn,B3,D3,nq] at hc5
      have a4 : ¬ pubT n.roles t=true:=by rw[Bool.not_eq_true]; exact hc5
      refine A8 ?_;refine awp_drawn' (by kernel_rfl) ?_;refine B5 J J J J (B1 J gU J J) ?_;refine G4 J J J J J J J gU J J J J ?_;refine B5 J J J J (G0 J J gU gU J) ?_;refine B5 J J J J (A7 J gU) ?_;refine B5 J J J J (A7 J gU) ?_;refine B5 J J J J (B7 J J (fun hh=>hh) gU J) ?_;refine B5 J J J J (E2 J J gU (fun _ hi=>gP J hi)) ?_;refine B5 J J J J (A7 J gU) ?_;refine D7 J J J J J J J gU J J J J J ?_;refine B5 J J J J (B1 J gU J J) ?_;refine G4 J J J J J J J (fun hh=>hh) J J J J ?_;refine B5 J J J J (C2 (j:=0) J J (fun hh=>hh) gU J J (by first|omega|(simp at hh ⊢; omega)|(simp [isT] at hh ⊢; omega)) (fun hh=>T.rows_at (by first|omega|(simp at hh ⊢; omega)|(simp [isT] at hh ⊢; omega)))) ?_;refine B5 J J J J (D4 J (fun hh=>hh) J J J J) ?_;refine E9 J J J J J J J gU (fun hh=>gA ((fun hh=>hh) hh) (gA ((fun hh=>hh) hh) (rfl))) (Dy _ _) J ?_;refine B5 J J J J (E2 J J gU (fun _ hi=>gP J hi)) ?_;refine B5 J J J J (A7 J gU) ?_;refine D7 J J J J J J J gU J J J J J ?_;refine B5 J J J J (B1 J gU J J) ?_
      refine G4 J J J J J J J (fun hh=>hh) J J J J ?_;refine B5 J J J J (C2 (j:=1) J J (fun hh=>hh) gU J J (by first|omega|(simp at hh ⊢; omega)|(simp [isT] at hh ⊢; omega)) (fun hh=>T.rows_at (by first|omega|(simp at hh ⊢; omega)|(simp [isT] at hh ⊢; omega)))) ?_;refine B5 J J J J (D4 J (fun hh=>hh) J J J J) ?_;refine E9 J J J J J J J gU (fun hh=>gA ((fun hh=>hh) hh) (gA ((fun hh=>hh) hh) (rfl))) (Dy _ _) J ?_;refine B5 J J J J (E2 J J gU (fun _ hi=>gP J hi)) ?_;refine B5 J J J J (A7 J gU) ?_;refine B5 J J J J (B1 J gU J J) ?_;refine G4 J J J J J J J (fun hh=>hh) J J J J ?_;refine B5 J J J J (C2 (j:=0) J J (fun hh=>hh) gU J J (by first|omega|(simp at hh ⊢; omega)|(simp [isT] at hh ⊢; omega)) (fun hh=>T.rows_at (by first|omega|(simp at hh ⊢; omega)|(simp [isT] at hh ⊢; omega)))) ?_;refine B5 J J J J (F4 J (fun hh=>hh) J J) ?_;refine B5 J J J J (E4 J (fun hh=>hh) J J J) ?_;refine B5 J J J J (B1 J gU J J) ?_;refine G4 J J J J J J J (fun hh=>hh) J J J J ?_;refine B5 J J J J (C2 (j:=1) J J (fun hh=>hh) gU J J (by first|omega|(simp at hh ⊢; omega)|(simp [isT] at hh ⊢; omega)) (fun hh=>T.rows_at (by first|omega|(simp at hh ⊢; omega)|(simp [isT] at hh ⊢; omega)))) ?_
      refine B5 J J J J (F4 J (fun hh=>hh) J J) ?_;refine B5 J J J J (E4 J (fun hh=>hh) J J J) ?_;refine B5 J J J J (G0 J J (fun hh=>hh) (fun hh=>hh) J) ?_;refine B5 J J J J (E2 J J gU (fun _ hi=>gP J hi)) ?_;refine B5 J J J J (A9 J gU) ?_;refine F6 (by kernel_rfl) ?_;refine B6 (s:=⟨[(70,_,_)],[],[],[]⟩) (B4 (⟨U J,O⟩) O O) ?_;refine B9 J (fun hc6=>?_) (fun hc6=>?_)
      ·try simp only [nn,B3,D3,nq] at hc6
       have a5 : shkT n.roles t=true:=by rw[shkT_iff,R1 h3]; exact ⟨⟨⟨hc6.1.1.1,hc6.1.1.2⟩,hc6.1.2⟩,hc6.2⟩
       have hk : J2 n.roles t=some 0:=by rw[J2,if_neg h1,if_neg h2,if_neg a3,if_pos (.inr a5)]
       refine A8 (A6 ?_);refine A5 J J J (A9 J gU) ?_;refine B0 ?_;refine C1 ?_
       repeat(first|refine tR ?_|refine bR ?_)
       refine C5 J ?_ O
       (rw[lkI,hk]; rfl)
      ·try simp only [nn,B3,D3,nq] at hc6
       have a5 : ¬ shkT n.roles t=true:=by rw[shkT_iff,R1 h3]; exact fun q=>hc6.elim (fun z=>z.elim (fun z=>z.elim (fun z=>z.elim (fun z=>z q.1.1.1.1) fun z=>z q.1.1.1.2) fun z=>Bool.noConfusion (q.1.1.2.symm.trans z)) fun z=>Bool.noConfusion (q.1.2.symm.trans z)) fun z=>q.2 z
       have hk : J2 n.roles t=none:=by rw[J2,if_neg h1,if_neg h2,if_neg a3,if_neg (fun q=>q.elim a4 a5)]
       refine C0 ?_;refine A8 (A6 ?_);refine A5 J J J (A9 J gU) ?_;refine B0 ?_;refine C1 ?_
       repeat(first|refine tR ?_|refine bR ?_)
       refine C5 J ?_ O
       (rw[lkI,hk]; rfl)
theorem uBu {R : List (List UInt8)} {t : T} {k : Nat} (h : J2 R t=some k) : k≤t.kids.length:=by
 unfold J2 at h
 split at h
 ·rename_i q
  have : 2=k:=Option.some.inj h
  simp [isT] at q; omega
 split at h
 ·rename_i q
  have : 1=k:=Option.some.inj h
  simp [isT] at q; omega
 split at h
 ·rename_i q
  have : 1=k:=Option.some.inj h
  simp [isT] at q; omega
 split at h
 ·have : 0=k:=Option.some.inj h
  omega
 ·cases h
theorem uBE {R : List (List UInt8)} {t : T} (h : lkI R t < 0) : J2 R t=none:=by
 unfold lkI at h
 split at h
 ·assumption
 ·omega
theorem uCe {R : List (List UInt8)} {t : T} (h : ¬ lkI R t < 0) : ∃ k,J2 R t=some k∧lkI R t=(k : Int):=by
 unfold lkI at h ⊢
 split at h
 ·omega
 ·rename_i k hk; exact ⟨k,hk,rfl⟩
theorem Qa {α : Type} {l : List α} {d : α} {k j : Nat} (h : j < k) : (l.take k).getD j d=l.getD j d:=by
 simp only [List.getD_eq_getElem?_getD,List.getElem?_take_of_lt h]
theorem Bl (n : Nar) (h1 : n.roles.length≤900000) (h2 : n.fresh.length≤900000) (h4 : n.tags.length≤900000) : ∀ (m : Nat) (t : T),t.size≤m→m≤900000→Ctr sys 87 [xn n,xm t] [] (xi (O8 n.roles (H2 n) t)) none []:=by
 intro m
 induction m with
 | zero=>intro t h; have := t.size_pos; omega
 | succ m ih =>
  intro t ht hm
  have hr:=T.rows_len t.kids
  have hls:=T.len_sizes t.kids
  have hse:=t.size_eq
  refine D1 Tryz.func87 J J J J J J ?_;refine A8 (A6 ?_);refine C3 J (D8 J J J J) ?_;refine C3 J (D8 J J J J) ?_;refine A5 J J J (A9 J gU) ?_;refine B0 ?_;refine A8 ?_;refine A8 (A6 ?_);refine A5 J J J (B1 J gU J J) ?_;refine A5 J J J (B2 J gU J J J J) ?_;refine A5 J J J (B7 J J gU gU J) ?_;refine B0 ?_;refine B6 (s:=⟨[(2,_,_),(3,_,_),(12,_,_)],[(.l 2,_),(.l 3,_)],[],[]⟩) (B4 (⟨U J,U J,U J,O⟩) (⟨U J,U J,O⟩) O) ?_;refine B9 J (fun hc=>?_) (fun hc=>?_)
  ·try simp only [nn,B3,D3,nq] at hc
   refine A8 (A6 ?_);refine A5 J J J (B8 J gU J J J J J) ?_;refine C7 J J J J J J gU gU (Cp n h1 h2 h4) J ?_;refine A5 J J J (A7 J gU) ?_;refine A5 J J J (C6 J gU J) ?_;refine A5 J J J (C6 J gU J) ?_;refine A5 J J J (A9 J gU) ?_;refine A5 J J J (A9 J gU) ?_;refine B0 ?_;refine B6 (s:=⟨[(3,_,_),(5,_,_)],[(.l 3,_)],[],[]⟩) (B4 (⟨U J,U J,O⟩) (⟨U J,O⟩) O) ?_;refine A8 ?_;refine A8 (A6 ?_);refine A5 J J J (A7 J gU) ?_;refine A5 J J J (B1 J gU J J) ?_;refine A5 J J J (B2 J gU J J J J) ?_;refine C7 J J J J J J gU gU (Q8 _ _) J ?_;refine A5 J J J (B7 J J gU gU J) ?_;refine B0 ?_;refine B6 (s:=⟨[(22,_,_)],[],[],[]⟩) (B4 (⟨U J,O⟩) O O) ?_;refine B9 J (fun hc2=>?_) (fun hc2=>?_)
   ·try simp only [nn,B3,D3,nq] at hc2
    have hx:=(S8 _ _).1 hc2
    refine A8 (A6 ?_);refine A5 J J J (A9 J gU) ?_;refine B0 ?_;refine C1 ?_
    repeat(first|refine tR ?_|refine bR ?_)
    refine C5 J ?_ O
    (rw[T4,if_pos hc,if_neg (by rw[hx]; simp)]; rfl)
   ·try simp only [nn,B3,D3,nq] at hc2
    have hx:=(Bg (H2 n) t.name).1 (by omega)
    refine C0 ?_;refine A8 (A6 ?_);refine A5 J J J (A9 J gU) ?_;refine B0 ?_;refine C1 ?_
    repeat(first|refine tR ?_|refine bR ?_)
    refine C5 J ?_ O
    (rw[T4,if_pos hc,if_pos hx]; rfl)
  ·try simp only [nn,B3,D3,nq] at hc
   have h3 : t.kind=3:=by omega
   refine C0 ?_;refine A8 (A6 ?_);refine A5 J J J (B8 J gU J J J J J) ?_;refine A5 J J J (B8 J gU J J J J J) ?_;refine C7 J J J J J J gU gU (Uk n t h3) J ?_;refine A5 J J J (A9 J gU) ?_;refine B0 ?_;refine A8 ?_;refine A8 (A6 ?_);refine A5 J J J (A7 J gU) ?_;refine A5 J J J (B7 J J gU gU J) ?_;refine B0 ?_;refine B6 (s:=⟨[(2,_,_),(3,_,_),(7,_,_),(27,_,_)],[(.l 2,_),(.l 3,_)],[],[]⟩) (B4 (⟨U J,U J,U J,U J,O⟩) (⟨U J,U J,O⟩) O) ?_;refine B9 J (fun hc2=>?_) (fun hc2=>?_)
   ·try simp only [nn,B3,D3,nq] at hc2
    have hk:=uBE hc2
    refine A8 (A6 ?_);refine A5 J J J (A9 J gU) ?_;refine B0 ?_;refine C1 ?_
    repeat(first|refine tR ?_|refine bR ?_)
    refine C5 J ?_ O
    (rw[T4,if_neg (by omega),hk]; rfl)
   ·try simp only [nn,B3,D3,nq] at hc2
    obtain ⟨k,hk,hk2⟩:=uCe (R:=n.roles) (t:=t) (by omega)
    have hle:=uBu hk
    rw[hk2]
    have hE : O8 n.roles (H2 n) t=errs (O8 n.roles (H2 n)) (t.kids.take k):=by rw[T4,if_neg (by omega),hk]
    rw[hE]
    refine C0 ?_;refine A8 ?_;refine A8 (A6 ?_);refine A5 J J J (A9 J gU) ?_;refine B0 ?_;refine C4 ?_;refine F2 (ι:=Nat) { t:=[(2,_,_),(3,_,_),(7,_,_)],bx:=[(.l 2,_),(.l 3,_)],ow:=[] } (fun j=>[(8,true,xi (j : Int))]) (fun j=>[]) (fun j=>j≤k ∧ ∀ i,i < j→O8 n.roles (H2 n) ((t.kids.take k).getD i default)=0) (fun j=>k - j) (0) (⟨by omega,fun j hj=>by omega⟩) (B4 (⟨U J,U J,U J,U J,O⟩) (⟨U J,U J,O⟩) O) ?_
    intro j hok
    dsimp only [List.cons_append,List.nil_append]
    obtain ⟨hj,hi⟩:=hok
    refine A8 ?_;refine A8 (A6 ?_);refine A5 J J J (A7 J gU) ?_;refine A5 J J J (A7 J gU) ?_;refine A5 J J J (B7 J J gU gU J) ?_;refine B0 ?_;refine B9 J (fun hc3=>?_) (fun hc3=>?_)
    ·try simp only [nn,B3,D3,nq] at hc3
     have hlt : j < k:=by omega
     have hg : (t.kids.take k).getD j default=t.kids.getD j default:=Qa hlt
     have hlen : (t.kids.take k).length=k:=by rw[List.length_take]; omega
     have hks:=M8 (K8 (d:=default) (l:=t.kids) (k:=j) (by omega))
     refine C0 ?_;refine A8 ?_;refine C4 ?_;refine A8 ?_;refine awp_drawn' (by kernel_rfl) ?_;refine D7 J J J J J J J gU J J J J J ?_;refine B5 J J J J (B1 J gU J J) ?_;refine G4 J J J J J J J gU J J J J ?_;refine B5 J J J J (A7 J gU) ?_;refine B5 J J J J (C2 J J gU gU J J J (fun hh=>T.rows_at (by first|omega|(simp at hh ⊢; omega)|(simp [isT] at hh ⊢; omega)))) ?_;refine B5 J J J J (D4 J gU J J J J) ?_;refine E9 J J J J J J J gU gU (ih (t.kids.getD j default) (by omega) (by omega)) J ?_;refine B5 J J J J (A9 J gU) ?_;refine F6 (by kernel_rfl) ?_;refine B6 (s:=⟨[(2,_,_),(3,_,_),(7,_,_),(8,_,_),(9,_,_)],[(.l 2,_),(.l 3,_)],[],[]⟩) (B4 (⟨U J,U J,U J,U J,U J,O⟩) (⟨U J,U J,O⟩) O) ?_;refine A8 (A6 ?_);refine A5 J J J (A7 J gU) ?_;refine A5 J J J (B7 J J gU gU J) ?_;refine B0 ?_;refine B9 J (fun hc4=>?_) (fun hc4=>?_)
     ·try simp only [nn,B3,D3,nq] at hc4
      have he:=Aq (d:=default) (by omega) hi (by rw[hg]; exact hc4)
      rw[hg] at he
      refine A8 (A6 ?_);refine A5 J J J (A7 J gU) ?_;refine A5 J J J (A9 J gU) ?_;refine B0 ?_;refine C1 ?_
      repeat(first|refine tR ?_|refine bR ?_)
      refine C5 J ?_ O
      (rw[he]; rfl)
     ·try simp only [nn,B3,D3,nq] at hc4
      refine C0 ?_;refine A6 ?_;refine A5 J J J (A7 J gU) ?_;refine A5 J J J (D0 J J gU gU J (IntWalk.i64_in _ (by omega))) ?_;refine A5 J J J (A9 J gU) ?_;refine B0 ?_;refine ⟨j + 1,?_,?_,B4 (⟨⟨_,rfl,?_⟩,⟨U J,U J,U J,O⟩⟩) (⟨U J,U J,O⟩) O⟩
      all_goals (first|rfl|omega|exact ⟨by omega,R0 hi (by rw[hg]; exact hc4)⟩)
    ·try simp only [nn,B3,D3,nq] at hc3
     have hlen : (t.kids.take k).length=k:=by rw[List.length_take]; omega
     refine E1 ?_
     repeat(first|refine D5 ?_|refine D6 ?_|refine D2 J ?_)
     refine A8 (A6 ?_);refine A5 J J J (A9 J gU) ?_;refine B0 ?_;refine C1 ?_
     repeat(first|refine tR ?_|refine bR ?_)
     refine C5 J ?_ O
     (rw[X9 (d:=default) (fun i q=>hi i (by omega))]; rfl)
theorem Ng (n : Nar) (s : Sp) (h1 : n.roles.length≤900000) (h2 : n.fresh.length≤900000) (h4 : n.tags.length≤900000) (hs : s.msg.size≤900000) : Ctr sys 45 [xn n,xsp s] [] (xi (V9 n s)) none []:=by
 refine D1 Tryz.func45 J J J J J J ?_;refine A8 (A6 ?_);refine C3 J (D8 J J J J) ?_;refine C3 J (D8 J J J J) ?_;refine A5 J J J (A9 J gU) ?_;refine B0 ?_;refine A8 ?_;refine A8 (A6 ?_);refine A5 J J J (B1 J gU J J) ?_;refine A5 J J J (B2 J gU J J J J) ?_;refine A5 J J J (B1 J gU J J) ?_;refine A5 J J J (B2 J gU J J J J) ?_;refine C7 J J J J J J gU gU (Q8 _ _) J ?_;refine A5 J J J (B7 J J gU gU J) ?_;refine A5 J J J (A7 J gU) ?_;refine A5 J J J (B1 J gU J J) ?_;refine A5 J J J (B2 J (fun hh=>hh) J J J J) ?_;refine H3 (s:=⟨[(2,_,_),(3,_,_),(11,_,_),(13,_,_)],[(.l 2,_),(.l 3,_)],[],[]⟩) (B4 (⟨U J,U J,U J,U J,O⟩) (⟨U J,U J,O⟩) O) ?_;refine A5 J J J (B1 J gU J J) ?_;refine A5 J J J (B2 J (fun hh=>hh) J J J J) ?_;refine C7 J J J J J J gU (fun hh=>gA ((fun hh=>hh) hh) (gA ((fun hh=>hh) hh) (rfl))) (Q8 _ _) J ?_;refine A5 J J J (B7 J J (fun hh=>hh) gU J) ?_;refine A5 J J J (E5 J J gU (fun _ hi=>gP J hi)) ?_
 refine B0 ?_;refine B6 (s:=⟨[(2,_,_),(3,_,_),(18,_,_)],[(.l 2,_),(.l 3,_)],[],[]⟩) (B4 (⟨U J,U J,U J,O⟩) (⟨U J,U J,O⟩) O) ?_;refine B9 J (fun hc=>?_) (fun hc=>?_)
 ·try simp only [nn,B3,D3,nq] at hc
  have h : n.roles.contains s.frm=false∨n.roles.contains s.dst=false:=by rw[← S8,← S8]; exact hc
  have ht : twoE n.roles s.frm s.dst=13:=by rw[twoE,if_pos h]
  refine A8 (A6 ?_);refine A5 J J J (A9 J gU) ?_;refine B0 ?_;refine C1 ?_
  repeat(first|refine tR ?_|refine bR ?_)
  refine C5 J ?_ O
  (rw[V9,ht]; rfl)
 ·try simp only [nn,B3,D3,nq] at hc
  have h : ¬(n.roles.contains s.frm=false∨n.roles.contains s.dst=false):=by rw[← S8,← S8]; omega
  refine C0 ?_;refine A8 ?_;refine A8 (A6 ?_);refine A5 J J J (B1 J gU J J) ?_;refine A5 J J J (B2 J gU J J J J) ?_;refine A5 J J J (B1 J gU J J) ?_;refine A5 J J J (B2 J gU J J J J) ?_;refine A5 J J J (G0 J J gU gU J) ?_;refine B0 ?_;refine B6 (s:=⟨[(2,_,_),(3,_,_),(23,_,_)],[(.l 2,_),(.l 3,_)],[],[]⟩) (B4 (⟨U J,U J,U J,O⟩) (⟨U J,U J,O⟩) O) ?_;refine B9 J (fun hc2=>?_) (fun hc2=>?_)
  ·try simp only [nn,B3,D3,nq] at hc2
   have ht : twoE n.roles s.frm s.dst=1:=by rw[twoE,if_neg h,if_pos hc2]
   refine A8 (A6 ?_);refine A5 J J J (A9 J gU) ?_;refine B0 ?_;refine C1 ?_
   repeat(first|refine tR ?_|refine bR ?_)
   refine C5 J ?_ O
   (rw[V9,ht]; rfl)
  ·try simp only [nn,B3,D3,nq] at hc2
   have ht : twoE n.roles s.frm s.dst=0:=by rw[twoE,if_neg h,if_neg hc2]
   refine C0 ?_;refine A8 (A6 ?_);refine A5 J J J (B8 J gU J J J J J) ?_;refine A5 J J J (B1 J gU J J) ?_;refine A5 J J J (B8 J gU J J J J J) ?_;refine C7 J J J J J J gU gU (Bl n h1 h2 h4 _ _ (Nat.le_refl _) hs) J ?_;refine A5 J J J (A9 J gU) ?_;refine B0 ?_;refine C1 ?_
   repeat(first|refine tR ?_|refine bR ?_)
   refine C5 J ?_ O
   (rw[V9,ht]; rfl)
theorem Og (n : Nar) (g : Gl) (h1 : n.roles.length≤900000) (h2 : n.fresh.length≤900000) (h4 : n.tags.length≤900000) (hg : T.sizes g.data≤900000) : Ctr sys 46 [xn n,xg g] [] (xi (Q5 n g)) none []:=by
 have hr:=T.rows_len g.data
 have hls:=T.len_sizes g.data
 refine D1 Tryz.func46 J J J J J J ?_;refine A8 (A6 ?_);refine C3 J (D8 J J J J) ?_;refine C3 J (D8 J J J J) ?_;refine A5 J J J (A9 J gU) ?_;refine B0 ?_;refine A8 ?_;refine A8 (A6 ?_);refine A5 J J J (B1 J gU J J) ?_;refine A5 J J J (B2 J gU J J J J) ?_;refine A5 J J J (B1 J gU J J) ?_;refine A5 J J J (B2 J gU J J J J) ?_;refine C7 J J J J J J gU gU (Q8 _ _) J ?_;refine A5 J J J (B7 J J gU gU J) ?_;refine B0 ?_;refine B6 (s:=⟨[(2,_,_),(3,_,_),(12,_,_)],[(.l 2,_),(.l 3,_)],[],[]⟩) (B4 (⟨U J,U J,U J,O⟩) (⟨U J,U J,O⟩) O) ?_;refine B9 J (fun hc=>?_) (fun hc=>?_)
 ·try simp only [nn,B3,D3,nq] at hc
  have h:=(S8 _ _).1 hc
  refine A8 (A6 ?_);refine A5 J J J (A9 J gU) ?_;refine B0 ?_;refine C1 ?_
  repeat(first|refine tR ?_|refine bR ?_)
  refine C5 J ?_ O
  (rw[Q5,if_pos h]; rfl)
 ·try simp only [nn,B3,D3,nq] at hc
  have hc':=(Bg n.roles g.role).1 (by omega)
  have c1 : ¬ n.roles.contains g.role=false:=by rw[hc']; simp
  refine C0 ?_;refine A8 ?_;refine A8 (A6 ?_);refine A5 J J J (B1 J gU J J) ?_;refine A5 J J J (B2 J gU J J J J) ?_;refine A5 J J J (B7 J J gU gU J) ?_;refine A5 J J J (A7 J gU) ?_;refine A5 J J J (B1 J gU J J) ?_;refine A5 J J J (B2 J (fun hh=>hh) J J J J) ?_;refine A5 J J J (B7 J J (fun hh=>hh) gU J) ?_;refine A5 J J J (E5 J J gU (fun _ hi=>gP J hi)) ?_;refine B0 ?_;refine B6 (s:=⟨[(2,_,_),(3,_,_),(20,_,_)],[(.l 2,_),(.l 3,_)],[],[]⟩) (B4 (⟨U J,U J,U J,O⟩) (⟨U J,U J,O⟩) O) ?_;refine B9 J (fun hc2=>?_) (fun hc2=>?_)
  ·try simp only [nn,B3,D3,nq] at hc2
   have ha : I9 g.kind=true:=sagree_iff.2 hc2
   refine A8 ?_;refine A8 (A6 ?_);refine A5 J J J (B1 J gU J J) ?_;refine A5 J J J (B2 J gU J J J J) ?_;refine A5 J J J (B1 J gU J J) ?_;refine A5 J J J (B2 J gU J J J J) ?_;refine C7 J J J J J J gU gU (Q8 _ _) J ?_;refine A5 J J J (B7 J J gU gU J) ?_;refine B0 ?_;refine B6 (s:=⟨[(2,_,_),(3,_,_),(26,_,_)],[(.l 2,_),(.l 3,_)],[],[]⟩) (B4 (⟨U J,U J,U J,O⟩) (⟨U J,U J,O⟩) O) ?_;refine B9 J (fun hc3=>?_) (fun hc3=>?_)
   ·try simp only [nn,B3,D3,nq] at hc3
    have h:=(S8 _ _).1 hc3
    have ht : twoE n.roles g.role g.wth=13:=by rw[twoE,if_pos (.inr h)]
    refine A8 (A6 ?_);refine A5 J J J (A9 J gU) ?_;refine B0 ?_;refine C1 ?_
    repeat(first|refine tR ?_|refine bR ?_)
    refine C5 J ?_ O
    (rw[Q5,if_neg c1,if_pos ⟨ha,by rw[ht]; simp⟩,ht]; rfl)
   ·try simp only [nn,B3,D3,nq] at hc3
    have h:=(Bg n.roles g.wth).1 (by omega)
    have hn : ¬(n.roles.contains g.role=false∨n.roles.contains g.wth=false):=by rw[hc',h]; simp
    refine C0 ?_;refine A8 (A6 ?_);refine A5 J J J (B1 J gU J J) ?_;refine A5 J J J (B2 J gU J J J J) ?_;refine A5 J J J (B1 J gU J J) ?_;refine A5 J J J (B2 J gU J J J J) ?_;refine A5 J J J (G0 J J gU gU J) ?_;refine B0 ?_;refine B6 (s:=⟨[(2,_,_),(3,_,_),(31,_,_)],[(.l 2,_),(.l 3,_)],[],[]⟩) (B4 (⟨U J,U J,U J,O⟩) (⟨U J,U J,O⟩) O) ?_;refine B9 J (fun hc4=>?_) (fun hc4=>?_)
    ·try simp only [nn,B3,D3,nq] at hc4
     have ht : twoE n.roles g.role g.wth=1:=by rw[twoE,if_neg hn,if_pos hc4.symm]
     refine A8 (A6 ?_);refine A5 J J J (A9 J gU) ?_;refine B0 ?_;refine C1 ?_
     repeat(first|refine tR ?_|refine bR ?_)
     refine C5 J ?_ O
     (rw[Q5,if_neg c1,if_pos ⟨ha,by rw[ht]; simp⟩,ht]; rfl)
    ·try simp only [nn,B3,D3,nq] at hc4
     have ht : twoE n.roles g.role g.wth=0:=by rw[twoE,if_neg hn,if_neg (fun q=>hc4 q.symm)]
     have hE : Q5 n g=errs (O8 n.roles (H2 n)) g.data:=by rw[Q5,if_neg c1,if_neg (fun q=>q.2 ht)]
     rw[hE]
     refine C0 ?_;refine A8 ?_;refine A8 (A6 ?_);refine A5 J J J (A9 J gU) ?_;refine B0 ?_;refine C4 ?_;refine F2 (ι:=Nat) { t:=[(2,_,_),(3,_,_)],bx:=[(.l 2,_),(.l 3,_)],ow:=[] } (fun k=>[(5,true,xi (k : Int))]) (fun k=>[]) (fun k=>k≤g.data.length ∧ ∀ j,j < k→O8 n.roles (H2 n) (g.data.getD j default)=0) (fun k=>g.data.length - k) (0) (⟨by omega,fun j hj=>by omega⟩) (B4 (⟨U J,U J,U J,O⟩) (⟨U J,U J,O⟩) O) ?_
     intro k hoka
     dsimp only [List.cons_append,List.nil_append]
     obtain ⟨hk,hi⟩:=hoka
     refine A8 ?_;refine A8 (A6 ?_);refine A5 J J J (A7 J gU) ?_;refine A5 J J J (B1 J gU J J) ?_;refine A5 J J J (B2 J gU J J J J) ?_;refine E0 J J J J J gU J J ?_ (fun hh=>by simp at hh); intro hlen;refine A5 J J J (B7 J J gU gU J) ?_;refine B0 ?_;refine B6 (s:=⟨[(2,_,_),(3,_,_),(5,_,_),(36,_,_)],[(.l 2,_),(.l 3,_)],[],[]⟩) (B4 (⟨U J,U J,U J,U J,O⟩) (⟨U J,U J,O⟩) O) ?_;refine B9 J (fun hc5=>?_) (fun hc5=>?_)
     ·try simp only [nn,B3,D3,nq] at hc5
      have hlt : k < g.data.length:=by omega
      have hks:=T.getD_size hlt
      have hts:=T.sizes_take_le g.data k
      refine C0 ?_;refine A8 ?_;refine C4 ?_;refine A8 ?_;refine awp_drawn' (by kernel_rfl) ?_;refine D7 J J J J J J J gU J J J J J ?_;refine B5 J J J J (B1 J gU J J) ?_;refine G4 J J J J J J J gU J J J J ?_;refine B5 J J J J (A7 J gU) ?_;refine B5 J J J J (C2 J J gU gU J J J (fun hh=>T.rows_at (by first|omega|(simp at hh ⊢; omega)|(simp [isT] at hh ⊢; omega)))) ?_;refine B5 J J J J (D4 J gU J J J J) ?_;refine E9 J J J J J J J gU gU (Bl n h1 h2 h4 _ (g.data.getD k default) (Nat.le_refl _) (by omega)) J ?_;refine B5 J J J J (A9 J gU) ?_;refine F6 (by kernel_rfl) ?_;refine B6 (s:=⟨[(2,_,_),(3,_,_),(5,_,_),(6,_,_)],[(.l 2,_),(.l 3,_)],[],[]⟩) (B4 (⟨U J,U J,U J,U J,O⟩) (⟨U J,U J,O⟩) O) ?_;refine A8 (A6 ?_);refine A5 J J J (A7 J gU) ?_;refine A5 J J J (B7 J J gU gU J) ?_;refine B0 ?_;refine B9 J (fun hc6=>?_) (fun hc6=>?_)
      ·try simp only [nn,B3,D3,nq] at hc6
       refine A8 (A6 ?_);refine A5 J J J (A7 J gU) ?_;refine A5 J J J (A9 J gU) ?_;refine B0 ?_;refine C1 ?_
       repeat(first|refine tR ?_|refine bR ?_)
       refine C5 J ?_ O
       (rw[Aq hlt hi hc6]; rfl)
      ·try simp only [nn,B3,D3,nq] at hc6
       refine C0 ?_;refine A6 ?_;refine A5 J J J (A7 J gU) ?_;refine A5 J J J (D0 J J gU gU J (IntWalk.i64_in _ (by omega))) ?_;refine A5 J J J (A9 J gU) ?_;refine B0 ?_;refine ⟨k + 1,?_,?_,B4 (⟨⟨_,rfl,?_⟩,⟨U J,U J,O⟩⟩) (⟨U J,U J,O⟩) O⟩
       all_goals (first|rfl|omega|exact ⟨by omega,R0 hi hc6⟩)
     ·try simp only [nn,B3,D3,nq] at hc5
      have hke : k=g.data.length:=by omega
      subst hke
      refine E1 ?_
      repeat(first|refine D5 ?_|refine D6 ?_|refine D2 J ?_)
      refine A8 (A6 ?_);refine A5 J J J (A9 J gU) ?_;refine B0 ?_;refine C1 ?_
      repeat(first|refine tR ?_|refine bR ?_)
      refine C5 J ?_ O
      (rw[X9 hi]; rfl)
  ·try simp only [nn,B3,D3,nq] at hc2
   have ha : ¬ I9 g.kind=true := fun q=>by have := sagree_iff.1 q; omega
   have hE : Q5 n g=errs (O8 n.roles (H2 n)) g.data:=by rw[Q5,if_neg c1,if_neg (fun q=>ha q.1)]
   rw[hE]
   refine C0 ?_;refine A8 ?_;refine A8 (A6 ?_);refine A5 J J J (A9 J gU) ?_;refine B0 ?_;refine C4 ?_;refine F2 (ι:=Nat) { t:=[(2,_,_),(3,_,_)],bx:=[(.l 2,_),(.l 3,_)],ow:=[] } (fun k=>[(5,true,xi (k : Int))]) (fun k=>[]) (fun k=>k≤g.data.length ∧ ∀ j,j < k→O8 n.roles (H2 n) (g.data.getD j default)=0) (fun k=>g.data.length - k) (0) (⟨by omega,fun j hj=>by omega⟩) (B4 (⟨U J,U J,U J,O⟩) (⟨U J,U J,O⟩) O) ?_
   intro k hokb
   dsimp only [List.cons_append,List.nil_append]
   obtain ⟨hk,hi⟩:=hokb
   refine A8 ?_;refine A8 (A6 ?_);refine A5 J J J (A7 J gU) ?_;refine A5 J J J (B1 J gU J J) ?_;refine A5 J J J (B2 J gU J J J J) ?_;refine E0 J J J J J gU J J ?_ (fun hh=>by simp at hh); intro hlen;refine A5 J J J (B7 J J gU gU J) ?_;refine B0 ?_;refine B6 (s:=⟨[(2,_,_),(3,_,_),(5,_,_),(36,_,_)],[(.l 2,_),(.l 3,_)],[],[]⟩) (B4 (⟨U J,U J,U J,U J,O⟩) (⟨U J,U J,O⟩) O) ?_;refine B9 J (fun hc3=>?_) (fun hc3=>?_)
   ·try simp only [nn,B3,D3,nq] at hc3
    have hlt : k < g.data.length:=by omega
    have hks:=T.getD_size hlt
    have hts:=T.sizes_take_le g.data k
    refine C0 ?_;refine A8 ?_;refine C4 ?_;refine A8 ?_;refine awp_drawn' (by kernel_rfl) ?_;refine D7 J J J J J J J gU J J J J J ?_;refine B5 J J J J (B1 J gU J J) ?_;refine G4 J J J J J J J gU J J J J ?_;refine B5 J J J J (A7 J gU) ?_;refine B5 J J J J (C2 J J gU gU J J J (fun hh=>T.rows_at (by first|omega|(simp at hh ⊢; omega)|(simp [isT] at hh ⊢; omega)))) ?_;refine B5 J J J J (D4 J gU J J J J) ?_;refine E9 J J J J J J J gU gU (Bl n h1 h2 h4 _ (g.data.getD k default) (Nat.le_refl _) (by omega)) J ?_;refine B5 J J J J (A9 J gU) ?_;refine F6 (by kernel_rfl) ?_;refine B6 (s:=⟨[(2,_,_),(3,_,_),(5,_,_),(6,_,_)],[(.l 2,_),(.l 3,_)],[],[]⟩) (B4 (⟨U J,U J,U J,U J,O⟩) (⟨U J,U J,O⟩) O) ?_;refine A8 (A6 ?_);refine A5 J J J (A7 J gU) ?_;refine A5 J J J (B7 J J gU gU J) ?_;refine B0 ?_;refine B9 J (fun hc4=>?_) (fun hc4=>?_)
    ·try simp only [nn,B3,D3,nq] at hc4
     refine A8 (A6 ?_);refine A5 J J J (A7 J gU) ?_;refine A5 J J J (A9 J gU) ?_;refine B0 ?_;refine C1 ?_
     repeat(first|refine tR ?_|refine bR ?_)
     refine C5 J ?_ O
     (rw[Aq hlt hi hc4]; rfl)
    ·try simp only [nn,B3,D3,nq] at hc4
     refine C0 ?_;refine A6 ?_;refine A5 J J J (A7 J gU) ?_;refine A5 J J J (D0 J J gU gU J (IntWalk.i64_in _ (by omega))) ?_;refine A5 J J J (A9 J gU) ?_;refine B0 ?_;refine ⟨k + 1,?_,?_,B4 (⟨⟨_,rfl,?_⟩,⟨U J,U J,O⟩⟩) (⟨U J,U J,O⟩) O⟩
     all_goals (first|rfl|omega|exact ⟨by omega,R0 hi hc4⟩)
   ·try simp only [nn,B3,D3,nq] at hc3
    have hke : k=g.data.length:=by omega
    subst hke
    refine E1 ?_
    repeat(first|refine D5 ?_|refine D6 ?_|refine D2 J ?_)
    refine A8 (A6 ?_);refine A5 J J J (A9 J gU) ?_;refine B0 ?_;refine C1 ?_
    repeat(first|refine tR ?_|refine bR ?_)
    refine C5 J ?_ O
    (rw[X9 hi]; rfl)
theorem Yd (l : List (List UInt8)) (rs : List (List C)) (s : List UInt8) (h : rs=strR l) : Ctr sys 52 [.v (.c (.sl 1 rs)),xs s] [] (xi (ixS l s)) none []:=by
 subst h; exact Q8 l s
theorem Qz (n : Nar) : (H2 n).length=n.roles.length + (n.fresh.length + n.tags.length):=by rw[Ff]; simp
theorem Iu (n : Nar) : (dclL n).map (·.1)=H2 n:=by
 rw[dclL,Ff]
 simp [List.map_append,List.map_map,Function.comp_def]
theorem uCQ {n : Nar} {i : Nat} (h : i < (H2 n).length) : ∃ o,(dclL n)[i]? = some ((H2 n).getD i [],o)∧(if n.roles.length≤i∧i < n.roles.length + n.fresh.length then o=some (n.fresh.getD (i - n.roles.length) default).role else o=none):=by
 have hl:=Qz n
 have hk : (H2 n)[i]? = ((dclL n)[i]?).map (·.1):=by rw[← Iu,List.getElem?_map]
 by_cases h1 : i < n.roles.length
 ·have := Rs h1
  refine ⟨none,?_,by rw[if_neg (by omega)]⟩
  rw[List.getD_eq_getElem?_getD,hk,this]; rfl
 ·by_cases h2 : i < n.roles.length + n.fresh.length
  ·have := Lu (n := n) (k := i - n.roles.length) (by omega)
   rw[show n.roles.length + (i - n.roles.length)=i by omega] at this
   refine ⟨_,?_,by rw[if_pos (by omega)]⟩
   rw[List.getD_eq_getElem?_getD,hk,this]; rfl
  ·have := Wj (n := n) (k := i - n.roles.length - n.fresh.length) (by omega)
   rw[show n.roles.length + (n.fresh.length + (i - n.roles.length - n.fresh.length))=i by omega] at this
   refine ⟨none,?_,by rw[if_neg (by omega)]⟩
   rw[List.getD_eq_getElem?_getD,hk,this]; rfl
theorem uCw {l : List UInt8} {c : UInt8} (h : ∀ j,j < l.length → ¬ (((l.getD j 0).toNat : Nat) : Int)=(c.toNat : Nat)) : l.contains c=false:=by
 rw[Bool.eq_false_iff]
 intro q
 obtain ⟨j,hj,e⟩:=List.mem_iff_getElem.1 (List.contains_iff_mem.1 q)
 exact h j hj (by rw[List.getD_eq_getElem?_getD,List.getElem?_eq_getElem hj,Option.getD_some,e])
theorem uCK {l : List UInt8} {c : UInt8} {j : Nat} (hj : j < l.length) (h : (((l.getD j 0).toNat : Nat) : Int)=(c.toNat : Nat)) : l.contains c=true:=by
 have e : l.getD j 0=c:=UInt8.toNat.inj (by omega)
 rw[List.contains_iff_mem,← e]; exact K8 hj
theorem Js (n : Nar) (h1 : n.roles.length≤900000) (h2 : n.fresh.length≤900000) (h4 : n.tags.length≤900000) : Ctr sys 44 [xn n] [] (xi (decE n)) none []:=by
 have l1:=B3 n.roles
 have l2:=Fs.rows_len n.fresh
 have l3:=B3 n.tags
 have lk:=B3 (H2 n)
 have hl:=Qz n
 refine D1 Tryz.func44 J J J J J J ?_;refine A8 (A6 ?_);refine C3 J (D8 J J J J) ?_;refine A5 J J J (A9 J gU) ?_;refine B0 ?_;refine A8 (A6 ?_);refine A5 J J J (B8 J gU J J J J J) ?_;refine C7 J J J J J J gU gU (Cp n h1 h2 h4) J ?_;refine A5 J J J (A7 J gU) ?_;refine A5 J J J (C6 J gU J) ?_;refine A5 J J J (C6 J gU J) ?_;refine A5 J J J (A9 J gU) ?_;refine A5 J J J (A9 J gU) ?_;refine B0 ?_;refine B6 (s:=⟨[(1,_,_),(3,_,_)],[(.l 1,_)],[],[]⟩) (B4 (⟨U J,U J,O⟩) (⟨U J,O⟩) O) ?_;refine A8 ?_;refine A8 (A6 ?_);refine A5 J J J (A9 J gU) ?_;refine B0 ?_;refine C4 ?_;refine F2 (ι:=Nat) { t:=[(1,_,_),(3,_,_)],bx:=[(.l 1,_)],ow:=[] } (fun i=>[(5,true,xi (i : Int))]) (fun i=>[]) (fun i=>i≤(H2 n).length∧decA n.roles ((H2 n).take i) ((dclL n).drop i)=decE n) (fun i=>(H2 n).length - i) (0) (⟨by omega,by simp [decE]⟩) (B4 (⟨U J,U J,U J,O⟩) (⟨U J,O⟩) O) ?_
 intro i hoka
 dsimp only [List.cons_append,List.nil_append]
 obtain ⟨hi,hd⟩:=hoka
 refine A8 ?_;refine A8 (A6 ?_);refine A5 J J J (A7 J gU) ?_;refine A5 J J J (A7 J gU) ?_;refine E0 J J J J J gU J J ?_ (fun hh=>by simp at hh); intro hlen;refine A5 J J J (B7 J J gU gU J) ?_;refine B0 ?_;refine B9 J (fun hc=>?_) (fun hc=>?_)
 ·try simp only [nn,B3,D3,nq] at hc
  have hlt : i < (H2 n).length:=by omega
  obtain ⟨o,hx,ho⟩:=uCQ hlt
  have hF : o.isSome=true ↔ (n.roles.length≤i∧i < n.roles.length + n.fresh.length):=by
   split at ho
   ·rename_i q; rw[ho]; exact ⟨fun _=>q,fun _=>rfl⟩
   ·rename_i q; rw[ho]; exact ⟨fun z=>by simp at z,fun z=>absurd z q⟩
  refine C0 ?_;refine A8 ?_;refine C4 ?_;refine A8 (A6 ?_);refine A5 J J J (A7 J gU) ?_;refine A5 J J J (B1 J gU J J) ?_;refine A5 J J J (B2 J gU J J J J) ?_;refine E0 J J J J J gU J J ?_ (fun hh=>by simp at hh); intro hlen;refine A5 J J J (B7 J J gU gU J) ?_;refine A5 J J J (A7 J gU) ?_;refine A5 J J J (A7 J gU) ?_;refine A5 J J J (B1 J gU J J) ?_;refine H3 (s:=⟨[(1,_,_),(3,_,_),(5,_,_),(24,_,_),(25,_,_),(26,_,_)],[(.l 1,_)],[],[]⟩) (B4 (⟨U J,U J,U J,U J,U J,U J,O⟩) (⟨U J,O⟩) O) ?_;refine A5 J J J (B2 J (fun hh=>hh) J J J J) ?_;refine A5 J J J (G8 J (fun hh=>hh) J J) ?_;refine A5 J J J (B1 J gU J J) ?_;refine A5 J J J (B2 J (fun hh=>hh) J J J J) ?_;refine A5 J J J (G8 J (fun hh=>hh) J J) ?_;refine A5 J J J (D0 J J (fun hh=>hh) (fun hh=>hh) J (IntWalk.i64_in _ (by omega))) ?_;refine A5 J J J (B7 J J (fun hh=>hh) (fun hh=>hh) J) ?_;refine A5 J J J (E2 J J gU (fun _ hi=>gP J hi)) ?_;refine A5 J J J (A9 J gU) ?_;refine B0 ?_
  refine B6 (s:=⟨[(1,_,_),(3,_,_),(5,_,_),(6,_,_)],[(.l 1,_)],[],[]⟩) (B4 (⟨U J,U J,U J,U J,O⟩) (⟨U J,O⟩) O) ?_;refine A8 ?_;refine A8 (A6 ?_);refine A5 J J J (A9 J gU) ?_;refine B0 ?_;refine C4 ?_;refine F2 (ι:=Nat) { t:=[(1,_,_),(3,_,_),(5,_,_),(6,_,_)],bx:=[(.l 1,_)],ow:=[] } (fun k=>[(7,true,xi (k : Int))]) (fun k=>[]) (fun k=>k≤((H2 n).getD i []).length ∧ ∀ j,j < k → ¬ (((((H2 n).getD i []).getD j 0).toNat : Nat) : Int)=35) (fun k=>((H2 n).getD i []).length - k) (0) (⟨by omega,fun j hj=>by omega⟩) (B4 (⟨U J,U J,U J,U J,U J,O⟩) (⟨U J,O⟩) O) ?_
  intro k hokb
  dsimp only [List.cons_append,List.nil_append]
  obtain ⟨hk,hj⟩:=hokb
  refine A8 ?_;refine A8 (A6 ?_);refine A5 J J J (A7 J gU) ?_;refine A5 J J J (A7 J gU) ?_;refine A5 J J J (A7 J gU) ?_;refine A5 J J J (C2 J J gU gU J J J (fun hh=>L5 (by first|omega|(simp at hh ⊢; omega)))) ?_;refine A5 J J J (E4 J gU J J J) ?_;refine L7 J J J J J gU (Tryz.underlying9) ?_ (fun hh=>by simp at hh); intro hlen;refine A5 J J J (B7 J J gU gU J) ?_;refine B0 ?_;refine B6 (s:=⟨[(1,_,_),(3,_,_),(5,_,_),(6,_,_),(7,_,_),(41,_,_)],[(.l 1,_)],[],[]⟩) (B4 (⟨U J,U J,U J,U J,U J,U J,O⟩) (⟨U J,O⟩) O) ?_;refine B9 J (fun hc2=>?_) (fun hc2=>?_)
  ·try simp only [nn,B3,D3,nq] at hc2
   refine C0 ?_;refine A8 ?_;refine C4 ?_;refine A8 (A6 ?_);refine A5 J J J (A7 J gU) ?_;refine A5 J J J (A7 J gU) ?_;refine A5 J J J (C2 J J gU gU J J J (fun hh=>L5 (by first|omega|(simp at hh ⊢; omega)))) ?_;refine A5 J J J (E4 J gU J J J) ?_;refine A5 J J J (A7 J gU) ?_;refine A5 J J J (E7 J J gU gU Tryz.underlying9 J (fun hh=>by first|omega|(simp at hh ⊢; omega))) ?_;refine A5 J J J (B7 J J gU gU J) ?_;refine B0 ?_;refine B6 (s:=⟨[(1,_,_),(3,_,_),(5,_,_),(6,_,_),(7,_,_),(50,_,_)],[(.l 1,_)],[],[]⟩) (B4 (⟨U J,U J,U J,U J,U J,U J,O⟩) (⟨U J,O⟩) O) ?_;refine B9 J (fun hc3=>?_) (fun hc3=>?_)
   ·try simp only [nn,B3,D3,nq] at hc3
    have he : dclE n.roles ((H2 n).take i) ((H2 n).getD i [],o)=2:=by rw[dclE,if_pos (uCK (c:=35) (l:=(H2 n).getD i []) (j:=k) (by omega) hc3)]
    have hh:=W5 hx (by rw[he]; simp)
    rw[hd,he] at hh
    refine A8 (A6 ?_);refine A5 J J J (A9 J gU) ?_;refine B0 ?_;refine C1 ?_
    repeat(first|refine tR ?_|refine bR ?_)
    refine C5 J ?_ O
    (rw[hh]; rfl)
   ·try simp only [nn,B3,D3,nq] at hc3
    refine C0 ?_;refine A6 ?_;refine A5 J J J (A7 J gU) ?_;refine A5 J J J (D0 J J gU gU J (IntWalk.i64_in _ (by omega))) ?_;refine A5 J J J (A9 J gU) ?_;refine B0 ?_;refine ⟨k + 1,?_,?_,B4 (⟨⟨_,rfl,?_⟩,⟨U J,U J,U J,U J,O⟩⟩) (⟨U J,O⟩) O⟩
    all_goals (first|rfl|omega|exact ⟨by omega,fun j q=>by by_cases e : j=k; subst e; exact hc3; exact hj j (by omega)⟩)
  ·try simp only [nn,B3,D3,nq] at hc2
   have hno : ((H2 n).getD i []).contains 35=false:=uCw (fun j q=>hj j (by omega))
   refine E1 ?_
   repeat(first|refine D5 ?_|refine D6 ?_|refine D2 J ?_)
   refine A8 ?_;refine A8 (A6 ?_);refine A5 J J J (A7 J gU) ?_;refine A5 J J J (A7 J gU) ?_;refine A5 J J J (A7 J gU) ?_;refine A5 J J J (A7 J gU) ?_;refine A5 J J J (C2 J J (fun hh=>hh) (fun hh=>hh) J J J (fun hh=>L5 (by first|omega|(simp at hh ⊢; omega)))) ?_;refine A5 J J J (E4 J (fun hh=>hh) J J J) ?_;refine A5 J J J (G0 J J (fun hh=>hh) gU J) ?_;refine A5 J J J (A7 J (fun hh=>hh)) ?_;refine A5 J J J (A7 J gU) ?_;refine A5 J J J (A7 J gU) ?_;refine A5 J J J (C2 J J (fun hh=>hh) (fun hh=>hh) J J J (fun hh=>L5 (by first|omega|(simp at hh ⊢; omega)))) ?_;refine A5 J J J (E4 J (fun hh=>hh) J J J) ?_;refine H3 (s:=⟨[(1,_,_),(3,_,_),(5,_,_),(6,_,_),(52,_,_),(58,_,_),(62,_,_)],[(.l 1,_)],[],[]⟩) (B4 (⟨U J,U J,U J,U J,U J,U J,U J,O⟩) (⟨U J,O⟩) O) ?_;refine A5 J J J (G0 J J (fun hh=>hh) gU J) ?_;refine A5 J J J (E5 J J (fun hh=>hh) (fun hh hi=>gP hh hi)) ?_;refine A5 J J J (E2 J J gU (fun _ hi=>gP J hi)) ?_;refine B0 ?_
   have n1 : ¬((H2 n).getD i []).contains 35=true:=by rw[hno]; simp
   refine B9 J (fun hc3=>?_) (fun hc3=>?_)
   ·try simp only [nn,B3,D3,nq] at hc3
    have he : dclE n.roles ((H2 n).take i) ((H2 n).getD i [],o)=1:=by rw[dclE,if_neg n1,if_pos ⟨hF.2 (by omega),hc3.2⟩]
    have hh:=W5 hx (by rw[he]; simp)
    rw[hd,he] at hh
    refine A8 (A6 ?_);refine A5 J J J (A9 J gU) ?_;refine B0 ?_;refine C1 ?_
    repeat(first|refine tR ?_|refine bR ?_)
    refine C5 J ?_ O
    (rw[hh]; rfl)
   ·try simp only [nn,B3,D3,nq] at hc3
    have n2 : ¬(o.isSome=true∧((H2 n).getD i []=[101]∨(H2 n).getD i []=[103])):=by
     rintro ⟨q1,q2⟩
     have := hF.1 q1
     rcases hc3 with z | z
     ·omega
     ·exact q2.elim z.1 z.2
    refine C0 ?_;refine A8 ?_;refine A8 ?_;refine awp_drawn' (by kernel_rfl) ?_;refine B5 J J J J (A7 J gU) ?_;refine B5 J J J J (A7 J gU) ?_;refine B5 J J J J (Bk J gU J J (fun _=>rfl) (fun _=>⟨_,_,_,rfl,gU,rfl⟩) (fun hh=>by first|omega|(simp at hh ⊢; omega)) (fun hh=>by first|omega|(simp at hh ⊢; omega))) ?_;refine B5 J J J J (A7 J gU) ?_;refine B5 J J J J (A7 J gU) ?_;refine B5 J J J J (C2 J J gU gU J J J (fun hh=>L5 (by first|omega|(simp at hh ⊢; omega)))) ?_;refine B5 J J J J (E4 J gU J J J) ?_;refine E9 J J J J J J J gU gU (Yd _ _ _ (Xw _ _)) J ?_;refine B5 J J J J (B7 J J gU gU J) ?_;refine F6 (by kernel_rfl) ?_;refine B6 (s:=⟨[(1,_,_),(3,_,_),(5,_,_),(6,_,_),(74,_,_)],[(.l 1,_)],[],[]⟩) (B4 (⟨U J,U J,U J,U J,U J,O⟩) (⟨U J,O⟩) O) ?_;refine B9 J (fun hc4=>?_) (fun hc4=>?_)
    ·try simp only [nn,B3,D3,nq] at hc4
     have h5:=(Bg _ _).1 hc4
     have he : dclE n.roles ((H2 n).take i) ((H2 n).getD i [],o)=5:=by rw[dclE,if_neg n1,if_neg n2,if_pos h5]
     have hh:=W5 hx (by rw[he]; simp)
     rw[hd,he] at hh
     refine A8 (A6 ?_);refine A5 J J J (A9 J gU) ?_;refine B0 ?_;refine C1 ?_
     repeat(first|refine tR ?_|refine bR ?_)
     refine C5 J ?_ O
     (rw[hh]; rfl)
    ·try simp only [nn,B3,D3,nq] at hc4
     have h5:=(S8 ((H2 n).take i) ((H2 n).getD i [])).1 (by omega)
     have n3 : ¬((H2 n).take i).contains ((H2 n).getD i [])=true:=by rw[h5]; simp
     refine C0 ?_;refine A8 ?_;refine awp_drawn' (by kernel_rfl) ?_;refine B5 J J J J (A7 J gU) ?_;refine B5 J J J J (A7 J gU) ?_;refine B5 J J J J (B1 J gU J J) ?_;refine G4 J J J J J J J (fun hh=>hh) J J J J ?_;refine B5 J J J J (B1 J gU J J) ?_;refine G4 J J J J J J J (fun hh=>hh) J J J J ?_;refine B5 J J J J (A7 J gU) ?_;refine B5 J J J J (B1 J gU J J) ?_;refine G4 J J J J J J J (fun hh=>hh) J J J J ?_;refine B5 J J J J (G8 J (fun hh=>hh) J J) ?_;refine B5 J J J J (D0 J J (fun hh=>hh) (fun hh=>hh) J (IntWalk.i64_in _ (by omega))) ?_;refine B5 J J J J (Hk (j:=i - n.roles.length) J J (by first|exact fun hh=>hh|exact fun _=>rfl|exact fun hh=>gL hh|exact fun hh=>gL (gL hh)|(intro hh; simp_all)) (by first|exact fun hh=>hh|exact fun _=>rfl|exact fun hh=>gL hh|exact fun hh=>gL (gL hh)|(intro hh; simp_all)) J J (fun hh=>by simp at hh; omega) (fun hh=>Fs.rows_at (by simp at hh; omega))) ?_;refine B5 J J J J (F4 J (fun hh=>hh) J J) ?_;refine B5 J J J J (E4 J (fun hh=>hh) J J J) ?_;refine E9 J J J J J J J gU (fun hh=>gA ((fun hh=>hh) hh) (gA ((fun hh=>hh) hh) (rfl))) (Q8 _ _) J ?_
     refine B5 J J J J (B7 J J (fun hh=>hh) gU J) ?_;refine B5 J J J J (E2 J J gU (fun _ hi=>gP J hi)) ?_;refine F6 (by kernel_rfl) ?_;refine B6 (s:=⟨[(1,_,_),(3,_,_),(5,_,_),(91,_,_)],[(.l 1,_)],[],[]⟩) (B4 (⟨U J,U J,U J,U J,O⟩) (⟨U J,O⟩) O) ?_;refine B9 J (fun hc5=>?_) (fun hc5=>?_)
     ·try simp only [nn,B3,D3,nq] at hc5
      have hr:=(S8 _ _).1 hc5.2
      rw[if_pos (by omega)] at ho
      have he : dclE n.roles ((H2 n).take i) ((H2 n).getD i [],o)=13:=by rw[dclE,if_neg n1,if_neg n2,if_neg n3,ho]; exact if_neg (by rw[hr]; simp)
      have hh:=W5 hx (by rw[he]; simp)
      rw[hd,he] at hh
      refine A8 (A6 ?_);refine A5 J J J (A9 J gU) ?_;refine B0 ?_;refine C1 ?_
      repeat(first|refine tR ?_|refine bR ?_)
      refine C5 J ?_ O
      (rw[hh]; rfl)
     ·try simp only [nn,B3,D3,nq] at hc5
      have he : dclE n.roles ((H2 n).take i) ((H2 n).getD i [],o)=0:=by
       rw[dclE,if_neg n1,if_neg n2,if_neg n3]
       split at ho
       ·rename_i q
        have hr:=(Bg n.roles (n.fresh.getD (i - n.roles.length) default).role).1 (by omega)
        rw[ho]; exact if_pos hr
       ·rw[ho]
      have hh:=Hv hx he
      rw[hd] at hh
      refine C0 ?_;refine A6 ?_;refine A5 J J J (A7 J gU) ?_;refine A5 J J J (D0 J J gU gU J (IntWalk.i64_in _ (by omega))) ?_;refine A5 J J J (A9 J gU) ?_;refine B0 ?_;refine ⟨i + 1,?_,?_,B4 (⟨⟨_,rfl,?_⟩,⟨U J,U J,O⟩⟩) (⟨U J,O⟩) O⟩
      all_goals (first|rfl|omega|exact ⟨by omega,by rw[I2 (d:=[]) hlt]; exact hh.symm⟩)
 ·try simp only [nn,B3,D3,nq] at hc
  rw[List.drop_of_length_le (by have := congrArg List.length (Iu n); rw[List.length_map] at this; omega)] at hd
  refine E1 ?_
  repeat(first|refine D5 ?_|refine D6 ?_|refine D2 J ?_)
  refine A8 (A6 ?_);refine A5 J J J (A9 J gU) ?_;refine B0 ?_;refine C1 ?_
  repeat(first|refine tR ?_|refine bR ?_)
  refine C5 J ?_ O
  (rw[← hd]; rfl)
set_option maxHeartbeats 4000000 in
theorem Hc (n : Nar) (hs : ∀ s ∈ n.steps,s.msg.size≤900000) (hg : ∀ g ∈ n.goals,T.sizes g.data≤900000) : Ctr sys 14 [xn n] [] (xii (chkE E3 n)) none []:=by
 have l5:=Sp.rows_len n.steps
 have l6:=Gl.rows_len n.goals
 refine D1 Tryz.func14 J J J J J J ?_;refine A8 (A6 ?_);refine C3 J (D8 J J J J) ?_;refine A5 J J J (A9 J gU) ?_;refine A5 J J J (A9 J gU) ?_;refine B0 ?_;refine A8 ?_;refine A8 (A6 ?_);refine A5 J J J (B8 J gU J J J J J) ?_;refine C7 J J J J J J gU gU (Gt _ hs hg) J ?_;refine A5 J J J (A9 J gU) ?_;refine B0 ?_;refine B6 (s:=⟨[(1,_,_),(4,_,_)],[(.l 1,_)],[],[]⟩) (B4 (⟨U J,U J,O⟩) (⟨U J,O⟩) O) ?_;refine A8 (A6 ?_);refine A5 J J J (A7 J gU) ?_;refine A5 J J J (B7 J J gU gU J) ?_;refine B0 ?_;refine B9 J (fun hc=>?_) (fun hc=>?_)
 ·try simp only [nn,B3,D3,nq] at hc
  refine A8 (A6 ?_);refine A5 J J J (A7 J gU) ?_;refine A5 J J J (A9 J gU) ?_;refine A5 J J J (A9 J gU) ?_;refine B0 ?_;refine C1 ?_
  repeat(first|refine tR ?_|refine bR ?_)
  refine C5 J ?_ O
  (rw[chkE,if_pos hc]; rfl)
 ·try simp only [nn,B3,D3,nq] at hc
  have hok:=My (n:=n) hc
  have b1 : n.roles.length≤900000 := by have := hok.r2; omega
  have b2 : n.fresh.length≤900000 := by have := hok.f2; omega
  have b3 : n.tags.length≤900000 := by have := hok.t2; omega
  have e1 : chkE E3 n=if decE n≠0 then (0,decE n) else useE n:=by rw[chkE,if_neg (by simpa using hc)]
  rw[e1]
  refine C0 ?_;refine A8 ?_;refine A8 (A6 ?_);refine A5 J J J (B8 J gU J J J J J) ?_;refine C7 J J J J J J gU gU (Js n b1 b2 b3) J ?_;refine A5 J J J (A9 J gU) ?_;refine B0 ?_;refine B6 (s:=⟨[(1,_,_),(5,_,_)],[(.l 1,_)],[],[]⟩) (B4 (⟨U J,U J,O⟩) (⟨U J,O⟩) O) ?_;refine A8 (A6 ?_);refine A5 J J J (A7 J gU) ?_;refine A5 J J J (B7 J J gU gU J) ?_;refine B0 ?_;refine B9 J (fun hc2=>?_) (fun hc2=>?_)
  ·try simp only [nn,B3,D3,nq] at hc2
   refine A8 (A6 ?_);refine A5 J J J (A7 J gU) ?_;refine A5 J J J (A9 J gU) ?_;refine A5 J J J (A9 J gU) ?_;refine B0 ?_;refine C1 ?_
   repeat(first|refine tR ?_|refine bR ?_)
   refine C5 J ?_ O
   (rw[if_pos hc2]; rfl)
  ·try simp only [nn,B3,D3,nq] at hc2
   rw[if_neg (by simpa using hc2)]
   refine C0 ?_;refine A8 ?_;refine A8 (A6 ?_);refine A5 J J J (A9 J gU) ?_;refine B0 ?_;refine C4 ?_;refine F2 (ι:=Nat) { t:=[(1,_,_)],bx:=[(.l 1,_)],ow:=[] } (fun k=>[(6,true,xi (k : Int))]) (fun k=>[]) (fun k=>k≤n.steps.length ∧ ∀ j,j < k→V9 n (n.steps.getD j default)=0) (fun k=>n.steps.length - k) (0) (⟨by omega,fun j hj=>by omega⟩) (B4 (⟨U J,U J,O⟩) (⟨U J,O⟩) O) ?_
   intro k hoka
   dsimp only [List.cons_append,List.nil_append]
   obtain ⟨hk,hi⟩:=hoka
   refine A8 ?_;refine A8 (A6 ?_);refine A5 J J J (A7 J gU) ?_;refine A5 J J J (B1 J gU J J) ?_;refine A5 J J J (B2 J gU J J J J) ?_;refine E0 J J J J J gU J J ?_ (fun hh=>by simp at hh); intro hlen;refine A5 J J J (B7 J J gU gU J) ?_;refine B0 ?_;refine B6 (s:=⟨[(1,_,_),(6,_,_),(24,_,_)],[(.l 1,_)],[],[]⟩) (B4 (⟨U J,U J,U J,O⟩) (⟨U J,O⟩) O) ?_;refine B9 J (fun hc3=>?_) (fun hc3=>?_)
   ·try simp only [nn,B3,D3,nq] at hc3
    have hlt : k < n.steps.length:=by omega
    have hks:=hs _ (K8 (d:=default) hlt)
    refine C0 ?_;refine A8 ?_;refine C4 ?_;refine A8 ?_;refine awp_drawn' (by kernel_rfl) ?_;refine D7 J J J J J J J gU J J J J J ?_;refine B5 J J J J (B1 J gU J J) ?_;refine G4 J J J J J J J gU J J J J ?_;refine B5 J J J J (A7 J gU) ?_;refine B5 J J J J (C2 J J gU gU J J J (fun hh=>Sp.rows_at (by first|omega|(simp at hh ⊢; omega)))) ?_;refine B5 J J J J (D4 J gU J J J J) ?_;refine E9 J J J J J J J gU gU (Ng n (n.steps.getD k default) b1 b2 b3 hks) J ?_;refine B5 J J J J (A9 J gU) ?_;refine F6 (by kernel_rfl) ?_;refine B6 (s:=⟨[(1,_,_),(6,_,_),(7,_,_)],[(.l 1,_)],[],[]⟩) (B4 (⟨U J,U J,U J,O⟩) (⟨U J,O⟩) O) ?_;refine A8 (A6 ?_);refine A5 J J J (A7 J gU) ?_;refine A5 J J J (B7 J J gU gU J) ?_;refine B0 ?_;refine B9 J (fun hc4=>?_) (fun hc4=>?_)
    ·try simp only [nn,B3,D3,nq] at hc4
     have hh:=Hq (ln:=Sp.line) hlt hi hc4
     have hu : useE n=((n.steps.getD k default).line,V9 n (n.steps.getD k default)):=by rw[useE,if_pos (by rw[hh]; exact hc4),hh]
     rw[hu]
     refine A8 (A6 ?_);refine A5 J J J (B1 J gU J J) ?_;refine A5 J J J (B2 J gU J J J J) ?_;refine A5 J J J (A7 J gU) ?_;refine A5 J J J (C2 J J gU gU J J J (fun hh=>Sp.rows_at (by first|omega|(simp at hh ⊢; omega)))) ?_;refine A5 J J J (F4 J gU J J) ?_;refine A5 J J J (E4 J gU J J J) ?_;refine A5 J J J (A7 J gU) ?_;refine A5 J J J (A9 J gU) ?_;refine A5 J J J (A9 J gU) ?_;refine B0 ?_;refine C1 ?_
     repeat(first|refine tR ?_|refine bR ?_)
     refine C5 J ?_ O
     rfl
    ·try simp only [nn,B3,D3,nq] at hc4
     refine C0 ?_;refine A6 ?_;refine A5 J J J (A7 J gU) ?_;refine A5 J J J (D0 J J gU gU J (IntWalk.i64_in _ (by omega))) ?_;refine A5 J J J (A9 J gU) ?_;refine B0 ?_;refine ⟨k + 1,?_,?_,B4 (⟨⟨_,rfl,?_⟩,⟨U J,O⟩⟩) (⟨U J,O⟩) O⟩
     all_goals (first|rfl|omega|exact ⟨by omega,R0 hi hc4⟩)
   ·try simp only [nn,B3,D3,nq] at hc3
    have hke : k=n.steps.length:=by omega
    subst hke
    have hus : useE n=lnE (Q5 n) Gl.line n.goals:=by rw[useE,if_neg (by rw[El (ln:=Sp.line) hi]; simp)]
    rw[hus]
    refine E1 ?_
    repeat(first|refine D5 ?_|refine D6 ?_|refine D2 J ?_)
    refine A8 ?_;refine A8 (A6 ?_);refine A5 J J J (A9 J gU) ?_;refine B0 ?_;refine C4 ?_;refine F2 (ι:=Nat) { t:=[(1,_,_)],bx:=[(.l 1,_)],ow:=[] } (fun j=>[(8,true,xi (j : Int))]) (fun j=>[]) (fun j=>j≤n.goals.length ∧ ∀ i,i < j→Q5 n (n.goals.getD i default)=0) (fun j=>n.goals.length - j) (0) (⟨by omega,fun j hj=>by omega⟩) (B4 (⟨U J,U J,O⟩) (⟨U J,O⟩) O) ?_
    intro j hokb
    dsimp only [List.cons_append,List.nil_append]
    obtain ⟨hj,hi2⟩:=hokb
    refine A8 ?_;refine A8 (A6 ?_);refine A5 J J J (A7 J gU) ?_;refine A5 J J J (B1 J gU J J) ?_;refine A5 J J J (B2 J gU J J J J) ?_;refine E0 J J J J J gU J J ?_ (fun hh=>by simp at hh); intro hlen;refine A5 J J J (B7 J J gU gU J) ?_;refine B0 ?_;refine B6 (s:=⟨[(1,_,_),(8,_,_),(47,_,_)],[(.l 1,_)],[],[]⟩) (B4 (⟨U J,U J,U J,O⟩) (⟨U J,O⟩) O) ?_;refine B9 J (fun hc4=>?_) (fun hc4=>?_)
    ·try simp only [nn,B3,D3,nq] at hc4
     have hlt : j < n.goals.length:=by omega
     have hks:=hg _ (K8 (d:=default) hlt)
     refine C0 ?_;refine A8 ?_;refine C4 ?_;refine A8 ?_;refine awp_drawn' (by kernel_rfl) ?_;refine D7 J J J J J J J gU J J J J J ?_;refine B5 J J J J (B1 J gU J J) ?_;refine G4 J J J J J J J gU J J J J ?_;refine B5 J J J J (A7 J gU) ?_;refine B5 J J J J (C2 J J gU gU J J J (fun hh=>Gl.rows_at (by first|omega|(simp at hh ⊢; omega)))) ?_;refine B5 J J J J (D4 J gU J J J J) ?_;refine E9 J J J J J J J gU gU (Og n (n.goals.getD j default) b1 b2 b3 hks) J ?_;refine B5 J J J J (A9 J gU) ?_;refine F6 (by kernel_rfl) ?_;refine B6 (s:=⟨[(1,_,_),(8,_,_),(9,_,_)],[(.l 1,_)],[],[]⟩) (B4 (⟨U J,U J,U J,O⟩) (⟨U J,O⟩) O) ?_;refine A8 (A6 ?_);refine A5 J J J (A7 J gU) ?_;refine A5 J J J (B7 J J gU gU J) ?_;refine B0 ?_;refine B9 J (fun hc5=>?_) (fun hc5=>?_)
     ·try simp only [nn,B3,D3,nq] at hc5
      rw[Hq (ln:=Gl.line) hlt hi2 hc5]
      refine A8 (A6 ?_);refine A5 J J J (B1 J gU J J) ?_;refine A5 J J J (B2 J gU J J J J) ?_;refine A5 J J J (A7 J gU) ?_;refine A5 J J J (C2 J J gU gU J J J (fun hh=>Gl.rows_at (by first|omega|(simp at hh ⊢; omega)))) ?_;refine A5 J J J (F4 J gU J J) ?_;refine A5 J J J (E4 J gU J J J) ?_;refine A5 J J J (A7 J gU) ?_;refine A5 J J J (A9 J gU) ?_;refine A5 J J J (A9 J gU) ?_;refine B0 ?_;refine C1 ?_
      repeat(first|refine tR ?_|refine bR ?_)
      refine C5 J ?_ O
      rfl
     ·try simp only [nn,B3,D3,nq] at hc5
      refine C0 ?_;refine A6 ?_;refine A5 J J J (A7 J gU) ?_;refine A5 J J J (D0 J J gU gU J (IntWalk.i64_in _ (by omega))) ?_;refine A5 J J J (A9 J gU) ?_;refine B0 ?_;refine ⟨j + 1,?_,?_,B4 (⟨⟨_,rfl,?_⟩,⟨U J,O⟩⟩) (⟨U J,O⟩) O⟩
      all_goals (first|rfl|omega|exact ⟨by omega,R0 hi2 hc5⟩)
    ·try simp only [nn,B3,D3,nq] at hc4
     have hje : j=n.goals.length:=by omega
     subst hje
     rw[El (ln:=Gl.line) hi2]
     refine E1 ?_
     repeat(first|refine D5 ?_|refine D6 ?_|refine D2 J ?_)
     refine A8 (A6 ?_);refine A5 J J J (A9 J gU) ?_;refine A5 J J J (A9 J gU) ?_;refine B0 ?_;refine C1 ?_
     repeat(first|refine tR ?_|refine bR ?_)
     refine C5 J ?_ O
     rfl
namespace T
def cmp0 (a b : T) : Int :=
 if M5 a.size b.size≠0 then M5 a.size b.size else if M5 a.kind b.kind≠0 then M5 a.kind b.kind
 else if Op.bytesLess a.name b.name=true then -1 else if (!(Op.bytesLess a.name b.name || a.name == b.name))=true then 1
 else if M5 a.sort b.sort≠0 then M5 a.sort b.sort else M5 a.kids.length b.kids.length
mutual
def cmp : T→T→Int
 | mk k n s ks,b=>if cmp0 (mk k n s ks) b≠0 then cmp0 (mk k n s ks) b else cmps ks b.kids
def cmps : List T→List T→Int
 | [],_=>0
 | _ :: _,[]=>0
 | x :: xs,y :: ys=>if cmp x y≠0 then cmp x y else cmps xs ys
end
theorem cmp_eq (a b : T) : a.cmp b=if cmp0 a b≠0 then cmp0 a b else cmps a.kids b.kids:=by cases a; rw[cmp]; rfl
theorem cmps_hit : ∀ (a b : List T) (k : Nat) (x y : T),a[k]? = some x→b[k]? = some y→cmps (a.take k) (b.take k)=0→x.cmp y≠0→cmps a b=x.cmp y
 | [],b,k,x,y,h,_,_,_=>by simp at h
 | _ :: _,[],k,x,y,_,h,_,_=>by simp at h
 | a :: ar,b :: br,0,x,y,h,h',_,hx=>by simp at h h'; subst h; subst h'; rw[cmps,if_pos hx]
 | a :: ar,b :: br,k + 1,x,y,h,h',h0,hx=>by
  rw[List.take_succ_cons,List.take_succ_cons,cmps] at h0
  rw[cmps]
  by_cases ht : a.cmp b=0
  ·rw[if_neg (by simpa using ht)] at h0
   rw[if_neg (by simpa using ht)]
   exact cmps_hit ar br k x y (by simpa using h) (by simpa using h') h0 hx
  ·rw[if_pos ht] at h0; exact absurd h0 ht
theorem cmps_step : ∀ (a b : List T) (k : Nat) (x y : T),a[k]? = some x→b[k]? = some y→cmps (a.take k) (b.take k)=0→x.cmp y=0→cmps (a.take (k + 1)) (b.take (k + 1))=0
 | [],b,k,x,y,h,_,_,_=>by simp at h
 | _ :: _,[],k,x,y,_,h,_,_=>by simp at h
 | a :: ar,b :: br,0,x,y,h,h',_,hx=>by simp at h h'; subst h; subst h'; simp [cmps,hx]
 | a :: ar,b :: br,k + 1,x,y,h,h',h0,hx=>by
  rw[List.take_succ_cons,List.take_succ_cons,cmps] at h0
  rw[List.take_succ_cons,List.take_succ_cons,cmps]
  by_cases ht : a.cmp b=0
  ·rw[if_neg (by simpa using ht)] at h0
   rw[if_neg (by simpa using ht)]
   exact cmps_step ar br k x y (by simpa using h) (by simpa using h') h0 hx
  ·rw[if_pos ht] at h0; exact absurd h0 ht
end T
theorem Qg {a b : Int} (h : M5 a b=0) : a=b:=by
 unfold M5 at h; split at h
 ·omega
 ·split at h <;> omega
def uCW (a b : T) (k : Nat) : St:={ t:=[(2,true, .v (.ptr (.l 2) 0)),(3,true, .v (.ptr (.l 3) 0)),(9,true,xi k)],bx:=[(.l 2,a.cells),(.l 3,b.cells)],ow:=[] }
theorem Oc : ∀ (n : Nat) (a b : T),a.size≤n→n≤2000000→b.size≤2000000→Ctr sys 89 [xm a,xm b] [] (xi (a.cmp b)) none []:=by
 intro n
 induction n with
 | zero=>intro t _ h; have := t.size_pos; omega
 | succ n ih =>
  intro a b ha hn hb
  have hls:=T.len_sizes a.kids
  have hse:=a.size_eq
  refine D1 Tryz.func89 J J J J J J ?_;refine A8 (A6 ?_);refine C3 J (D8 J J J J) ?_;refine C3 J (D8 J J J J) ?_;refine A5 J J J (A9 J gU) ?_;refine B0 ?_;refine A8 ?_;refine A8 ?_;refine awp_drawn' (by kernel_rfl) ?_;refine D7 J J J J J J J gU J J J J J ?_;refine E9 J J J J J J J gU gU (Dh _ a (Nat.le_refl _) (by omega)) J ?_;refine D7 J J J J J J J gU J J J J J ?_;refine E9 J J J J J J J gU gU (Dh _ b (Nat.le_refl _) hb) J ?_;refine E9 J J J J J J J gU gU (Dd _ _) J ?_;refine B5 J J J J (A9 J gU) ?_;refine F6 (by kernel_rfl) ?_;refine B6 (s:=⟨[(2,_,_),(3,_,_),(5,_,_)],[(.l 2,_),(.l 3,_)],[],[]⟩) (B4 (⟨U J,U J,U J,O⟩) (⟨U J,U J,O⟩) O) ?_;refine A8 (A6 ?_);refine A5 J J J (A7 J gU) ?_;refine A5 J J J (B7 J J gU gU J) ?_;refine B0 ?_;refine B9 J (fun hc=>?_) (fun hc=>?_)
  ·refine A8 (A6 ?_)
   refine A5 J J J (A7 J gU) ?_;refine A5 J J J (A9 J gU) ?_;refine B0 ?_;refine C1 ?_
   repeat(first|refine tR ?_|refine bR ?_)
   refine C5 J ?_ O;refine H5 ?_
   rw[T.cmp_eq]
   have h0 : T.cmp0 a b=M5 a.size b.size:=by rw[T.cmp0,if_pos (by simpa using hc)]
   rw[h0,if_pos (by simpa using hc)]
  ·have e1 : ¬ M5 (a.size : Int) (b.size : Int)≠0:=by simpa using hc
   refine C0 ?_;refine A8 ?_;refine A8 (A6 ?_);refine A5 J J J (B1 J gU J J) ?_;refine A5 J J J (B2 J gU J J J J) ?_;refine A5 J J J (B1 J gU J J) ?_;refine A5 J J J (B2 J gU J J J J) ?_;refine C7 J J J J J J gU gU (Dd _ _) J ?_;refine A5 J J J (A9 J gU) ?_;refine B0 ?_;refine B6 (s:=⟨[(2,_,_),(3,_,_),(6,_,_)],[(.l 2,_),(.l 3,_)],[],[]⟩) (B4 (⟨U J,U J,U J,O⟩) (⟨U J,U J,O⟩) O) ?_;refine A8 (A6 ?_);refine A5 J J J (A7 J gU) ?_;refine A5 J J J (B7 J J gU gU J) ?_;refine B0 ?_;refine B9 J (fun hc2=>?_) (fun hc2=>?_)
   ·refine A8 (A6 ?_)
    refine A5 J J J (A7 J gU) ?_;refine A5 J J J (A9 J gU) ?_;refine B0 ?_;refine C1 ?_
    repeat(first|refine tR ?_|refine bR ?_)
    refine C5 J ?_ O;refine H5 ?_
    have h0 : T.cmp0 a b=M5 a.kind b.kind:=by rw[T.cmp0,if_neg e1,if_pos (by simpa using hc2)]
    rw[T.cmp_eq,h0,if_pos (by simpa using hc2)]
   ·have e2 : ¬ M5 a.kind b.kind≠0:=by simpa using hc2
    refine C0 ?_;refine A8 ?_;refine A8 (A6 ?_);refine A5 J J J (B1 J gU J J) ?_;refine A5 J J J (B2 J gU J J J J) ?_;refine A5 J J J (B1 J gU J J) ?_;refine A5 J J J (B2 J gU J J J J) ?_;refine A5 J J J (G0 J J gU gU J) ?_;refine B0 ?_;refine B6 (s:=⟨[(2,_,_),(3,_,_),(31,_,_)],[(.l 2,_),(.l 3,_)],[],[]⟩) (B4 (⟨U J,U J,U J,O⟩) (⟨U J,U J,O⟩) O) ?_;refine B9 J (fun hc3=>?_) (fun hc3=>?_)
    ·refine A8 (A6 ?_)
     refine A5 J J J (A9 J gU) ?_;refine B0 ?_;refine C1 ?_
     repeat(first|refine tR ?_|refine bR ?_)
     refine C5 J ?_ O;refine H5 ?_
     have h0 : T.cmp0 a b = -1:=by rw[T.cmp0,if_neg e1,if_neg e2,if_pos hc3]
     rw[T.cmp_eq,h0]; rfl
    ·refine C0 ?_
     refine A8 ?_;refine A8 (A6 ?_);refine A5 J J J (B1 J gU J J) ?_;refine A5 J J J (B2 J gU J J J J) ?_;refine A5 J J J (B1 J gU J J) ?_;refine A5 J J J (B2 J gU J J J J) ?_;refine A5 J J J (G0 J J gU gU J) ?_;refine B0 ?_;refine B6 (s:=⟨[(2,_,_),(3,_,_),(36,_,_)],[(.l 2,_),(.l 3,_)],[],[]⟩) (B4 (⟨U J,U J,U J,O⟩) (⟨U J,U J,O⟩) O) ?_;refine B9 J (fun hc4=>?_) (fun hc4=>?_)
     ·refine A8 (A6 ?_)
      refine A5 J J J (A9 J gU) ?_;refine B0 ?_;refine C1 ?_
      repeat(first|refine tR ?_|refine bR ?_)
      refine C5 J ?_ O;refine H5 ?_
      have h0 : T.cmp0 a b=1:=by rw[T.cmp0,if_neg e1,if_neg e2,if_neg (by rw[hc3]; simp),if_pos hc4]
      rw[T.cmp_eq,h0]; rfl
     ·refine C0 ?_
      refine A8 ?_;refine A8 (A6 ?_);refine A5 J J J (B1 J gU J J) ?_;refine A5 J J J (B2 J gU J J J J) ?_;refine A5 J J J (B1 J gU J J) ?_;refine A5 J J J (B2 J gU J J J J) ?_;refine C7 J J J J J J gU gU (Dd _ _) J ?_;refine A5 J J J (A9 J gU) ?_;refine B0 ?_;refine B6 (s:=⟨[(2,_,_),(3,_,_),(7,_,_)],[(.l 2,_),(.l 3,_)],[],[]⟩) (B4 (⟨U J,U J,U J,O⟩) (⟨U J,U J,O⟩) O) ?_;refine A8 (A6 ?_);refine A5 J J J (A7 J gU) ?_;refine A5 J J J (B7 J J gU gU J) ?_;refine B0 ?_;refine B9 J (fun hc5=>?_) (fun hc5=>?_)
      ·refine A8 (A6 ?_)
       refine A5 J J J (A7 J gU) ?_;refine A5 J J J (A9 J gU) ?_;refine B0 ?_;refine C1 ?_
       repeat(first|refine tR ?_|refine bR ?_)
       refine C5 J ?_ O;refine H5 ?_
       have h0 : T.cmp0 a b=M5 a.sort b.sort:=by rw[T.cmp0,if_neg e1,if_neg e2,if_neg (by rw[hc3]; simp),if_neg (by rw[hc4]; simp),if_pos (by simpa using hc5)]
       rw[T.cmp_eq,h0,if_pos (by simpa using hc5)]
      ·have e5 : ¬ M5 a.sort b.sort≠0:=by simpa using hc5
       have h0 : T.cmp0 a b=M5 a.kids.length b.kids.length:=by rw[T.cmp0,if_neg e1,if_neg e2,if_neg (by rw[hc3]; simp),if_neg (by rw[hc4]; simp),if_neg e5]
       refine C0 ?_;refine A8 ?_;refine A8 (A6 ?_);refine A5 J J J (B1 J gU J J) ?_;refine A5 J J J (B2 J gU J J J J) ?_;refine E0 J J J J J gU J J ?_ (fun hh=>by simp at hh); intro hlen;refine A5 J J J (B1 J gU J J) ?_;refine A5 J J J (B2 J gU J J J J) ?_;refine E0 J J J J J gU J J ?_ (fun hh=>by simp at hh); intro hlen;refine C7 J J J J J J gU gU (Dd _ _) J ?_;refine A5 J J J (A9 J gU) ?_;refine B0 ?_;refine B6 (s:=⟨[(2,_,_),(3,_,_),(8,_,_)],[(.l 2,_),(.l 3,_)],[],[]⟩) (B4 (⟨U J,U J,U J,O⟩) (⟨U J,U J,O⟩) O) ?_;refine A8 (A6 ?_);refine A5 J J J (A7 J gU) ?_;refine A5 J J J (B7 J J gU gU J) ?_;refine B0 ?_;refine B9 J (fun hc6=>?_) (fun hc6=>?_)
       ·refine A8 (A6 ?_)
        refine A5 J J J (A7 J gU) ?_;refine A5 J J J (A9 J gU) ?_;refine B0 ?_;refine C1 ?_
        repeat(first|refine tR ?_|refine bR ?_)
        refine C5 J ?_ O;refine H5 ?_
        simp only [T.rows_len] at hc6 ⊢
        rw[T.cmp_eq,h0,if_pos (by simpa using hc6)]
       ·simp only [T.rows_len] at hc6
        have e6 : M5 (a.kids.length : Int) (b.kids.length : Int)=0:=by simpa using hc6
        have hll:=Qg e6
        have hll' : a.kids.length=b.kids.length:=by omega
        have hC : a.cmp b=T.cmps a.kids b.kids:=by rw[T.cmp_eq,h0,if_neg (by simpa using e6)]
        refine C0 ?_;refine A8 ?_;refine A8 (A6 ?_);refine A5 J J J (A9 J gU) ?_;refine B0 ?_;refine C4 ?_;refine Q1 (uCW a b) (fun k=>k≤a.kids.length∧T.cmps (a.kids.take k) (b.kids.take k)=0) (fun k=>a.kids.length - k) 0 ⟨Nat.zero_le _,by simp [T.cmps]⟩ ?_ ?_
        ·refine B4 ⟨⟨_,rfl,rfl⟩,⟨_,rfl,rfl⟩,⟨_,rfl,rfl⟩,O⟩ ⟨⟨_,rfl,rfl⟩,⟨_,rfl,rfl⟩,O⟩ O
        ·rintro k ⟨hk,hz⟩
         refine A8 ?_;refine A8 (A6 ?_);refine A5 J J J (A7 J gU) ?_;refine A5 J J J (B1 J gU J J) ?_;refine A5 J J J (B2 J gU J J J J) ?_;refine E0 J J J J J gU J J ?_ (fun hh=>by simp at hh); intro hlen;refine A5 J J J (B7 J J gU gU J) ?_;refine B0 ?_;refine B6 (s:=⟨[(2,_,_),(3,_,_),(9,_,_),(59,_,_)],[(.l 2,_),(.l 3,_)],[],[]⟩) (B4 (⟨U J,U J,U J,U J,O⟩) (⟨U J,U J,O⟩) O) ?_;refine B9 J (fun hc7=>?_) (fun hc7=>?_)
         ·rw[T.rows_len] at hc7
          have hlt : k < a.kids.length:=by simpa using hc7
          obtain ⟨x,hx⟩ : ∃ x,a.kids[k]? = some x:=⟨_,List.getElem?_eq_getElem hlt⟩
          obtain ⟨y,hy⟩ : ∃ y,b.kids[k]? = some y:=⟨_,List.getElem?_eq_getElem (by omega)⟩
          have q1:=T.size_kid hx
          have q2:=T.size_kid hy
          refine C0 ?_;refine A8 ?_;refine C4 ?_;refine A8 ?_;refine awp_drawn' (by kernel_rfl) ?_;refine B5 J J J J (B1 J gU J J) ?_;refine G4 J J J J J J J gU J J J J ?_;refine B5 J J J J (A7 J gU) ?_;refine B5 J J J J (C2 J J gU gU J J J (fun _=>T.rows_get hx)) ?_;refine B5 J J J J (D4 J gU J J J J) ?_;refine B5 J J J J (B1 J gU J J) ?_;refine G4 J J J J J J J gU J J J J ?_;refine B5 J J J J (A7 J gU) ?_;refine B5 J J J J (C2 J J gU gU J J J (fun _=>T.rows_get hy)) ?_;refine B5 J J J J (D4 J gU J J J J) ?_;refine E9 J J J J J J J gU gU (ih x y (by omega) (by omega) (by omega)) J ?_;refine B5 J J J J (A9 J gU) ?_;refine F6 (by kernel_rfl) ?_;refine B6 (s:=⟨[(2,_,_),(3,_,_),(9,_,_),(10,_,_)],[(.l 2,_),(.l 3,_)],[],[]⟩) (B4 (⟨U J,U J,U J,U J,O⟩) (⟨U J,U J,O⟩) O) ?_;refine A8 (A6 ?_);refine A5 J J J (A7 J gU) ?_;refine A5 J J J (B7 J J gU gU J) ?_;refine B0 ?_;refine B9 J (fun hc8=>?_) (fun hc8=>?_)
          ·refine A8 (A6 ?_)
           refine A5 J J J (A7 J gU) ?_;refine A5 J J J (A9 J gU) ?_;refine B0 ?_;refine C1 ?_
           repeat(first|refine tR ?_|refine bR ?_)
           refine C5 J ?_ O;exact H5 (by rw[hC,T.cmps_hit _ _ _ _ _ hx hy hz (by simpa using hc8)])
          ·refine C0 ?_
           refine A6 ?_;refine A5 J J J (A7 J gU) ?_;refine A5 J J J (D0 J J gU gU J (IntWalk.i64_in _ (by omega))) ?_;refine A5 J J J (A9 J gU) ?_;refine B0 ?_;refine ⟨k + 1,⟨by omega,T.cmps_step _ _ _ _ _ hx hy hz (by simpa using hc8)⟩,by omega,?_⟩;refine B4 ⟨⟨_,rfl,rfl⟩,⟨_,rfl,rfl⟩,⟨_,rfl,rfl⟩,O⟩ ⟨⟨_,rfl,rfl⟩,⟨_,rfl,rfl⟩,O⟩ O
         ·refine E1 ?_
          repeat(first|refine D5 ?_|refine D6 ?_|refine D2 J ?_)
          refine A8 (A6 ?_);refine A5 J J J (A9 J gU) ?_;refine B0 ?_;refine C1 ?_
          repeat(first|refine tR ?_|refine bR ?_)
          refine C5 J ?_ O
          rw[T.rows_len] at hc7
          have hke : k=a.kids.length:=by simp at hc7; omega
          subst hke
          rw[List.take_length,hll',List.take_length] at hz
          exact H5 (by rw[hC,hz])
theorem Me (a b : T) (ha : a.size≤2000000) (hb : b.size≤2000000) : Ctr sys 54 [xm a,xm b] [] (xb (a.cmp b == 0)) none []:=by
 refine D1 Tryz.func54 J J J J J J ?_;refine A8 (A6 ?_);refine C3 J (D8 J J J J) ?_;refine C3 J (D8 J J J J) ?_;refine A5 J J J (A9 J gU) ?_;refine B0 ?_;refine A8 (A6 ?_);refine A5 J J J (B8 J gU J J J J J) ?_;refine A5 J J J (B8 J gU J J J J J) ?_;refine C7 J J J J J J gU gU (Oc _ a b (Nat.le_refl _) ha hb) J ?_;refine A5 J J J (B7 J J gU gU J) ?_;refine A5 J J J (A9 J gU) ?_;refine B0 ?_;refine C1 ?_
 repeat(first|refine tR ?_|refine bR ?_)
 refine C5 J ?_ O
 rfl
end Go.Proofs.YteidahabkfgfjaaGreat
namespace Go.Proofs.YteidahabkfgfjaaGreat
open Go Go.Abs
def Fn (a b : List T) : Bool:=decide (a.length=b.length) && (T.cmps a b == 0)
def uCs (a b : List T) (k : Nat) : St:={ t:=[(0,true,xl a),(1,true,xl b),(5,true,xi k)],bx:=[],ow:=[] }
theorem Tz (a b : List T) (ha : T.sizes a≤2000000) (hb : T.sizes b≤2000000) : Ctr sys 22 [xl a,xl b] [] (xb (Fn a b)) none []:=by
 have hls:=T.len_sizes a
 refine D1 Tryz.func22 J J J J J J ?_;refine A8 (A6 ?_);refine A5 J J J (A9 J gU) ?_;refine B0 ?_;refine A8 ?_;refine A8 (A6 ?_);refine A5 J J J (A7 J gU) ?_;refine E0 J J J J J gU J J ?_ (fun hh=>by simp at hh); intro hlen;refine A5 J J J (A7 J gU) ?_;refine E0 J J J J J gU J J ?_ (fun hh=>by simp at hh); intro hlen;refine A5 J J J (B7 J J gU gU J) ?_;refine B0 ?_;refine B6 (s:=⟨[(0,_,_),(1,_,_),(10,_,_)],[],[],[]⟩) (B4 (⟨U J,U J,U J,O⟩) O O) ?_;refine B9 J (fun hc=>?_) (fun hc=>?_)
 ·refine A8 (A6 ?_)
  refine A5 J J J (A9 J gU) ?_;refine B0 ?_;refine C1 ?_
  repeat(first|refine tR ?_|refine bR ?_)
  refine C5 J ?_ O;refine M3 ?_
  simp only [T.rows_len,bne_iff_ne,ne_eq] at hc
  have : ¬ a.length=b.length:=by omega
  simp [Fn,this]
 ·simp only [T.rows_len,bne_eq_false_iff_eq] at hc
  have hll : a.length=b.length:=by omega
  refine C0 ?_;refine A8 ?_;refine A8 (A6 ?_);refine A5 J J J (A9 J gU) ?_;refine B0 ?_;refine C4 ?_;refine Q1 (uCs a b) (fun k=>k≤a.length∧T.cmps (a.take k) (b.take k)=0) (fun k=>a.length - k) 0 ⟨Nat.zero_le _,by simp [T.cmps]⟩ ?_ ?_
  ·refine B4 ⟨⟨_,rfl,rfl⟩,⟨_,rfl,rfl⟩,⟨_,rfl,rfl⟩,O⟩ O O
  ·rintro k ⟨hk,hz⟩
   refine A8 ?_;refine A8 (A6 ?_);refine A5 J J J (A7 J gU) ?_;refine A5 J J J (A7 J gU) ?_;refine E0 J J J J J gU J J ?_ (fun hh=>by simp at hh); intro hlen;refine A5 J J J (B7 J J gU gU J) ?_;refine B0 ?_;refine B9 J (fun hc7=>?_) (fun hc7=>?_)
   ·rw[T.rows_len] at hc7
    have hlt : k < a.length:=by simpa using hc7
    obtain ⟨x,hx⟩ : ∃ x,a[k]? = some x:=⟨_,List.getElem?_eq_getElem hlt⟩
    obtain ⟨y,hy⟩ : ∃ y,b[k]? = some y:=⟨_,List.getElem?_eq_getElem (by omega)⟩
    have q1:=Rd _ _ _ hx
    have q2:=Rd _ _ _ hy
    refine C0 ?_;refine A8 ?_;refine C4 ?_;refine A8 ?_;refine awp_drawn' (by kernel_rfl) ?_;refine B5 J J J J (A7 J gU) ?_;refine B5 J J J J (A7 J gU) ?_;refine B5 J J J J (C2 J J gU gU J J J (fun _=>T.rows_get hx)) ?_;refine B5 J J J J (D4 J gU J J J J) ?_;refine B5 J J J J (A7 J gU) ?_;refine B5 J J J J (A7 J gU) ?_;refine B5 J J J J (C2 J J gU gU J J J (fun _=>T.rows_get hy)) ?_;refine B5 J J J J (D4 J gU J J J J) ?_;refine E9 J J J J J J J gU gU (Me x y (by omega) (by omega)) J ?_;refine B5 J J J J (F9 J gU) ?_;refine F6 (by kernel_rfl) ?_;refine B6 (s:=⟨[(0,_,_),(1,_,_),(5,_,_),(26,_,_)],[],[],[]⟩) (B4 (⟨U J,U J,U J,U J,O⟩) O O) ?_;refine B9 J (fun hc8=>?_) (fun hc8=>?_)
    ·refine A8 (A6 ?_)
     refine A5 J J J (A9 J gU) ?_;refine B0 ?_;refine C1 ?_
     repeat(first|refine tR ?_|refine bR ?_)
     refine C5 J ?_ O
     have hne : x.cmp y≠0:=by simpa using hc8
     refine M3 ?_
     rw[Fn,T.cmps_hit _ _ _ _ _ hx hy hz hne]
     simp [hne]
    ·refine C0 ?_
     refine A6 ?_;refine A5 J J J (A7 J gU) ?_;refine A5 J J J (D0 J J gU gU J (IntWalk.i64_in _ (by omega))) ?_;refine A5 J J J (A9 J gU) ?_;refine B0 ?_;refine ⟨k + 1,⟨by omega,T.cmps_step _ _ _ _ _ hx hy hz (by simpa using hc8)⟩,by omega,?_⟩;refine B4 ⟨⟨_,rfl,rfl⟩,⟨_,rfl,rfl⟩,⟨_,rfl,rfl⟩,O⟩ O O
   ·refine E1 ?_
    repeat(first|refine D5 ?_|refine D6 ?_|refine D2 J ?_)
    refine A8 (A6 ?_);refine A5 J J J (A9 J gU) ?_;refine B0 ?_;refine C1 ?_
    repeat(first|refine tR ?_|refine bR ?_)
    refine C5 J ?_ O
    rw[T.rows_len] at hc7
    have hke : k=a.length:=by simp at hc7; omega
    subst hke
    rw[List.take_length,hll,List.take_length] at hz
    refine M3 ?_
    simp [Fn,hll,hz]
theorem el_inj {n n' : Nar} : n.el=n'.el ↔ n.name=n'.name∧n.roles=n'.roles∧n.fresh=n'.fresh∧n.tags=n'.tags∧n.steps.map Sp.el=n'.steps.map Sp.el∧n.goals.map Gl.el=n'.goals.map Gl.el:=by
 cases n; cases n'
 simp [Nar.el]
theorem map_none {α β : Type} (f : Itm→List β) (g : α→Itm) (hf : ∀ x,f (g x)=[]) (l : List α) : (l.map g).flatMap f=[]:=by
 rw[List.flatMap_eq_nil_iff]
 intro i hi
 obtain ⟨x,_,rfl⟩:=List.mem_map.1 hi
 exact hf x
theorem Gx : ∀ (l : List UInt8),Op.bytesLess l l=false
 | []=>rfl
 | x :: xs=>by
  have := Gx xs
  simp [Op.bytesLess,this]
theorem Pa (a : Int) : M5 a a=0:=by simp [M5]
mutual
theorem T.cmp_self : ∀ a : T,a.cmp a=0
 | .mk k n s ks=>by
  have h0 : T.cmp0 (.mk k n s ks) (.mk k n s ks)=0:=by simp [T.cmp0,Pa,Gx]
  rw[T.cmp,if_neg (by simp [h0])]
  exact T.cmps_self ks
theorem T.cmps_self : ∀ l : List T,T.cmps l l=0
 | []=>rfl
 | x :: xs=>by
  rw[T.cmps,if_neg (by simp [T.cmp_self x])]
  exact T.cmps_self xs
end
theorem Ol (a b : List Int) (h : a=b) : Ctr sys 15 [xis a,xis b] [] (xb true) none []:=by
 have la:=D3 a
 have lb:=D3 b
 have hl : a.length=b.length:=by rw[h]
 refine D1 Tryz.func15 J J J J J J ?_;refine A8 (A6 ?_);refine A5 J J J (A9 J gU) ?_;refine B0 ?_;refine A8 ?_;refine A8 (A6 ?_);refine A5 J J J (A7 J gU) ?_;refine E0 J J J J J gU J J ?_ (fun hh=>by simp at hh); intro hlen;refine A5 J J J (A7 J gU) ?_;refine E0 J J J J J gU J J ?_ (fun hh=>by simp at hh); intro hlen;refine A5 J J J (B7 J J gU gU J) ?_;refine B0 ?_;refine B6 (s:=⟨[(0,_,_),(1,_,_),(10,_,_)],[],[],[]⟩) (B4 (⟨U J,U J,U J,O⟩) O O) ?_;refine B9 J (fun hc=>?_) (fun hc=>?_)
 ·try simp only [nn,D3] at hc
  exact absurd (by omega) hc
 ·try simp only [nn,D3] at hc
  refine C0 ?_;refine A8 ?_;refine A8 (A6 ?_);refine A5 J J J (A7 J gU) ?_;refine E0 J J J J J gU J J ?_ (fun hh=>by simp at hh); intro hlen;refine A5 J J J (A7 J gU) ?_;refine B0 ?_;refine C4 ?_;refine F2 (ι:=Nat) { t:=[(0,_,_),(1,_,_),(12,_,_)],bx:=[],ow:=[] } (fun k=>[(13,true,xi (k : Int))]) (fun k=>[]) (fun k=>k≤a.length) (fun k=>a.length - k) (0) (by simp) (B4 (⟨U J,U J,U J,U J,O⟩) O O) ?_
  intro k hok
  dsimp only [List.cons_append,List.nil_append]
  refine A8 (A6 ?_);refine A5 J J J (B7 J J gU gU J) ?_;refine B0 ?_;refine A8 ?_;refine B9 J (fun hc2=>?_) (fun hc2=>?_)
  ·try simp only [nn,D3] at hc2
   refine C0 ?_;refine A8 ?_;refine C4 ?_;refine A8 (A6 ?_);refine A5 J J J (A7 J gU) ?_;refine A5 J J J (A9 J gU) ?_;refine B0 ?_;refine A8 ?_;refine awp_drawn' (by kernel_rfl) ?_;refine B5 J J J J (A7 J gU) ?_;refine B5 J J J J (A7 J gU) ?_;refine B5 J J J J (C2 J J gU gU J J J (fun hh=>Vo (by first|omega|(simp at hh ⊢; omega)))) ?_;refine B5 J J J J (E4 J gU J J J) ?_;refine B5 J J J J (A7 J gU) ?_;refine B5 J J J J (A7 J gU) ?_;refine B5 J J J J (C2 J J gU gU J J J (fun hh=>Vo (by first|omega|(simp at hh ⊢; omega)))) ?_;refine B5 J J J J (E4 J gU J J J) ?_;refine B5 J J J J (B7 J J gU gU J) ?_;refine F6 (by kernel_rfl) ?_;refine B6 (s:=⟨[(0,_,_),(1,_,_),(12,_,_),(13,_,_),(24,_,_)],[],[],[]⟩) (B4 (⟨U J,U J,U J,U J,U J,O⟩) O O) ?_;refine B9 J (fun hc3=>?_) (fun hc3=>?_)
   ·try simp only [nn,D3] at hc3
    exact absurd (by rw[h]) hc3
   ·try simp only [nn,D3] at hc3
    refine C0 ?_;refine A6 ?_;refine A5 J J J (D0 J J gU gU J (IntWalk.i64_in _ (by omega))) ?_;refine A5 J J J (A7 J gU) ?_;refine B0 ?_;refine ⟨k + 1,?_,?_,B4 (⟨⟨_,rfl,?_⟩,⟨U J,U J,U J,O⟩⟩) O O⟩
    all_goals (first|rfl|omega)
  ·try simp only [nn,D3] at hc2
   refine E1 ?_
   repeat(first|refine D5 ?_|refine D6 ?_|refine D2 J ?_)
   refine A8 (A6 ?_);refine A5 J J J (A9 J gU) ?_;refine B0 ?_;refine C1 ?_
   repeat(first|refine tR ?_|refine bR ?_)
   refine C5 J ?_ O
   rfl
theorem We {α : Type} {f : α→α} {d : α} {a b : List α} (h : a.map f=b.map f) {k : Nat} (hk : k < a.length) : f (a.getD k d)=f (b.getD k d):=by
 have hl : a.length=b.length:=by simpa using congrArg List.length h
 have := congrArg (fun l=>l[k]?) h
 rw[List.getElem?_map,List.getElem?_map,List.getElem?_eq_getElem hk,List.getElem?_eq_getElem (hl ▸ hk)] at this
 rw[List.getD_eq_getElem?_getD,List.getD_eq_getElem?_getD,List.getElem?_eq_getElem hk,List.getElem?_eq_getElem (hl ▸ hk)]
 simpa using this
theorem Ts (a : List T) : Fn a a=true:=by simp [Fn,T.cmps_self]
theorem uBp {l : List Gl} (h : ∀ g ∈ l,T.sizes g.data≤900000) {k : Nat} (hk : k < l.length) : T.sizes (l.getD k default).data≤900000:=by
 apply h
 rw[List.getD_eq_getElem?_getD,List.getElem?_eq_getElem hk]; exact List.getElem_mem _
theorem uA0 {l : List Sp} (h : ∀ s ∈ l,s.msg.size≤900000) {k : Nat} (hk : k < l.length) : (l.getD k default).msg.size≤900000:=by
 apply h
 rw[List.getD_eq_getElem?_getD,List.getElem?_eq_getElem hk]; exact List.getElem_mem _
theorem Kh (a b : List Gl) (h : a.map Gl.el=b.map Gl.el) (ha : ∀ g ∈ a,T.sizes g.data≤900000) : Ctr sys 60 [.v (.c (.sl 5 (Gl.rows a))), .v (.c (.sl 5 (Gl.rows b)))] [] (xb true) none []:=by
 have la:=Gl.rows_len a
 have lb:=Gl.rows_len b
 have hl : a.length=b.length:=by simpa using congrArg List.length h
 refine D1 Tryz.func60 J J J J J J ?_;refine A8 (A6 ?_);refine A5 J J J (A9 J gU) ?_;refine B0 ?_;refine A8 ?_;refine A8 (A6 ?_);refine A5 J J J (A7 J gU) ?_;refine E0 J J J J J gU J J ?_ (fun hh=>by simp at hh); intro hlen;refine A5 J J J (A7 J gU) ?_;refine E0 J J J J J gU J J ?_ (fun hh=>by simp at hh); intro hlen;refine A5 J J J (B7 J J gU gU J) ?_;refine B0 ?_;refine B6 (s:=⟨[(0,_,_),(1,_,_),(10,_,_)],[],[],[]⟩) (B4 (⟨U J,U J,U J,O⟩) O O) ?_;refine B9 J (fun hc=>?_) (fun hc=>?_)
 ·try simp only [nn,B3,nq] at hc
  exact absurd (by omega) hc
 ·try simp only [nn,B3,nq] at hc
  refine C0 ?_;refine A8 ?_;refine A8 (A6 ?_);refine A5 J J J (A9 J gU) ?_;refine B0 ?_;refine C4 ?_;refine F2 (ι:=Nat) { t:=[(0,_,_),(1,_,_)],bx:=[],ow:=[] } (fun k=>[(5,true,xi (k : Int))]) (fun k=>[]) (fun k=>k≤a.length) (fun k=>a.length - k) (0) (by simp) (B4 (⟨U J,U J,U J,O⟩) O O) ?_
  intro k hok
  dsimp only [List.cons_append,List.nil_append]
  refine A8 ?_;refine A8 (A6 ?_);refine A5 J J J (A7 J gU) ?_;refine A5 J J J (A7 J gU) ?_;refine E0 J J J J J gU J J ?_ (fun hh=>by simp at hh); intro hlen;refine A5 J J J (B7 J J gU gU J) ?_;refine B0 ?_;refine B9 J (fun hc2=>?_) (fun hc2=>?_)
  ·try simp only [nn,B3,nq] at hc2
   have hlt : k < a.length:=by omega
   have e:=We (d:=default) h hlt
   have e1 : (a.getD k default).kind=(b.getD k default).kind:=(by have q:=congrArg Gl.kind e; exact q)
   have e2 : (a.getD k default).role=(b.getD k default).role:=(by have q:=congrArg Gl.role e; exact q)
   have e3 : (a.getD k default).wth=(b.getD k default).wth:=(by have q:=congrArg Gl.wth e; exact q)
   have e4 : (a.getD k default).data=(b.getD k default).data:=(by have q:=congrArg Gl.data e; exact q)
   have z1:=uBp ha hlt
   have z2 : T.sizes (b.getD k default).data≤900000:=by rw[← e4]; exact z1
   refine C0 ?_;refine A8 ?_;refine C4 ?_;refine A8 ?_;refine awp_drawn' (by kernel_rfl) ?_;refine B5 J J J J (A7 J gU) ?_;refine B5 J J J J (A7 J gU) ?_;refine B5 J J J J (C2 J J gU gU J J J (fun hh=>Gl.rows_at (by first|omega|(simp at hh ⊢; omega)))) ?_;refine B5 J J J J (F4 J gU J J) ?_;refine B5 J J J J (E4 J gU J J J) ?_;refine B5 J J J J (A7 J gU) ?_;refine B5 J J J J (A7 J gU) ?_;refine B5 J J J J (C2 J J gU gU J J J (fun hh=>Gl.rows_at (by first|omega|(simp at hh ⊢; omega)))) ?_;refine B5 J J J J (F4 J gU J J) ?_;refine B5 J J J J (E4 J gU J J J) ?_;refine B5 J J J J (B7 J J gU gU J) ?_;refine B5 J J J J (A7 J gU) ?_;refine B5 J J J J (A7 J gU) ?_;refine B5 J J J J (A7 J gU) ?_;refine B5 J J J J (C2 J J (fun hh=>hh) (fun hh=>hh) J J J (fun hh=>Gl.rows_at (by first|omega|(simp at hh ⊢; omega)))) ?_;refine B5 J J J J (F4 J (fun hh=>hh) J J) ?_;refine B5 J J J J (E4 J (fun hh=>hh) J J J) ?_;refine B5 J J J J (A7 J gU) ?_;refine B5 J J J J (A7 J gU) ?_
   refine B5 J J J J (C2 J J (fun hh=>hh) (fun hh=>hh) J J J (fun hh=>Gl.rows_at (by first|omega|(simp at hh ⊢; omega)))) ?_;refine B5 J J J J (F4 J (fun hh=>hh) J J) ?_;refine B5 J J J J (E4 J (fun hh=>hh) J J J) ?_;refine B5 J J J J (G0 J J (fun hh=>hh) (fun hh=>hh) J) ?_;refine B5 J J J J (E5 J J gU (fun _ hi=>gP J hi)) ?_;refine B5 J J J J (A7 J gU) ?_;refine B5 J J J J (A7 J gU) ?_;refine B5 J J J J (A7 J gU) ?_;refine B5 J J J J (C2 J J (fun hh=>hh) (fun hh=>hh) J J J (fun hh=>Gl.rows_at (by first|omega|(simp at hh ⊢; omega)))) ?_;refine B5 J J J J (F4 J (fun hh=>hh) J J) ?_;refine B5 J J J J (E4 J (fun hh=>hh) J J J) ?_;refine B5 J J J J (A7 J gU) ?_;refine B5 J J J J (A7 J gU) ?_;refine B5 J J J J (C2 J J (fun hh=>hh) (fun hh=>hh) J J J (fun hh=>Gl.rows_at (by first|omega|(simp at hh ⊢; omega)))) ?_;refine B5 J J J J (F4 J (fun hh=>hh) J J) ?_;refine B5 J J J J (E4 J (fun hh=>hh) J J J) ?_;refine B5 J J J J (G0 J J (fun hh=>hh) (fun hh=>hh) J) ?_;refine B5 J J J J (E5 J J gU (fun _ hi=>gP J hi)) ?_
   refine B5 J J J J (A7 J gU) ?_;refine B5 J J J J (A7 J gU) ?_;refine B5 J J J J (A7 J gU) ?_;refine B5 J J J J (C2 J J (fun hh=>hh) (fun hh=>hh) J J J (fun hh=>Gl.rows_at (by first|omega|(simp at hh ⊢; omega)))) ?_;refine B5 J J J J (F4 J (fun hh=>hh) J J) ?_;refine B5 J J J J (E4 J (fun hh=>hh) J J J) ?_;refine B5 J J J J (A7 J gU) ?_;refine B5 J J J J (A7 J gU) ?_;refine B5 J J J J (C2 J J (fun hh=>hh) (fun hh=>hh) J J J (fun hh=>Gl.rows_at (by first|omega|(simp at hh ⊢; omega)))) ?_;refine B5 J J J J (F4 J (fun hh=>hh) J J) ?_;refine B5 J J J J (E4 J (fun hh=>hh) J J J) ?_;refine E9 J J J J J J J gU (fun hh=>gA ((fun hh=>hh) hh) (gA ((fun hh=>hh) hh) (rfl))) (Tz _ _ (by omega) (by omega)) J ?_;refine B5 J J J J (F9 J (fun hh=>hh)) ?_;refine B5 J J J J (E5 J J gU (fun _ hi=>gP J hi)) ?_;refine F6 (by kernel_rfl) ?_;refine B6 (s:=⟨[(0,_,_),(1,_,_),(5,_,_),(67,_,_)],[],[],[]⟩) (B4 (⟨U J,U J,U J,U J,O⟩) O O) ?_;refine B9 J (fun hc3=>?_) (fun hc3=>?_)
   ·exfalso
    simp only [List.getD_eq_getElem?_getD] at e1 e2 e3 e4
    simp [Gl.cells,e1,e2,e3,e4,Ts] at hc3
   ·refine C0 ?_
    refine A6 ?_;refine A5 J J J (A7 J gU) ?_;refine A5 J J J (D0 J J gU gU J (IntWalk.i64_in _ (by omega))) ?_;refine A5 J J J (A9 J gU) ?_;refine B0 ?_;refine ⟨k + 1,?_,?_,B4 (⟨⟨_,rfl,?_⟩,⟨U J,U J,O⟩⟩) O O⟩
    all_goals (first|rfl|omega)
  ·try simp only [nn,B3,nq] at hc2
   refine E1 ?_
   repeat(first|refine D5 ?_|refine D6 ?_|refine D2 J ?_)
   refine A8 (A6 ?_);refine A5 J J J (A9 J gU) ?_;refine B0 ?_;refine C1 ?_
   repeat(first|refine tR ?_|refine bR ?_)
   refine C5 J ?_ O
   rfl
set_option maxHeartbeats 4000000 in
theorem Pb (n m : Nar) (h : n.el=m.el) (hs : ∀ s ∈ n.steps,s.msg.size≤900000) (hg : ∀ g ∈ n.goals,T.sizes g.data≤900000) : Ctr sys 27 [xn n,xn m] [] (xb true) none []:=by
 obtain ⟨e1,e2,e3,e4,e5,e6⟩:=el_inj.1 h
 have l1:=B3 n.roles
 have l2:=B3 m.roles
 have l3:=Fs.rows_len n.fresh
 have l4:=Fs.rows_len m.fresh
 have l5:=Sp.rows_len n.steps
 have l6:=Sp.rows_len m.steps
 have h5 : n.steps.length=m.steps.length:=by simpa using congrArg List.length e5
 have h3 : n.fresh.length=m.fresh.length:=by rw[e3]
 refine D1 Tryz.func27 J J J J J J ?_;refine A8 (A6 ?_);refine C3 J (D8 J J J J) ?_;refine C3 J (D8 J J J J) ?_;refine A5 J J J (A9 J gU) ?_;refine B0 ?_;refine A8 ?_;refine A8 (A6 ?_);refine A5 J J J (B1 J gU J J) ?_;refine A5 J J J (B2 J gU J J J J) ?_;refine A5 J J J (B1 J gU J J) ?_;refine A5 J J J (B2 J gU J J J J) ?_;refine A5 J J J (G0 J J gU gU J) ?_;refine A5 J J J (A7 J gU) ?_;refine A5 J J J (B1 J gU J J) ?_;refine A5 J J J (B2 J (fun hh=>hh) J J J J) ?_;refine A5 J J J (B1 J gU J J) ?_;refine H3 (s:=⟨[(2,_,_),(3,_,_),(12,_,_),(14,_,_),(15,_,_)],[(.l 2,_),(.l 3,_)],[],[]⟩) (B4 (⟨U J,U J,U J,U J,U J,O⟩) (⟨U J,U J,O⟩) O) ?_;refine A5 J J J (B2 J (fun hh=>hh) J J J J) ?_;refine C7 J J J J J J gU (fun hh=>gA ((fun hh=>hh) hh) (gA ((fun hh=>hh) hh) (rfl))) (Dn _ _) J ?_;refine A5 J J J (F9 J (fun hh=>hh)) ?_;refine A5 J J J (E5 J J gU (fun _ hi=>gP J hi)) ?_;refine A5 J J J (A7 J gU) ?_
 refine A5 J J J (B1 J gU J J) ?_;refine A5 J J J (B2 J (fun hh=>hh) J J J J) ?_;refine A5 J J J (B1 J gU J J) ?_;refine A5 J J J (B2 J (fun hh=>hh) J J J J) ?_;refine C7 J J J J J J gU (fun hh=>gA ((fun hh=>hh) hh) (gA ((fun hh=>hh) hh) (rfl))) (Dn _ _) J ?_;refine A5 J J J (F9 J (fun hh=>hh)) ?_;refine A5 J J J (E5 J J gU (fun _ hi=>gP J hi)) ?_;refine H3 (s:=⟨[(2,_,_),(3,_,_),(27,_,_)],[(.l 2,_),(.l 3,_)],[],[]⟩) (B4 (⟨U J,U J,U J,O⟩) (⟨U J,U J,O⟩) O) ?_;refine A5 J J J (A7 J gU) ?_;refine A5 J J J (B1 J gU J J) ?_;refine A5 J J J (B2 J (fun hh=>hh) J J J J) ?_;refine A5 J J J (G8 J (fun hh=>hh) J J) ?_;refine A5 J J J (B1 J gU J J) ?_;refine A5 J J J (B2 J (fun hh=>hh) J J J J) ?_;refine A5 J J J (G8 J (fun hh=>hh) J J) ?_;refine A5 J J J (B7 J J (fun hh=>hh) (fun hh=>hh) J) ?_;refine A5 J J J (E5 J J gU (fun _ hi=>gP J hi)) ?_;refine A5 J J J (A7 J gU) ?_;refine A5 J J J (B1 J gU J J) ?_;refine A5 J J J (B2 J (fun hh=>hh) J J J J) ?_
 refine H3 (s:=⟨[(2,_,_),(3,_,_),(37,_,_),(39,_,_)],[(.l 2,_),(.l 3,_)],[],[]⟩) (B4 (⟨U J,U J,U J,U J,O⟩) (⟨U J,U J,O⟩) O) ?_;refine A5 J J J (G8 J (fun hh=>hh) J J) ?_;refine A5 J J J (B1 J gU J J) ?_;refine A5 J J J (B2 J (fun hh=>hh) J J J J) ?_;refine A5 J J J (G8 J (fun hh=>hh) J J) ?_;refine A5 J J J (B7 J J (fun hh=>hh) (fun hh=>hh) J) ?_;refine A5 J J J (E5 J J gU (fun _ hi=>gP J hi)) ?_;refine B0 ?_;refine B6 (s:=⟨[(2,_,_),(3,_,_),(45,_,_)],[(.l 2,_),(.l 3,_)],[],[]⟩) (B4 (⟨U J,U J,U J,O⟩) (⟨U J,U J,O⟩) O) ?_;refine B9 J (fun hc=>?_) (fun hc=>?_)
 ·exfalso
  simp [uCr,e1,e2,e4,l3,l4,l5,l6,h5,h3] at hc
 ·refine C0 ?_
  refine A8 ?_;refine A8 (A6 ?_);refine A5 J J J (A9 J gU) ?_;refine B0 ?_;refine C4 ?_;refine F2 (ι:=Nat) { t:=[(2,_,_),(3,_,_)],bx:=[(.l 2,_),(.l 3,_)],ow:=[] } (fun k=>[(5,true,xi (k : Int))]) (fun k=>[]) (fun k=>k≤n.fresh.length) (fun k=>n.fresh.length - k) (0) (by simp) (B4 (⟨U J,U J,U J,O⟩) (⟨U J,U J,O⟩) O) ?_
  intro k hoka
  dsimp only [List.cons_append,List.nil_append]
  refine A8 ?_;refine A8 (A6 ?_);refine A5 J J J (A7 J gU) ?_;refine A5 J J J (B1 J gU J J) ?_;refine A5 J J J (B2 J gU J J J J) ?_;refine E0 J J J J J gU J J ?_ (fun hh=>by simp at hh); intro hlen;refine A5 J J J (B7 J J gU gU J) ?_;refine B0 ?_;refine B6 (s:=⟨[(2,_,_),(3,_,_),(5,_,_),(50,_,_)],[(.l 2,_),(.l 3,_)],[],[]⟩) (B4 (⟨U J,U J,U J,U J,O⟩) (⟨U J,U J,O⟩) O) ?_;refine B9 J (fun hc2=>?_) (fun hc2=>?_)
  ·try simp only [nn,B3,nq] at hc2
   refine C0 ?_;refine A8 ?_;refine C4 ?_;refine A8 ?_;refine awp_drawn' (by kernel_rfl) ?_;refine B5 J J J J (B1 J gU J J) ?_;refine G4 J J J J J J J gU J J J J ?_;refine B5 J J J J (A7 J gU) ?_;refine B5 J J J J (C2 J J gU gU J J J (fun hh=>Fs.rows_at (by first|omega|(simp at hh ⊢; omega)))) ?_;refine B5 J J J J (D4 J gU J J J J) ?_;refine B5 J J J J (B1 J gU J J) ?_;refine G4 J J J J J J J gU J J J J ?_;refine B5 J J J J (A7 J gU) ?_;refine B5 J J J J (C2 J J gU gU J J J (fun hh=>Fs.rows_at (by first|omega|(simp at hh ⊢; omega)))) ?_;refine B5 J J J J (D4 J gU J J J J) ?_;refine B5 J J J J (Kq (ks:=[2,2,1]) (.inr ⟨rfl,rfl⟩) J J gU gU Tryz.underlying79 (by kernel_rfl) (by kernel_rfl) (by kernel_rfl) J) ?_;refine F6 (by kernel_rfl) ?_;refine B6 (s:=⟨[(2,_,_),(3,_,_),(5,_,_),(63,_,_)],[(.l 2,_),(.l 3,_)],[],[]⟩) (B4 (⟨U J,U J,U J,U J,O⟩) (⟨U J,U J,O⟩) O) ?_;refine B9 J (fun hc3=>?_) (fun hc3=>?_)
   ·exfalso
    simp [e3] at hc3
   ·refine C0 ?_
    refine A6 ?_;refine A5 J J J (A7 J gU) ?_;refine A5 J J J (D0 J J gU gU J (IntWalk.i64_in _ (by omega))) ?_;refine A5 J J J (A9 J gU) ?_;refine B0 ?_;refine ⟨k + 1,?_,?_,B4 (⟨⟨_,rfl,?_⟩,⟨U J,U J,O⟩⟩) (⟨U J,U J,O⟩) O⟩
    all_goals (first|rfl|omega)
  ·try simp only [nn,B3,nq] at hc2
   refine E1 ?_
   repeat(first|refine D5 ?_|refine D6 ?_|refine D2 J ?_)
   refine A8 ?_;refine A8 (A6 ?_);refine A5 J J J (A9 J gU) ?_;refine B0 ?_;refine C4 ?_;refine F2 (ι:=Nat) { t:=[(2,_,_),(3,_,_)],bx:=[(.l 2,_),(.l 3,_)],ow:=[] } (fun k=>[(6,true,xi (k : Int))]) (fun k=>[]) (fun k=>k≤n.steps.length) (fun k=>n.steps.length - k) (0) (by simp) (B4 (⟨U J,U J,U J,O⟩) (⟨U J,U J,O⟩) O) ?_
   intro k hokb
   dsimp only [List.cons_append,List.nil_append]
   refine A8 ?_;refine A8 (A6 ?_);refine A5 J J J (A7 J gU) ?_;refine A5 J J J (B1 J gU J J) ?_;refine A5 J J J (B2 J gU J J J J) ?_;refine E0 J J J J J gU J J ?_ (fun hh=>by simp at hh); intro hlen;refine A5 J J J (B7 J J gU gU J) ?_;refine B0 ?_;refine B6 (s:=⟨[(2,_,_),(3,_,_),(6,_,_),(68,_,_)],[(.l 2,_),(.l 3,_)],[],[]⟩) (B4 (⟨U J,U J,U J,U J,O⟩) (⟨U J,U J,O⟩) O) ?_;refine B9 J (fun hc4=>?_) (fun hc4=>?_)
   ·try simp only [nn,B3,nq] at hc4
    have hlt : k < n.steps.length:=by omega
    have e:=We (d:=default) e5 hlt
    have f1 : (n.steps.getD k default).frm=(m.steps.getD k default).frm:=(by have q:=congrArg Sp.frm e; exact q)
    have f2 : (n.steps.getD k default).dst=(m.steps.getD k default).dst:=(by have q:=congrArg Sp.dst e; exact q)
    have f3 : (n.steps.getD k default).msg=(m.steps.getD k default).msg:=(by have q:=congrArg Sp.msg e; exact q)
    have z1:=uA0 hs hlt
    have z2 : (m.steps.getD k default).msg.size≤900000:=by rw[← f3]; exact z1
    refine C0 ?_;refine A8 ?_;refine C4 ?_;refine A8 ?_;refine awp_drawn' (by kernel_rfl) ?_;refine B5 J J J J (B1 J gU J J) ?_;refine G4 J J J J J J J gU J J J J ?_;refine B5 J J J J (A7 J gU) ?_;refine B5 J J J J (C2 J J gU gU J J J (fun hh=>Sp.rows_at (by first|omega|(simp at hh ⊢; omega)))) ?_;refine B5 J J J J (F4 J gU J J) ?_;refine B5 J J J J (E4 J gU J J J) ?_;refine B5 J J J J (B1 J gU J J) ?_;refine G4 J J J J J J J gU J J J J ?_;refine B5 J J J J (A7 J gU) ?_;refine B5 J J J J (C2 J J gU gU J J J (fun hh=>Sp.rows_at (by first|omega|(simp at hh ⊢; omega)))) ?_;refine B5 J J J J (F4 J gU J J) ?_;refine B5 J J J J (E4 J gU J J J) ?_;refine B5 J J J J (G0 J J gU gU J) ?_;refine B5 J J J J (A7 J gU) ?_;refine B5 J J J J (B1 J gU J J) ?_;refine G4 J J J J J J J (fun hh=>hh) J J J J ?_;refine B5 J J J J (A7 J gU) ?_;refine B5 J J J J (C2 J J (fun hh=>hh) (fun hh=>hh) J J J (fun hh=>Sp.rows_at (by first|omega|(simp at hh ⊢; omega)))) ?_
    refine B5 J J J J (F4 J (fun hh=>hh) J J) ?_;refine B5 J J J J (E4 J (fun hh=>hh) J J J) ?_;refine B5 J J J J (B1 J gU J J) ?_;refine G4 J J J J J J J (fun hh=>hh) J J J J ?_;refine B5 J J J J (A7 J gU) ?_;refine B5 J J J J (C2 J J (fun hh=>hh) (fun hh=>hh) J J J (fun hh=>Sp.rows_at (by first|omega|(simp at hh ⊢; omega)))) ?_;refine B5 J J J J (F4 J (fun hh=>hh) J J) ?_;refine B5 J J J J (E4 J (fun hh=>hh) J J J) ?_;refine B5 J J J J (G0 J J (fun hh=>hh) (fun hh=>hh) J) ?_;refine B5 J J J J (E5 J J gU (fun _ hi=>gP J hi)) ?_;refine B5 J J J J (A7 J gU) ?_;refine B5 J J J J (B1 J gU J J) ?_;refine G4 J J J J J J J (fun hh=>hh) J J J J ?_;refine B5 J J J J (A7 J gU) ?_;refine B5 J J J J (C2 J J (fun hh=>hh) (fun hh=>hh) J J J (fun hh=>Sp.rows_at (by first|omega|(simp at hh ⊢; omega)))) ?_;refine B5 J J J J (F4 J (fun hh=>hh) J J) ?_;refine B5 J J J J (D4 J (fun hh=>hh) J J J J) ?_;refine B5 J J J J (B1 J gU J J) ?_;refine G4 J J J J J J J (fun hh=>hh) J J J J ?_
    refine B5 J J J J (A7 J gU) ?_;refine B5 J J J J (C2 J J (fun hh=>hh) (fun hh=>hh) J J J (fun hh=>Sp.rows_at (by first|omega|(simp at hh ⊢; omega)))) ?_;refine B5 J J J J (F4 J (fun hh=>hh) J J) ?_;refine B5 J J J J (D4 J (fun hh=>hh) J J J J) ?_;refine E9 J J J J J J J gU (fun hh=>gA ((fun hh=>hh) hh) (gA ((fun hh=>hh) hh) (rfl))) (Me _ _ (by omega) (by omega)) J ?_;refine B5 J J J J (F9 J (fun hh=>hh)) ?_;refine B5 J J J J (E5 J J gU (fun _ hi=>gP J hi)) ?_;refine F6 (by kernel_rfl) ?_;refine B6 (s:=⟨[(2,_,_),(3,_,_),(6,_,_),(114,_,_)],[(.l 2,_),(.l 3,_)],[],[]⟩) (B4 (⟨U J,U J,U J,U J,O⟩) (⟨U J,U J,O⟩) O) ?_;refine B9 J (fun hc5=>?_) (fun hc5=>?_)
    ·exfalso
     simp only [List.getD_eq_getElem?_getD] at f1 f2 f3
     simp [Sp.cells,f1,f2,f3,T.cmp_self] at hc5
    ·refine C0 ?_
     refine A6 ?_;refine A5 J J J (A7 J gU) ?_;refine A5 J J J (D0 J J gU gU J (IntWalk.i64_in _ (by omega))) ?_;refine A5 J J J (A9 J gU) ?_;refine B0 ?_;refine ⟨k + 1,?_,?_,B4 (⟨⟨_,rfl,?_⟩,⟨U J,U J,O⟩⟩) (⟨U J,U J,O⟩) O⟩
     all_goals (first|rfl|omega)
   ·try simp only [nn,B3,nq] at hc4
    refine E1 ?_
    repeat(first|refine D5 ?_|refine D6 ?_|refine D2 J ?_)
    refine A8 (A6 ?_);refine A5 J J J (B1 J gU J J) ?_;refine A5 J J J (B2 J gU J J J J) ?_;refine A5 J J J (B1 J gU J J) ?_;refine A5 J J J (B2 J gU J J J J) ?_;refine C7 J J J J J J gU gU (Kh _ _ e6 hg) J ?_;refine A5 J J J (A9 J gU) ?_;refine B0 ?_;refine C1 ?_
    repeat(first|refine tR ?_|refine bR ?_)
    refine C5 J ?_ O
    rfl
namespace T
mutual
def bud : T→Int→Int
 | mk _ nm _ ks,m=>if m≤0∨40 < nm.length then -1 else buds ks (m - 1)
def buds : List T→Int→Int
 | [],m=>m
 | t :: ts,m=>if bud t m < 0 then -1 else buds ts (bud t m)
end
theorem bud_eq (t : T) (m : Int) : t.bud m=if m≤0∨40 < t.name.length then -1 else buds t.kids (m - 1):=by cases t; rw[bud]; rfl
mutual
theorem uCx : ∀ (t : T) (m : Int),0≤t.bud m→t.bud m + t.size≤m
 | mk _ nm _ ks,m,h=>by
  rw[bud] at h ⊢
  rw[size]
  split at h
  ·omega
  ·rename_i hn
   rw[if_neg hn]
   have := buds_le ks (m - 1) h
   omega
theorem buds_le : ∀ (ts : List T) (m : Int),0≤buds ts m→buds ts m + sizes ts≤m
 | [],m,_=>by rw[buds,sizes]; omega
 | t :: ts,m,h=>by
  rw[buds] at h ⊢
  rw[sizes]
  split at h
  ·omega
  ·rename_i hn
   rw[if_neg hn]
   have h1:=uCx t m (by omega)
   have h2:=buds_le ts (t.bud m) h
   omega
end
theorem buds_step : ∀ (ts : List T) (k : Nat) (x : T) (m : Int),ts[k]? = some x→0≤buds (ts.take k) m→0≤x.bud (buds (ts.take k) m)→buds (ts.take (k + 1)) m=x.bud (buds (ts.take k) m)
 | [],k,x,m,h,_,_=>by simp at h
 | t :: ts,0,x,m,h,h0,hx=>by
  simp at h; subst h
  simp only [List.take_zero,buds] at hx ⊢
  simp only [List.take_succ_cons,List.take_zero,buds]
  rw[if_neg (by omega)]
 | t :: ts,k + 1,x,m,h,h0,hx=>by
  rw[List.take_succ_cons,buds] at h0 hx ⊢
  rw[List.take_succ_cons,buds]
  split at h0
  ·omega
  ·rename_i hn
   rw[if_neg hn] at hx ⊢
   rw[if_neg hn]
   exact buds_step ts k x _ (by simpa using h) h0 hx
theorem buds_hit : ∀ (ts : List T) (k : Nat) (x : T) (m : Int),ts[k]? = some x→0≤buds (ts.take k) m→x.bud (buds (ts.take k) m) < 0→buds ts m = -1
 | [],k,x,m,h,_,_=>by simp at h
 | t :: ts,0,x,m,h,h0,hx=>by
  simp at h; subst h
  simp only [List.take_zero,buds] at hx
  rw[buds,if_pos hx]
 | t :: ts,k + 1,x,m,h,h0,hx=>by
  rw[List.take_succ_cons,buds] at h0 hx
  rw[buds]
  split at h0
  ·omega
  ·rename_i hn
   rw[if_neg hn] at hx ⊢
   exact buds_hit ts k x _ (by simpa using h) h0 hx
end T
def fewB (l : List T) (n : Nat) (m : Int) : Bool:=decide (l.length≤n) && decide (0≤T.buds l m)
theorem Tj {l : List T} {n : Nat} {m : Int} (h : fewB l n m=true) : l.length≤n∧T.sizes l≤m:=by
 simp only [fewB,Bool.and_eq_true,decide_eq_true_eq] at h
 have := T.buds_le l m h.2
 exact ⟨h.1,by omega⟩
def budS (t : T) (m : Int) (k : Nat) : St:={ t:=[(1,true,xi (T.buds (t.kids.take k) (m - 1))),(2,true, .v (.ptr (.l 2) 0)),(5,true,xi k)],bx:=[(.l 2,t.cells)],ow:=[] }
theorem Qp : ∀ (n : Nat) (t : T) (m : Int),m≤n→n≤2000000 → -2000000≤m→Ctr sys 70 [xm t,xi m] [] (xi (t.bud m)) none []:=by
 intro n
 induction n with
 | zero =>
  intro t m hm _ _
  refine D1 Tryz.func70 J J J J J J ?_;refine A8 (A6 ?_);refine C3 J (D8 J J J J) ?_;refine A5 J J J (A9 J gU) ?_;refine B0 ?_;refine A8 ?_;refine A8 (A6 ?_);refine A5 J J J (A7 J gU) ?_;refine A5 J J J (B7 J J gU gU J) ?_;refine A5 J J J (A7 J gU) ?_;refine A5 J J J (B1 J gU J J) ?_;refine A5 J J J (B2 J (fun hh=>hh) J J J J) ?_;refine A5 J J J (M6 J (fun hh=>hh) (Tryz.underlying9)) ?_;refine A5 J J J (B7 J J (fun hh=>hh) gU J) ?_;refine A5 J J J (E5 J J gU (fun _ hi=>gP J hi)) ?_;refine B0 ?_;refine B6 (s:=⟨[(1,_,_),(2,_,_),(13,_,_)],[(.l 2,_)],[],[]⟩) (B4 (⟨U J,U J,U J,O⟩) (⟨U J,O⟩) O) ?_;refine B9 J (fun hc=>?_) (fun hc=>?_)
  ·refine A8 (A6 ?_)
   refine A5 J J J (A9 J gU) ?_;refine B0 ?_;refine C1 ?_
   repeat(first|refine tR ?_|refine bR ?_)
   refine C5 J ?_ O;refine H5 ?_
   rw[T.bud_eq,if_pos (by omega)]
  ·simp only [Bool.or_eq_false_iff,decide_eq_false_iff_not] at hc
   omega
 | succ n ih =>
  intro t m hm hn hm2
  refine D1 Tryz.func70 J J J J J J ?_;refine A8 (A6 ?_);refine C3 J (D8 J J J J) ?_;refine A5 J J J (A9 J gU) ?_;refine B0 ?_;refine A8 ?_;refine A8 (A6 ?_);refine A5 J J J (A7 J gU) ?_;refine A5 J J J (B7 J J gU gU J) ?_;refine A5 J J J (A7 J gU) ?_;refine A5 J J J (B1 J gU J J) ?_;refine A5 J J J (B2 J (fun hh=>hh) J J J J) ?_;refine A5 J J J (M6 J (fun hh=>hh) (Tryz.underlying9)) ?_;refine A5 J J J (B7 J J (fun hh=>hh) gU J) ?_;refine A5 J J J (E5 J J gU (fun _ hi=>gP J hi)) ?_;refine B0 ?_;refine B6 (s:=⟨[(1,_,_),(2,_,_),(13,_,_)],[(.l 2,_)],[],[]⟩) (B4 (⟨U J,U J,U J,O⟩) (⟨U J,O⟩) O) ?_;refine B9 J (fun hc=>?_) (fun hc=>?_)
  ·refine A8 (A6 ?_)
   refine A5 J J J (A9 J gU) ?_;refine B0 ?_;refine C1 ?_
   repeat(first|refine tR ?_|refine bR ?_)
   refine C5 J ?_ O;refine H5 ?_
   simp only [Bool.or_eq_true,decide_eq_true_eq] at hc
   rw[T.bud_eq,if_pos (by omega)]
  ·simp only [Bool.or_eq_false_iff,decide_eq_false_iff_not] at hc
   have hB : t.bud m=T.buds t.kids (m - 1):=by rw[T.bud_eq,if_neg (by omega)]
   refine C0 ?_;refine A8 (A6 ?_);refine A5 J J J (A7 J gU) ?_;refine A5 J J J (D0 J J gU gU J (IntWalk.i64_in _ (by omega))) ?_;refine A5 J J J (A9 J gU) ?_;refine B0 ?_;refine A8 ?_;refine A8 (A6 ?_);refine A5 J J J (A9 J gU) ?_;refine B0 ?_;refine C4 ?_;refine Q1 (budS t m) (fun k=>k≤t.kids.length∧0≤T.buds (t.kids.take k) (m - 1)) (fun k=>t.kids.length - k) 0 ⟨Nat.zero_le _,by simp [T.buds]; omega⟩ ?_ ?_
   ·refine B4 ⟨⟨_,rfl,rfl⟩,⟨_,rfl,rfl⟩,⟨_,rfl,rfl⟩,O⟩ ⟨⟨_,rfl,rfl⟩,O⟩ O
   ·rintro k ⟨hk,hz⟩
    have hbl:=T.buds_le _ _ hz
    refine A8 ?_;refine A8 (A6 ?_);refine A5 J J J (A7 J gU) ?_;refine A5 J J J (B1 J gU J J) ?_;refine A5 J J J (B2 J gU J J J J) ?_;refine E0 J J J J J gU J J ?_ (fun hh=>by simp at hh); intro hlen;refine A5 J J J (B7 J J gU gU J) ?_;refine B0 ?_;refine B6 (s:=⟨[(1,_,_),(2,_,_),(5,_,_),(20,_,_)],[(.l 2,_)],[],[]⟩) (B4 (⟨U J,U J,U J,U J,O⟩) (⟨U J,O⟩) O) ?_;refine B9 J (fun hc2=>?_) (fun hc2=>?_)
    ·rw[T.rows_len] at hlen hc2
     have hlt : k < t.kids.length:=by simpa using hc2
     obtain ⟨x,hx⟩ : ∃ x,t.kids[k]? = some x:=⟨_,List.getElem?_eq_getElem hlt⟩
     refine C0 ?_;refine A8 ?_;refine C4 ?_;refine A8 (A6 ?_);refine A5 J J J (B1 J gU J J) ?_;refine A5 J J J (B2 J gU J J J J) ?_;refine A5 J J J (A7 J gU) ?_;refine A5 J J J (C2 J J gU gU J J J (fun _=>T.rows_get hx)) ?_;refine A5 J J J (D4 J gU J J J J) ?_;refine A5 J J J (A7 J gU) ?_;refine C7 J J J J J J gU gU (ih x _ (by omega) (by omega) (by omega)) J ?_;refine A5 J J J (A9 J gU) ?_;refine B0 ?_;refine B6 (s:=⟨[(1,_,_),(2,_,_),(5,_,_)],[(.l 2,_)],[],[]⟩) (B4 (⟨U J,U J,U J,O⟩) (⟨U J,O⟩) O) ?_;refine A8 (A6 ?_);refine A5 J J J (A7 J gU) ?_;refine A5 J J J (B7 J J gU gU J) ?_;refine B0 ?_;refine B9 J (fun hc3=>?_) (fun hc3=>?_)
     ·refine A8 (A6 ?_)
      refine A5 J J J (A9 J gU) ?_;refine B0 ?_;refine C1 ?_
      repeat(first|refine tR ?_|refine bR ?_)
      refine C5 J ?_ O;refine H5 ?_
      simp only [decide_eq_true_eq] at hc3
      rw[hB,T.buds_hit _ _ _ _ hx hz hc3]
     ·simp only [decide_eq_false_iff_not] at hc3
      have hst:=T.buds_step _ _ _ _ hx hz (by omega)
      refine C0 ?_;refine A6 ?_;refine A5 J J J (A7 J gU) ?_;refine A5 J J J (D0 J J gU gU J (IntWalk.i64_in _ (by omega))) ?_;refine A5 J J J (A9 J gU) ?_;refine B0 ?_;refine ⟨k + 1,⟨by omega,by rw[hst]; omega⟩,by omega,?_⟩;refine B4 ⟨⟨_,rfl,by rw[hst]⟩,⟨_,rfl,rfl⟩,⟨_,rfl,rfl⟩,O⟩ ⟨⟨_,rfl,rfl⟩,O⟩ O
    ·refine E1 ?_
     repeat(first|refine D5 ?_|refine D6 ?_|refine D2 J ?_)
     refine A8 (A6 ?_);refine A5 J J J (A7 J gU) ?_;refine A5 J J J (A9 J gU) ?_;refine B0 ?_;refine C1 ?_
     repeat(first|refine tR ?_|refine bR ?_)
     refine C5 J ?_ O
     rw[T.rows_len] at hc2
     have : k=t.kids.length:=by simp at hc2; omega
     subst this
     exact H5 (by rw[hB,List.take_length])
def fewS (l : List T) (n : Nat) (m : Int) (k : Nat) : St:={ t:=[(0,true,xl l),(2,true,xi (T.buds (l.take k) m)),(7,true,xi k)],bx:=[],ow:=[] }
theorem uBr (l : List T) (n : Nat) (m : Nat) (hm : m≤2000000) : Ctr sys 36 [xl l,xi n,xi m] [] (xb (fewB l n m)) none []:=by
 refine D1 Tryz.func36 J J J J J J ?_;refine A8 (A6 ?_);refine A5 J J J (A9 J gU) ?_;refine B0 ?_;refine A8 ?_;refine A8 (A6 ?_);refine A5 J J J (A7 J gU) ?_;refine E0 J J J J J gU J J ?_ (fun hh=>by simp at hh); intro hlen;refine A5 J J J (A7 J gU) ?_;refine A5 J J J (B7 J J gU gU J) ?_;refine B0 ?_;refine B6 (s:=⟨[(0,_,_),(2,_,_),(11,_,_)],[],[],[]⟩) (B4 (⟨U J,U J,U J,O⟩) O O) ?_;refine B9 J (fun hc=>?_) (fun hc=>?_)
 ·refine A8 (A6 ?_)
  refine A5 J J J (A9 J gU) ?_;refine B0 ?_;refine C1 ?_
  repeat(first|refine tR ?_|refine bR ?_)
  refine C5 J ?_ O;refine M3 ?_
  simp only [T.rows_len,decide_eq_true_eq] at hc
  have : ¬ l.length≤n:=by omega
  simp [fewB,this]
 ·simp only [T.rows_len,decide_eq_false_iff_not] at hc
  have hn : l.length≤n:=by omega
  refine C0 ?_;refine A8 ?_;refine A8 (A6 ?_);refine A5 J J J (A9 J gU) ?_;refine B0 ?_;refine C4 ?_;refine Q1 (fewS l n m) (fun k=>k≤l.length∧0≤T.buds (l.take k) m) (fun k=>l.length - k) 0 ⟨Nat.zero_le _,by simp [T.buds]⟩ ?_ ?_
  ·refine B4 ⟨⟨_,rfl,rfl⟩,⟨_,rfl,rfl⟩,⟨_,rfl,rfl⟩,O⟩ O O
  ·rintro k ⟨hk,hz⟩
   have hbl:=T.buds_le _ _ hz
   refine A8 ?_;refine A8 (A6 ?_);refine A5 J J J (A7 J gU) ?_;refine A5 J J J (A7 J gU) ?_;refine E0 J J J J J gU J J ?_ (fun hh=>by simp at hh); intro hlen;refine A5 J J J (B7 J J gU gU J) ?_;refine B0 ?_;refine B9 J (fun hc2=>?_) (fun hc2=>?_)
   ·rw[T.rows_len] at hlen hc2
    have hlt : k < l.length:=by simpa using hc2
    obtain ⟨x,hx⟩ : ∃ x,l[k]? = some x:=⟨_,List.getElem?_eq_getElem hlt⟩
    refine C0 ?_;refine A8 ?_;refine C4 ?_;refine A8 (A6 ?_);refine A5 J J J (A7 J gU) ?_;refine A5 J J J (A7 J gU) ?_;refine A5 J J J (C2 J J gU gU J J J (fun _=>T.rows_get hx)) ?_;refine A5 J J J (D4 J gU J J J J) ?_;refine A5 J J J (A7 J gU) ?_;refine C7 J J J J J J gU gU (Qp m x _ (by omega) (by omega) (by omega)) J ?_;refine A5 J J J (A9 J gU) ?_;refine B0 ?_;refine B6 (s:=⟨[(0,_,_),(2,_,_),(7,_,_)],[],[],[]⟩) (B4 (⟨U J,U J,U J,O⟩) O O) ?_;refine A8 (A6 ?_);refine A5 J J J (A7 J gU) ?_;refine A5 J J J (B7 J J gU gU J) ?_;refine B0 ?_;refine B9 J (fun hc3=>?_) (fun hc3=>?_)
    ·refine A8 (A6 ?_)
     refine A5 J J J (A9 J gU) ?_;refine B0 ?_;refine C1 ?_
     repeat(first|refine tR ?_|refine bR ?_)
     refine C5 J ?_ O;refine M3 ?_
     simp only [decide_eq_true_eq] at hc3
     simp [fewB,T.buds_hit _ _ _ _ hx hz hc3]
    ·simp only [decide_eq_false_iff_not] at hc3
     have hst:=T.buds_step _ _ _ _ hx hz (by omega)
     refine C0 ?_;refine A6 ?_;refine A5 J J J (A7 J gU) ?_;refine A5 J J J (D0 J J gU gU J (IntWalk.i64_in _ (by omega))) ?_;refine A5 J J J (A9 J gU) ?_;refine B0 ?_;refine ⟨k + 1,⟨by omega,by rw[hst]; omega⟩,by omega,?_⟩;refine B4 ⟨⟨_,rfl,rfl⟩,⟨_,rfl,by rw[hst]⟩,⟨_,rfl,rfl⟩,O⟩ O O
   ·refine E1 ?_
    repeat(first|refine D5 ?_|refine D6 ?_|refine D2 J ?_)
    refine A8 (A6 ?_);refine A5 J J J (A9 J gU) ?_;refine B0 ?_;refine C1 ?_
    repeat(first|refine tR ?_|refine bR ?_)
    refine C5 J ?_ O
    rw[T.rows_len] at hc2
    have : k=l.length:=by simp at hc2; omega
    subst this
    rw[List.take_length] at hz
    exact M3 (by simp [fewB,hn,hz])
end Go.Proofs.YteidahabkfgfjaaGreat
namespace Go.Proofs.YteidahabkfgfjaaGreat
open Go Go.Abs
theorem uCS (l r : List T) : X.v (.c (.sl 4 (T.rows l++T.rows r)))=xl (l++r):=by simp [xl,T.rows_eq]
def Y6 (l : List Gl) : List T:=(l.map Gl.data).flatten
theorem Tu {l : List Gl} {k : Nat} (h : k < l.length) : Y6 (l.take (k + 1))=Y6 (l.take k)++(l.getD k default).data:=by
 rw[I2 (d:=default) h]; simp [Y6]
theorem Ww {l : List Gl} (h : ∀ g ∈ l,g.data.length≤2097152) : (Y6 l).length≤2097152 * l.length:=by
 induction l with
 | nil=>simp [Y6]
 | cons g l ih =>
  have h1:=h g (by simp)
  have h2:=ih fun x hx=>h x (by simp [hx])
  simp only [Y6,List.map_cons,List.flatten_cons,List.length_append,List.length_cons,Nat.mul_succ] at h2 ⊢
  omega
def Oo (n : Nar) : List T:=n.steps.map Sp.msg++Y6 n.goals
def fewN (n : Nar) : Bool:=(decide (n.roles.length≤16) && decide (n.fresh.length≤16) && decide (n.tags.length≤16) && decide (n.steps.length≤16) && decide (n.goals.length≤16)) && fewB (Oo n) 100 900
theorem Uo (n : Nar) (hd : ∀ g ∈ n.goals,g.data.length≤2097152) : Ctr sys 12 [xn n] [] (xb (fewN n)) none []:=by
 have l1:=B3 n.roles
 have l3:=Fs.rows_len n.fresh
 have l4:=B3 n.tags
 have l5:=Sp.rows_len n.steps
 have l6:=Gl.rows_len n.goals
 refine D1 Tryz.func12 J J J J J J ?_;refine A8 (A6 ?_);refine C3 J (D8 J J J J) ?_;refine A5 J J J (A9 J gU) ?_;refine B0 ?_;refine A8 ?_;refine A8 (A6 ?_);refine A5 J J J (B1 J gU J J) ?_;refine A5 J J J (B2 J gU J J J J) ?_;refine E0 J J J J J gU J J ?_ (fun hh=>by simp at hh); intro hlen;refine A5 J J J (B7 J J gU gU J) ?_;refine A5 J J J (A7 J gU) ?_;refine A5 J J J (B1 J gU J J) ?_;refine A5 J J J (B2 J (fun hh=>hh) J J J J) ?_;refine A5 J J J (G8 J (fun hh=>hh) J J) ?_;refine A5 J J J (B7 J J (fun hh=>hh) gU J) ?_;refine A5 J J J (E5 J J gU (fun _ hi=>gP J hi)) ?_;refine H3 (s:=⟨[(1,_,_),(15,_,_)],[(.l 1,_)],[],[]⟩) (B4 (⟨U J,U J,O⟩) (⟨U J,O⟩) O) ?_;refine A5 J J J (A7 J gU) ?_;refine A5 J J J (B1 J gU J J) ?_;refine A5 J J J (B2 J (fun hh=>hh) J J J J) ?_;refine A5 J J J (G8 J (fun hh=>hh) J J) ?_;refine A5 J J J (B7 J J (fun hh=>hh) gU J) ?_;refine A5 J J J (E5 J J gU (fun _ hi=>gP J hi)) ?_;refine A5 J J J (A7 J gU) ?_
 refine A5 J J J (B1 J gU J J) ?_;refine A5 J J J (B2 J (fun hh=>hh) J J J J) ?_;refine A5 J J J (G8 J (fun hh=>hh) J J) ?_;refine A5 J J J (B7 J J (fun hh=>hh) gU J) ?_;refine A5 J J J (E5 J J gU (fun _ hi=>gP J hi)) ?_;refine H3 (s:=⟨[(1,_,_),(27,_,_)],[(.l 1,_)],[],[]⟩) (B4 (⟨U J,U J,O⟩) (⟨U J,O⟩) O) ?_;refine A5 J J J (A7 J gU) ?_;refine A5 J J J (B1 J gU J J) ?_;refine A5 J J J (B2 J (fun hh=>hh) J J J J) ?_;refine A5 J J J (G8 J (fun hh=>hh) J J) ?_;refine A5 J J J (B7 J J (fun hh=>hh) gU J) ?_;refine A5 J J J (E5 J J gU (fun _ hi=>gP J hi)) ?_;refine B0 ?_;refine B6 (s:=⟨[(1,_,_),(33,_,_)],[(.l 1,_)],[],[]⟩) (B4 (⟨U J,U J,O⟩) (⟨U J,O⟩) O) ?_;refine B9 J (fun hc=>?_) (fun hc=>?_)
 ·try simp only [nn,B3,nq] at hc
  refine A8 (A6 ?_);refine A5 J J J (A9 J gU) ?_;refine B0 ?_;refine C1 ?_
  repeat(first|refine tR ?_|refine bR ?_)
  refine C5 J ?_ O
  (refine M3 ?_; symm; unfold fewN; rw[Bool.eq_false_iff]; intro q; simp only [Bool.and_eq_true,decide_eq_true_eq] at q; omega)
 ·try simp only [nn,B3,nq] at hc
  have h16 : n.roles.length≤16∧n.fresh.length≤16∧n.tags.length≤16∧n.steps.length≤16∧n.goals.length≤16:=by omega
  have hE : fewN n=fewB (Oo n) 100 900:=by
   unfold fewN
   rw[decide_eq_true h16.1,decide_eq_true h16.2.1,decide_eq_true h16.2.2.1,decide_eq_true h16.2.2.2.1,decide_eq_true h16.2.2.2.2]; rfl
  rw[hE]
  refine C0 ?_;refine A8 (A6 ?_);refine C3 J (H4 (.inr J) J J) ?_;refine B0 ?_;refine A8 ?_;refine A8 (A6 ?_);refine A5 J J J (A9 J gU) ?_;refine B0 ?_;refine C4 ?_;refine F2 (ι:=Nat) { t:=[(1,_,_)],bx:=[(.l 1,_)],ow:=[(.t 3,_)] } (fun k=>[(4,true,xi (k : Int)),(3,true,xl ((n.steps.take k).map Sp.msg))]) (fun k=>[]) (fun k=>k≤n.steps.length) (fun k=>n.steps.length - k) (0) (by simp) (B4 (⟨U J,U J,U J,O⟩) (⟨U J,O⟩) (⟨rfl,O⟩)) ?_
  intro k hoka
  dsimp only [List.cons_append,List.nil_append]
  refine A8 ?_;refine A8 (A6 ?_);refine A5 J J J (A7 J gU) ?_;refine A5 J J J (B1 J gU J J) ?_;refine A5 J J J (B2 J gU J J J J) ?_;refine E0 J J J J J gU J J ?_ (fun hh=>by simp at hh); intro hlen;refine A5 J J J (B7 J J gU gU J) ?_;refine B0 ?_;refine B6 (s:=⟨[(1,_,_),(3,_,_),(4,_,_),(38,_,_)],[(.l 1,_)],[(.t 3,_)],[]⟩) (B4 (⟨U J,U J,U J,U J,O⟩) (⟨U J,O⟩) (⟨rfl,O⟩)) ?_;refine B9 J (fun hc2=>?_) (fun hc2=>?_)
  ·try simp only [nn,B3,nq] at hc2
   have hT:=I2 (l:=n.steps) (d:=default) (k:=k) (by omega)
   refine C0 ?_;refine A8 ?_;refine C4 ?_;refine A6 ?_;refine C3 J (E8 (.inl J) J J J) ?_;refine A5 J J J (B1 J gU J J) ?_;refine A5 J J J (B2 J gU J J J J) ?_;refine A5 J J J (A7 J gU) ?_;refine A5 J J J (C2 J J gU gU J J J (fun hh=>Sp.rows_at (by first|omega|(simp at hh ⊢; omega)))) ?_;refine A5 J J J (F4 J gU J J) ?_;refine A5 J J J (D4 J gU J J J J) ?_;refine E6 (xs:=[_]) J J J J J J J J J gU J ?_;refine C3 J (F8 J J J J J J J (by first|omega|(simp only [List.length_append,List.length_singleton,T.rows_len,List.length_map,List.length_take]; omega)) (by first|omega|(simp only [List.length_append,List.length_singleton,T.rows_len,List.length_map,List.length_take]; omega))) ?_;refine C3 J (E8 (.inr J) J J J) ?_;refine B0 ?_;refine B6 (s:=⟨[(1,_,_),(3,_,_),(4,_,_)],[(.l 1,_)],[(.t 3,_)],[]⟩) (B4 (⟨U J,U J,U J,O⟩) (⟨U J,O⟩) (⟨rfl,O⟩)) ?_;refine A6 ?_;refine A5 J J J (A7 J gU) ?_;refine A5 J J J (D0 J J gU gU J (IntWalk.i64_in _ (by omega))) ?_;refine A5 J J J (A9 J gU) ?_;refine B0 ?_;refine ⟨k + 1,?_,?_,B4 (⟨⟨_,rfl,?_⟩,⟨⟨_,rfl,?_⟩,⟨U J,O⟩⟩⟩) (⟨U J,O⟩) (⟨rfl,O⟩)⟩
   all_goals (first|rfl|omega|exact tx ((Ey _ _).trans (by rw[hT,List.map_append]; rfl)))
  ·try simp only [nn,B3,nq] at hc2
   have hk : k=n.steps.length:=by omega
   subst hk
   refine E1 ?_
   repeat(first|refine D5 ?_|refine D6 ?_|refine D2 J ?_)
   refine A8 ?_;refine A8 (A6 ?_);refine A5 J J J (A9 J gU) ?_;refine B0 ?_;refine C4 ?_;refine F2 (ι:=Nat) { t:=[(1,_,_)],bx:=[(.l 1,_)],ow:=[(.t 3,_)] } (fun j=>[(5,true,xi (j : Int)),(3,true,xl (n.steps.map Sp.msg++Y6 (n.goals.take j)))]) (fun j=>[]) (fun j=>j≤n.goals.length) (fun j=>n.goals.length - j) (0) (by simp) (B4 (⟨U J,⟨⟨_,rfl,by simp [Y6]⟩,⟨U J,O⟩⟩⟩) (⟨U J,O⟩) (⟨rfl,O⟩)) ?_
   intro j hokb
   dsimp only [List.cons_append,List.nil_append]
   have hdl:=Ww (l:=n.goals.take j) fun g hg=>hd g (List.mem_of_mem_take hg)
   rw[List.length_take] at hdl
   refine A8 ?_;refine A8 (A6 ?_);refine A5 J J J (A7 J gU) ?_;refine A5 J J J (B1 J gU J J) ?_;refine A5 J J J (B2 J gU J J J J) ?_;refine E0 J J J J J gU J J ?_ (fun hh=>by simp at hh); intro hlen;refine A5 J J J (B7 J J gU gU J) ?_;refine B0 ?_;refine B6 (s:=⟨[(1,_,_),(3,_,_),(5,_,_),(54,_,_)],[(.l 1,_)],[(.t 3,_)],[]⟩) (B4 (⟨U J,U J,U J,U J,O⟩) (⟨U J,O⟩) (⟨rfl,O⟩)) ?_;refine B9 J (fun hc3=>?_) (fun hc3=>?_)
   ·try simp only [nn,B3,nq] at hc3
    have hT:=Tu (l:=n.goals) (k:=j) (by omega)
    have hdj : (n.goals.getD j default).data.length≤2097152:=hd _ (by rw[List.getD_eq_getElem?_getD,List.getElem?_eq_getElem (by omega)]; exact List.getElem_mem _)
    refine C0 ?_;refine A8 ?_;refine C4 ?_;refine A6 ?_;refine C3 J (E8 (.inl J) J J J) ?_;refine A5 J J J (B1 J gU J J) ?_;refine A5 J J J (B2 J gU J J J J) ?_;refine A5 J J J (A7 J gU) ?_;refine A5 J J J (C2 J J gU gU J J J (fun hh=>Gl.rows_at (by first|omega|(simp at hh ⊢; omega)))) ?_;refine A5 J J J (F4 J gU J J) ?_;refine A5 J J J (E4 J gU J J J) ?_;refine C3 J (F8 J J J J J J J (by first|omega|(simp only [List.length_append,List.length_singleton,T.rows_len,List.length_map,List.length_take]; omega)) (by first|omega|(simp only [List.length_append,List.length_singleton,T.rows_len,List.length_map,List.length_take]; omega))) ?_;refine C3 J (E8 (.inr J) J J J) ?_;refine B0 ?_;refine B6 (s:=⟨[(1,_,_),(3,_,_),(5,_,_)],[(.l 1,_)],[(.t 3,_)],[]⟩) (B4 (⟨U J,U J,U J,O⟩) (⟨U J,O⟩) (⟨rfl,O⟩)) ?_;refine A6 ?_;refine A5 J J J (A7 J gU) ?_;refine A5 J J J (D0 J J gU gU J (IntWalk.i64_in _ (by omega))) ?_;refine A5 J J J (A9 J gU) ?_;refine B0 ?_;refine ⟨j + 1,?_,?_,B4 (⟨⟨_,rfl,?_⟩,⟨⟨_,rfl,?_⟩,⟨U J,O⟩⟩⟩) (⟨U J,O⟩) (⟨rfl,O⟩)⟩
    all_goals (first|rfl|omega|exact tx ((uCS _ _).trans (by rw[hT,List.append_assoc])))
   ·try simp only [nn,B3,nq] at hc3
    have hk : j=n.goals.length:=by omega
    subst hk
    have e : n.steps.map Sp.msg++Y6 (n.goals.take n.goals.length)=Oo n:=by rw[List.take_length]; rfl
    rw[e]
    refine E1 ?_
    repeat(first|refine D5 ?_|refine D6 ?_|refine D2 J ?_)
    refine A8 (A6 ?_);refine A5 J J J (A7 J gU) ?_;refine C7 J J J J J J gU gU (uBr (Oo n) 100 900 (by omega)) J ?_;refine A5 J J J (A9 J gU) ?_;refine B0 ?_;refine C1 ?_
    repeat(first|refine tR ?_|refine bR ?_)
    refine C5 J ?_ O
    rfl
theorem uBO {n : Nar} (h : fewN n=true) : n.steps.length≤16∧n.goals.length≤16∧(∀ s ∈ n.steps,s.msg.size≤900000) ∧ ∀ g ∈ n.goals,T.sizes g.data≤900000:=by
 simp only [fewN,Bool.and_eq_true,decide_eq_true_eq] at h
 obtain ⟨_,h2⟩:=Tj h.2
 have h3 : T.sizes (n.steps.map Sp.msg++Y6 n.goals)≤900:=by unfold Oo at h2; omega
 have happ : ∀ a b : List T,T.sizes (a++b)=T.sizes a + T.sizes b:=by
  intro a b
  induction a with
  | nil=>simp [T.sizes]
  | cons t a ih=>simp only [List.cons_append,T.sizes,ih]; omega
 rw[happ] at h3
 refine ⟨h.1.1.2,h.1.2,fun s hs=>?_,fun g hg=>?_⟩
 ·have : ∀ l : List Sp,s ∈ l→s.msg.size≤T.sizes (l.map Sp.msg):=by
   intro l hl
   induction l with
   | nil=>simp at hl
   | cons x l ih =>
    simp only [List.map_cons,T.sizes]
    rcases List.mem_cons.1 hl with q | q
    ·subst q; omega
    ·have := ih q; omega
  have := this _ hs
  omega
 ·have : ∀ l : List Gl,g ∈ l→T.sizes g.data≤T.sizes (Y6 l):=by
   intro l hl
   induction l with
   | nil=>simp at hl
   | cons x l ih =>
    have e : Y6 (x :: l)=x.data++Y6 l:=by simp [Y6]
    rw[e,happ]
    rcases List.mem_cons.1 hl with q | q
    ·subst q; omega
    ·have := ih q; omega
  have := this _ hg
  omega
namespace T
mutual
def all : T→List T
 | mk k n s ks=>mk k n s ks :: alls ks
def alls : List T→List T
 | []=>[]
 | t :: ts=>all t++alls ts
end
end T
end Go.Proofs.YteidahabkfgfjaaGreat
namespace Go.Proofs.YteidahabkfgfjaaGreat
open Go Go.Abs
abbrev xr (l : List Tk) (p : PS) : X:=.v (.agg (pbx l p))
theorem Yc (s : List UInt8) (k : Int) : Ctr sys 50 [xs s,xi k] [] (xm ⟨2,s,k,[]⟩) none []:=by
 refine D1 Tryz.func50 J J J J J J ?_;refine A8 (A6 ?_);refine C3 J (D9 J J J) ?_;refine B0 ?_;refine A8 (A6 ?_);refine A5 J J J (A7 J gU) ?_;refine A5 J J J (A7 J gU) ?_;refine A5 J J J (G7 J Tryz.underlying47 J gU) ?_;refine C3 J (C8 J J J J J J J) ?_;refine B0 ?_;refine C1 ?_
 repeat(first|refine tR ?_|refine bR ?_)
 refine C5 J ?_ O
 rfl
theorem uAo (s : List UInt8) (ks : List T) (hk : ks.length≤3000000) : Ctr sys 166 [xs s,xl ks] [] (xm ⟨3,s,0,ks⟩) none []:=by
 have hrl:=T.rows_len ks
 refine D1 Tryz.func166 J J J J J J ?_;refine A8 (A6 ?_);refine C3 J (D9 J J J) ?_;refine B0 ?_;refine A8 (A6 ?_);refine A5 J J J (A7 J gU) ?_;refine E6 (xs:=[]) J J J J J J J J J gU J ?_;refine A5 J J J (A7 J gU) ?_;refine C3 J (F8 J J J J J J J (by first|omega|(simp only [List.length_nil]; omega)) (by first|omega|(simp only [List.length_nil]; omega))) ?_;refine A5 J J J (G7 J Tryz.underlying47 J gU) ?_;refine C3 J (C8 J J J J J J J) ?_;refine B0 ?_;refine C1 ?_
 repeat(first|refine tR ?_|refine bR ?_)
 refine C5 J ?_ O
 rfl
theorem Fo (s : List UInt8) (rs : List (List C)) (ks : List T) (h : rs=T.rows ks) (hk : ks.length≤3000000) : Ctr sys 166 [xs s, .v (.c (.sl 4 rs))] [] (xm ⟨3,s,0,ks⟩) none []:=by
 subst h; exact uAo s ks hk
theorem F7 (l : List Tk) (p : PS) (c : List UInt8) (hl : l.length≤2000000) (hp : p.at'≤3000000) : Ctr sys 106 [xr l p,xs c] [] (xr l (F0 l c p)) none []:=by
 have hrl:=Tk.rows_len l
 refine D1 Tryz.func106 J J J J J J ?_;refine A8 (A6 ?_);refine C3 J (D8 J J J J) ?_;refine C3 J (D9 J J J) ?_;refine B0 ?_;refine A8 ?_;refine A8 (A6 ?_);refine A5 J J J (B1 J gU J J) ?_;refine A5 J J J (B2 J gU J J J J) ?_;refine A5 J J J (A7 J gU) ?_;refine A5 J J J (B1 J gU J J) ?_;refine A5 J J J (B2 J (fun hh=>hh) J J J J) ?_;refine A5 J J J (B1 J gU J J) ?_;refine A5 J J J (B2 J (fun hh=>hh) J J J J) ?_;refine A5 J J J (G8 J (fun hh=>hh) J J) ?_;refine A5 J J J (B7 J J (fun hh=>hh) (fun hh=>hh) J) ?_;refine A5 J J J (E5 J J gU (fun _ hi=>gP J hi)) ?_;refine H3 (s:=⟨[(1,_,_),(2,_,_),(4,_,_),(14,_,_)],[(.l 2,_),(.l 4,_)],[],[]⟩) (B4 (⟨U J,U J,U J,U J,O⟩) (⟨U J,U J,O⟩) O) ?_;refine A5 J J J (A7 J gU) ?_;refine A5 J J J (B1 J gU J J) ?_;refine A5 J J J (B2 J (fun hh=>hh) J J J J) ?_;refine A5 J J J (B1 J gU J J) ?_;refine A5 J J J (B2 J (fun hh=>hh) J J J J) ?_;refine A5 J J J (C2 (j:=p.at') J J (fun hh=>hh) (fun hh=>hh) J J (by first|omega|(simp at hh ⊢; omega)) (fun hh=>Tk.rows_at (by first|omega|(simp at hh ⊢; omega)))) ?_
 refine A5 J J J (F4 J (fun hh=>hh) J J) ?_;refine A5 J J J (E4 J (fun hh=>hh) J J J) ?_;refine A5 J J J (B7 J J (fun hh=>hh) gU J) ?_;refine A5 J J J (E5 J J gU (fun _ hi=>gP J hi)) ?_;refine A5 J J J (A7 J gU) ?_;refine A5 J J J (B1 J gU J J) ?_;refine H3 (s:=⟨[(1,_,_),(2,_,_),(4,_,_),(25,_,_),(26,_,_)],[(.l 2,_),(.l 4,_)],[],[]⟩) (B4 (⟨U J,U J,U J,U J,U J,O⟩) (⟨U J,U J,O⟩) O) ?_;refine A5 J J J (B2 J (fun hh=>hh) J J J J) ?_;refine A5 J J J (B1 J gU J J) ?_;refine A5 J J J (B2 J (fun hh=>hh) J J J J) ?_;refine A5 J J J (C2 (j:=p.at') J J (fun hh=>hh) (fun hh=>hh) J J (by first|omega|(simp at hh ⊢; omega)) (fun hh=>Tk.rows_at (by first|omega|(simp at hh ⊢; omega)))) ?_;refine A5 J J J (F4 J (fun hh=>hh) J J) ?_;refine A5 J J J (E4 J (fun hh=>hh) J J J) ?_;refine A5 J J J (A7 J gU) ?_;refine A5 J J J (G0 J J (fun hh=>hh) (fun hh=>hh) J) ?_;refine A5 J J J (E5 J J gU (fun _ hi=>gP J hi)) ?_;refine B0 ?_;refine B6 (s:=⟨[(2,_,_),(4,_,_),(35,_,_)],[(.l 2,_),(.l 4,_)],[],[]⟩) (B4 (⟨U J,U J,U J,O⟩) (⟨U J,U J,O⟩) O) ?_
 refine B9 J (fun hc=>?_) (fun hc=>?_)
 ·try simp only [nn,B3,T.rows_len,Tk.rows_len] at hc
  have h : symQ l p c=false:=by simp only [symQ]; grind
  have h2 : F0 l c p=p.off:=by rw[F0,h]; rfl
  rw[h2]
  refine A8 (A6 ?_);refine A5 J J J (B1 J gU J J) ?_;refine C3 J (C8 J J J J J J J) ?_;refine B0 ?_;refine A8 (A6 ?_);refine A5 J J J (B8 J gU J J J J J) ?_;refine C3 J (C8 J J J J J J J) ?_;refine B0 ?_;refine C1 ?_
  repeat(first|refine tR ?_|refine bR ?_)
  refine C5 J ?_ O
  rfl
 ·try simp only [nn,B3,T.rows_len,Tk.rows_len] at hc
  have h : symQ l p c=true:=by simp only [symQ]; grind
  have h2 : F0 l c p=p.go:=by rw[F0,if_pos h]
  rw[h2]
  refine C0 ?_;refine A8 (A6 ?_);refine A5 J J J (B1 J gU J J) ?_;refine A5 J J J (B2 J gU J J J J) ?_;refine A5 J J J (D0 J J gU gU J (IntWalk.i64_in _ (by omega))) ?_;refine A5 J J J (B1 J gU J J) ?_;refine C3 J (C8 J J J J J J J) ?_;refine B0 ?_;refine A8 (A6 ?_);refine A5 J J J (B8 J gU J J J J J) ?_;refine C3 J (C8 J J J J J J J) ?_;refine B0 ?_;refine C1 ?_
  repeat(first|refine tR ?_|refine bR ?_)
  refine C5 J ?_ O
  (first|rfl|exact congrArg (fun z=>X.v (.agg z)) (uAa (by simp [PS.go]) J))
theorem uAn (l : List Tk) (c : List UInt8) (p : PS) : (F0 l c p).bad = !symQ l p c:=by
 unfold F0
 split
 ·rename_i h
  rw[h]; exact (O3 h).2
 ·rename_i h
  have : symQ l p c=false:=by simpa using h
  rw[this]; rfl
theorem P8 (l : List Tk) (p : PS) (c : List UInt8) (hl : l.length≤2000000) (hp : p.at'≤3000000) : Ctr sys 107 [xr l p,xs c] [] (xb (symQ l p c)) none []:=by
 refine D1 Tryz.func107 J J J J J J ?_;refine A8 (A6 ?_);refine C3 J (D8 J J J J) ?_;refine A5 J J J (A9 J gU) ?_;refine B0 ?_;refine A8 (A6 ?_);refine A5 J J J (B8 J gU J J J J J) ?_;refine A5 J J J (A7 J gU) ?_;refine C7 J J J J J J gU gU (F7 _ _ _ (by omega) (by omega)) J ?_;refine A5 J J J (Dw J gU (Tryz.underlying119) J J J J J J) ?_;refine A5 J J J (F9 J gU) ?_;refine A5 J J J (A9 J gU) ?_;refine B0 ?_;refine C1 ?_
 repeat(first|refine tR ?_|refine bR ?_)
 refine C5 J ?_ O;exact M3 (by rw[uAn]; simp)
theorem K1 (l : List Tk) (p : PS) (hl : l.length≤2000000) (hp : p.at'≤3000000) : Ctr sys 105 [xr l p] [] (.tup [.c (.s (C9 l [] p).1), .agg (pbx l (C9 l [] p).2)]) none []:=by
 have hrl:=Tk.rows_len l
 refine D1 Tryz.func105 J J J J J J ?_;refine A8 (A6 ?_);refine C3 J (D8 J J J J) ?_;refine A5 J J J (A9 J gU) ?_;refine C3 J (D9 J J J) ?_;refine B0 ?_;refine A8 ?_;refine A8 (A6 ?_);refine A5 J J J (B1 J gU J J) ?_;refine A5 J J J (B2 J gU J J J J) ?_;refine A5 J J J (A7 J gU) ?_;refine A5 J J J (B1 J gU J J) ?_;refine A5 J J J (B2 J (fun hh=>hh) J J J J) ?_;refine A5 J J J (B1 J gU J J) ?_;refine A5 J J J (B2 J (fun hh=>hh) J J J J) ?_;refine A5 J J J (G8 J (fun hh=>hh) J J) ?_;refine A5 J J J (B7 J J (fun hh=>hh) (fun hh=>hh) J) ?_;refine H3 (s:=⟨[(1,_,_),(3,_,_),(6,_,_),(12,_,_)],[(.l 1,_),(.l 3,_)],[],[]⟩) (B4 (⟨U J,U J,U J,U J,O⟩) (⟨U J,U J,O⟩) O) ?_;refine A5 J J J (E5 J J gU (fun _ hi=>gP J hi)) ?_;refine A5 J J J (A7 J gU) ?_;refine A5 J J J (B1 J gU J J) ?_;refine A5 J J J (B2 J (fun hh=>hh) J J J J) ?_;refine A5 J J J (B1 J gU J J) ?_;refine A5 J J J (B2 J (fun hh=>hh) J J J J) ?_
 refine A5 J J J (C2 (j:=p.at') J J (fun hh=>hh) (fun hh=>hh) J J (by first|omega|(simp at hh ⊢; omega)) (fun hh=>Tk.rows_at (by first|omega|(simp at hh ⊢; omega)))) ?_;refine A5 J J J (F4 J (fun hh=>hh) J J) ?_;refine A5 J J J (E4 J (fun hh=>hh) J J J) ?_;refine A5 J J J (B7 J J (fun hh=>hh) gU J) ?_;refine A5 J J J (E5 J J gU (fun _ hi=>gP J hi)) ?_;refine B0 ?_;refine B6 (s:=⟨[(1,_,_),(3,_,_),(23,_,_)],[(.l 1,_),(.l 3,_)],[],[]⟩) (B4 (⟨U J,U J,U J,O⟩) (⟨U J,U J,O⟩) O) ?_;refine B9 J (fun hc=>?_) (fun hc=>?_)
 ·try simp only [nn,B3,T.rows_len,Tk.rows_len] at hc
  have h : namQ l p []=false:=by simp only [namQ]; grind
  have h2 : C9 l [] p=([],p.off):=by rw[C9,h]; rfl
  rw[h2]
  refine A8 (A6 ?_);refine A5 J J J (B1 J gU J J) ?_;refine C3 J (C8 J J J J J J J) ?_;refine B0 ?_;refine A8 ?_;refine awp_drawn' (by kernel_rfl) ?_;refine D7 J J J J J J J gU J J J J J ?_;refine B5 J J J J (A9 J gU) ?_;refine F3 J J J J J J J J J J J J ?_;refine F6 (by kernel_rfl) ?_;refine C1 ?_
  repeat(first|refine tR ?_|refine bR ?_)
  refine C5 J ?_ O
  rfl
 ·try simp only [nn,B3,T.rows_len,Tk.rows_len] at hc
  have h : namQ l p []=true:=by simp only [namQ]; grind
  have h2 : C9 l [] p=((l.getD p.at' tk0).text,p.go):=by rw[C9,if_pos h]
  rw[h2]
  refine C0 ?_;refine A8 (A6 ?_);refine A5 J J J (B1 J gU J J) ?_;refine A5 J J J (B2 J gU J J J J) ?_;refine A5 J J J (D0 J J gU gU J (IntWalk.i64_in _ (by omega))) ?_;refine A5 J J J (B1 J gU J J) ?_;refine C3 J (C8 J J J J J J J) ?_;refine B0 ?_;refine A8 ?_;refine awp_drawn' (by kernel_rfl) ?_;refine B5 J J J J (B1 J gU J J) ?_;refine G4 J J J J J J J gU J J J J ?_;refine B5 J J J J (B1 J gU J J) ?_;refine G4 J J J J J J J gU J J J J ?_;refine B5 J J J J (D0 J J gU gU J (IntWalk.i64_in _ (by omega))) ?_;refine B5 J J J J (C2 (j:=p.at') J J gU gU J J (by first|omega|(simp at hh ⊢; omega)) (fun hh=>Tk.rows_at (by first|omega|(simp at hh ⊢; omega)))) ?_;refine B5 J J J J (F4 J gU J J) ?_;refine B5 J J J J (E4 J gU J J J) ?_;refine D7 J J J J J J J gU J J J J J ?_;refine B5 J J J J (A9 J gU) ?_;refine F3 J J J J J J J J J J J J ?_;refine F6 (by kernel_rfl) ?_;refine C1 ?_
  repeat(first|refine tR ?_|refine bR ?_)
  refine C5 J ?_ O
  (first|rfl|exact congrArg (fun z=>X.tup [.c (.s (l.getD p.at' tk0).text), .agg z]) (uAa (by simp [PS.go]) J))
theorem Uw (l : List Tk) (p : PS) (hl : l.length≤2000000) : Ctr sys 109 [xr l p] [] (xi (Ow l p)) none []:=by
 have hrl:=Tk.rows_len l
 refine D1 Tryz.func109 J J J J J J ?_;refine A8 (A6 ?_);refine C3 J (D8 J J J J) ?_;refine A5 J J J (A9 J gU) ?_;refine B0 ?_;refine A8 ?_;refine A8 (A6 ?_);refine A5 J J J (B1 J gU J J) ?_;refine A5 J J J (B2 J gU J J J J) ?_;refine E0 J J J J J gU J J ?_ (fun hh=>by simp at hh); intro hlen;refine A5 J J J (B7 J J gU gU J) ?_;refine B0 ?_;refine B6 (s:=⟨[(1,_,_),(6,_,_)],[(.l 1,_)],[],[]⟩) (B4 (⟨U J,U J,O⟩) (⟨U J,O⟩) O) ?_;refine B9 J (fun hc=>?_) (fun hc=>?_)
 ·try simp only [nn,B3,T.rows_len,Tk.rows_len] at hc
  refine A8 (A6 ?_);refine A5 J J J (A9 J gU) ?_;refine B0 ?_;refine C1 ?_
  repeat(first|refine tR ?_|refine bR ?_)
  refine C5 J ?_ O
  (rw[Ow,if_pos (by omega)]; rfl)
 ·try simp only [nn,B3,T.rows_len,Tk.rows_len] at hc
  refine C0 ?_;refine A8 (A6 ?_);refine A5 J J J (B1 J gU J J) ?_;refine A5 J J J (B2 J gU J J J J) ?_;refine A5 J J J (B1 J gU J J) ?_;refine A5 J J J (B2 J gU J J J J) ?_;refine A5 J J J (B1 J gU J J) ?_;refine A5 J J J (B2 J gU J J J J) ?_;refine E0 J J J J J gU J J ?_ (fun hh=>by simp at hh); intro hlen;refine A5 J J J (D0 J J gU gU J (IntWalk.i64_in _ (by omega))) ?_;refine A5 J J J (Zy J J gU gU) ?_;refine A5 J J J (C2 (j:=(min p.at' (l.length - 1))) J J gU gU J J (by first|omega|(simp at hh ⊢; omega)) (fun hh=>Tk.rows_at (by first|omega|(simp at hh ⊢; omega)))) ?_;refine A5 J J J (F4 J gU J J) ?_;refine A5 J J J (E4 J gU J J J) ?_;refine H3 (s:=⟨[(18,_,_)],[],[],[]⟩) (B4 (⟨U J,O⟩) O O) ?_;refine A5 J J J (A9 J gU) ?_;refine B0 ?_;refine C1 ?_
  repeat(first|refine tR ?_|refine bR ?_)
  refine C5 J ?_ O
  rw[Ow,if_neg (by omega)]
  split
  ·rename_i h
   exact H5 (by rw[show min p.at' (l.length - 1)=l.length - 1 by omega])
  ·rename_i h
   exact H5 (by rw[show min p.at' (l.length - 1)=p.at' by omega])
theorem Xi {l : List (List UInt8)} {s : List UInt8} {k : Nat} {e : Int} (h : k < l.length) (hi : (if idxF (fun x=>decide (x=s) && decide (s≠[])) (l.drop k) < 0 then 0 else idxF (fun x=>decide (x=s) && decide (s≠[])) (l.drop k) + k)=e) :
  ((l.getD k []=s∧s≠[])→e=k)∧(¬(l.getD k []=s∧s≠[])→(if idxF (fun x=>decide (x=s) && decide (s≠[])) (l.drop (k + 1)) < 0 then 0 else idxF (fun x=>decide (x=s) && decide (s≠[])) (l.drop (k + 1)) + (k + 1 : Nat))=e):=by
 rw[Mn (d:=[]) h,idxF] at hi
 refine ⟨fun q=>?_,fun q=>?_⟩
 ·have e1 : (decide (l.getD k []=s) && decide (s≠[]))=true:=by simp only [Bool.and_eq_true,decide_eq_true_eq]; exact q
  rw[e1] at hi
  simp at hi; omega
 ·have e1 : (decide (l.getD k []=s) && decide (s≠[]))=false:=by
   rw[Bool.eq_false_iff]; simp only [ne_eq,Bool.and_eq_true,decide_eq_true_eq]; exact q
  rw[e1] at hi
  simp only [Bool.false_eq_true,if_false] at hi
  have hg:=Nh (fun x=>decide (x=s) && decide (s≠[])) (l.drop (k + 1))
  generalize idxF (fun x=>decide (x=s) && decide (s≠[])) (List.drop (k + 1) l)=x at hi hg ⊢
  rw[← hi]
  by_cases hx : x < 0
  ·rw[if_pos hx,if_pos hx]; simp
  ·rw[if_neg hx,if_neg hx,if_neg (by omega)]; push_cast; omega
theorem Gm (l : List (List UInt8)) (s : List UInt8) : Ctr sys 131 [xss l,xs s] [] (xi (idx0 l s)) none []:=by
 have hrl:=B3 l
 refine D1 Tryz.func131 J J J J J J ?_;refine A8 (A6 ?_);refine A5 J J J (A9 J gU) ?_;refine B0 ?_;refine A8 ?_;refine A8 (A6 ?_);refine A5 J J J (A9 J gU) ?_;refine B0 ?_;refine C4 ?_;refine F2 (ι:=Nat) { t:=[(0,_,_),(1,_,_)],bx:=[],ow:=[] } (fun k=>[(5,true,xi (k : Int))]) (fun k=>[]) (fun k=>k≤l.length∧(if idxF (fun x=>decide (x=s) && decide (s≠[])) (l.drop k) < 0 then 0 else idxF (fun x=>decide (x=s) && decide (s≠[])) (l.drop k) + k)=idx0 l s) (fun k=>l.length - k) (0) (⟨by simp,by simp [idx0]⟩) (B4 (⟨U J,U J,U J,O⟩) O O) ?_
 intro k hok
 dsimp only [List.cons_append,List.nil_append]
 obtain ⟨hk,hi⟩:=hok
 refine A8 ?_;refine A8 (A6 ?_);refine A5 J J J (A7 J gU) ?_;refine A5 J J J (A7 J gU) ?_;refine E0 J J J J J gU J J ?_ (fun hh=>by simp at hh); intro hlen;refine A5 J J J (B7 J J gU gU J) ?_;refine B0 ?_;refine B9 J (fun hc=>?_) (fun hc=>?_)
 ·try simp only [nn,B3,T.rows_len,Tk.rows_len] at hc
  have hlt : k < l.length:=by omega
  have hd:=Xi hlt hi
  refine C0 ?_;refine A8 ?_;refine C4 ?_;refine A8 (A6 ?_);refine A5 J J J (A7 J gU) ?_;refine A5 J J J (A7 J gU) ?_;refine A5 J J J (C2 J J gU gU J J J (fun hh=>L5 (by first|omega|(simp at hh ⊢; omega)))) ?_;refine A5 J J J (E4 J gU J J J) ?_;refine A5 J J J (A7 J gU) ?_;refine A5 J J J (G0 J J gU gU J) ?_;refine A5 J J J (A7 J gU) ?_;refine A5 J J J (A7 J gU) ?_;refine H3 (s:=⟨[(0,_,_),(1,_,_),(5,_,_),(18,_,_),(19,_,_)],[],[],[]⟩) (B4 (⟨U J,U J,U J,U J,U J,O⟩) O O) ?_;refine A5 J J J (G0 J J (fun hh=>hh) gU J) ?_;refine A5 J J J (E2 J J gU (fun _ hi=>gP J hi)) ?_;refine B0 ?_;refine B9 J (fun hc2=>?_) (fun hc2=>?_)
  ·try simp only [nn,B3,T.rows_len,Tk.rows_len] at hc2
   refine A8 (A6 ?_);refine A5 J J J (A7 J gU) ?_;refine A5 J J J (A9 J gU) ?_;refine B0 ?_;refine C1 ?_
   repeat(first|refine tR ?_|refine bR ?_)
   refine C5 J ?_ O;exact H5 (hd.1 hc2).symm
  ·try simp only [nn,B3,T.rows_len,Tk.rows_len] at hc2
   refine C0 ?_;refine A6 ?_;refine A5 J J J (A7 J gU) ?_;refine A5 J J J (D0 J J gU gU J (IntWalk.i64_in _ (by omega))) ?_;refine A5 J J J (A9 J gU) ?_;refine B0 ?_;refine ⟨k + 1,?_,?_,B4 (⟨⟨_,rfl,?_⟩,⟨U J,U J,O⟩⟩) O O⟩
   all_goals (first|rfl|omega|exact ⟨by omega,hd.2 (by rintro ⟨q1,q2⟩; rcases hc2 with q|q; exact q q1; exact q2 (by simpa using q))⟩)
 ·try simp only [nn,B3,T.rows_len,Tk.rows_len] at hc
  rw[List.drop_of_length_le (by omega)] at hi
  refine E1 ?_
  repeat(first|refine D5 ?_|refine D6 ?_|refine D2 J ?_)
  refine A8 (A6 ?_);refine A5 J J J (A9 J gU) ?_;refine B0 ?_;refine C1 ?_
  repeat(first|refine tR ?_|refine bR ?_)
  refine C5 J ?_ O;exact H5 hi
theorem V8 (l : List Tk) (p : PS) (ws : List (List UInt8)) (hl : l.length≤2000000) (hp : p.at'≤3000000) : Ctr sys 104 [xr l p,xss ws] [] (.tup [.c (.i .i64 (chR l ws p).1), .agg (pbx l (chR l ws p).2)]) none []:=by
 refine D1 Tryz.func104 J J J J J J ?_;refine A8 (A6 ?_);refine C3 J (D8 J J J J) ?_;refine A5 J J J (A9 J gU) ?_;refine C3 J (D9 J J J) ?_;refine B0 ?_;refine A8 (A6 ?_);refine A5 J J J (B8 J gU J J J J J) ?_;refine C7 J J J J J J gU gU (K1 _ _ (by omega) (by omega)) J ?_;refine A5 J J J (A7 J gU) ?_;refine A5 J J J (C6 J gU J) ?_;refine A5 J J J (C6 J gU J) ?_;refine C3 J (D9 J J J) ?_;refine A5 J J J (A9 J gU) ?_;refine C3 J (C8 J J J J J J J) ?_;refine B0 ?_;refine B6 (s:=⟨[(1,_,_),(2,_,_),(5,_,_),(6,_,_),(7,_,_)],[(.l 2,_),(.l 5,_),(.l 7,_)],[],[]⟩) (B4 (⟨U J,U J,U J,U J,U J,O⟩) (⟨U J,U J,U J,O⟩) O) ?_;refine A8 ?_;refine A8 (A6 ?_);refine A5 J J J (B1 J gU J J) ?_;refine A5 J J J (B2 J gU J J J J) ?_;refine A5 J J J (A7 J gU) ?_;refine A5 J J J (A7 J gU) ?_;refine A5 J J J (A7 J gU) ?_;refine C7 J J J J J J gU (fun hh=>gA ((fun hh=>hh) hh) (gA ((fun hh=>hh) hh) (rfl))) (Gm _ _) J ?_
 refine A5 J J J (B7 J J (fun hh=>hh) gU J) ?_;refine A5 J J J (E5 J J gU (fun _ hi=>gP J hi)) ?_;refine B0 ?_;refine B6 (s:=⟨[(1,_,_),(2,_,_),(5,_,_),(6,_,_),(7,_,_),(20,_,_)],[(.l 2,_),(.l 5,_),(.l 7,_)],[],[]⟩) (B4 (⟨U J,U J,U J,U J,U J,U J,O⟩) (⟨U J,U J,U J,O⟩) O) ?_;refine B9 J (fun hc=>?_) (fun hc=>?_)
 ·try simp only [nn,B3,T.rows_len,Tk.rows_len] at hc
  have h : chR l ws p=(0,p.off):=by rw[chR,if_pos hc]
  rw[h]
  refine A8 (A6 ?_);refine A5 J J J (B1 J gU J J) ?_;refine C3 J (C8 J J J J J J J) ?_;refine B0 ?_;refine A8 ?_;refine awp_drawn' (by kernel_rfl) ?_;refine D7 J J J J J J J gU J J J J J ?_;refine B5 J J J J (A9 J gU) ?_;refine F3 J J J J J J J J J J J J ?_;refine F6 (by kernel_rfl) ?_;refine C1 ?_
  repeat(first|refine tR ?_|refine bR ?_)
  refine C5 J ?_ O
  rfl
 ·try simp only [nn,B3,T.rows_len,Tk.rows_len] at hc
  have h : chR l ws p=(idx0 ws (C9 l [] p).1,(C9 l [] p).2):=by rw[chR,if_neg (by rintro (q | q); { rw[hc.1] at q; cases q }; { exact hc.2 q })]
  rw[h]
  refine C0 ?_;refine A8 ?_;refine awp_drawn' (by kernel_rfl) ?_;refine B5 J J J J (A7 J gU) ?_;refine B5 J J J J (A7 J gU) ?_;refine E9 J J J J J J J gU gU (Gm _ _) J ?_;refine D7 J J J J J J J gU J J J J J ?_;refine B5 J J J J (A9 J gU) ?_;refine F3 J J J J J J J J J J J J ?_;refine F6 (by kernel_rfl) ?_;refine C1 ?_
  repeat(first|refine tR ?_|refine bR ?_)
  refine C5 J ?_ O
  rfl
theorem U5 (l : List Tk) (p : PS) (hl : l.length≤2000000) (hp : p.at'≤l.length) : Ctr sys 132 [xr l p] [] (.tup [.c (.sl 1 (strR (J9 l p).1)), .agg (pbx l (J9 l p).2)]) none []:=by
 have hrl:=Tk.rows_len l
 have h0:=H0 l [] p
 refine D1 Tryz.func132 J J J J J J ?_;refine A8 (A6 ?_);refine C3 J (D8 J J J J) ?_;refine C3 J (H4 (.inr J) J J) ?_;refine C3 J (D9 J J J) ?_;refine B0 ?_;refine A8 (A6 ?_);refine A5 J J J (B8 J gU J J J J J) ?_;refine C7 J J J J J J gU gU (K1 _ _ (by omega) (by omega)) J ?_;refine A5 J J J (A7 J gU) ?_;refine A5 J J J (C6 J gU J) ?_;refine A5 J J J (C6 J gU J) ?_;refine A5 J J J (A9 J gU) ?_;refine C3 J (C8 J J J J J J J) ?_;refine B0 ?_;refine B6 (s:=⟨[(1,_,_),(3,_,_),(4,_,_)],[(.l 1,_),(.l 3,_)],[],[]⟩) (B4 (⟨U J,U J,U J,O⟩) (⟨U J,U J,O⟩) O) ?_;refine A8 (A6 ?_);refine A5 J J J (A7 J gU) ?_;refine E6 (xs:=[_]) J J J J J J J J J gU J ?_;refine C3 J (E8 (.inr J) J J J) ?_;refine B0 ?_;refine A8 ?_;refine C4 ?_;refine F2 (ι:=PS × List (List UInt8) × List UInt8) { t:=[(1,_,_),(3,_,_)],bx:=[(.l 3,_)],ow:=[(.t 5,_)] } (fun q=>[(4,true,xs q.2.2),(5,true,xss q.2.1)]) (fun q=>[((.l 1),pbx l q.1)]) (fun q=>q.1.at'≤l.length∧q.2.1.length≤q.1.at' + 1 ∧ ∃ n,l.length + 1≤n + q.1.at'∧M0 l (C9 l []) n q.1 q.2.1=J9 l p) (fun q=>l.length - q.1.at') (((C9 l [] p).2,[(C9 l [] p).1],(C9 l [] p).1)) (⟨h0.2 hp,by simp,_,by dsimp only; omega,rfl⟩) (B4 (⟨U J,U J,U J,U J,O⟩) (⟨U J,U J,O⟩) (⟨rfl,O⟩)) ?_
 intro q hok
 dsimp only [List.cons_append,List.nil_append] at *
 obtain ⟨q,out,x⟩:=q
 dsimp only at hok ⊢
 obtain ⟨hq,ho,n,hn,hi⟩:=hok
 have hro:=B3 out
 refine A8 ?_;refine A8 (A6 ?_);refine A5 J J J (B8 J gU J J J J J) ?_;refine C7 J J J J J J gU gU (P8 _ _ _ (by omega) (by omega)) J ?_;refine B0 ?_;refine B9 J (fun hc=>?_) (fun hc=>?_)
 ·try simp only [nn,B3,T.rows_len,Tk.rows_len] at hc
  have hlt:=(O3 hc).1
  have hs : F0 l [44] q=q.go:=by rw[F0,if_pos hc]
  have h1:=H0 l [] q.go
  have hg : q.go.at'=q.at' + 1:=rfl
  obtain ⟨n,rfl⟩ : ∃ k,n=k + 1:=⟨n - 1,by omega⟩
  rw[Rt hc] at hi
  have hsy:=F7 l q [44] (by omega) (by omega)
  rw[hs] at hsy
  refine C0 ?_;refine C4 ?_;refine A8 (A6 ?_);refine A5 J J J (B8 J gU J J J J J) ?_;refine C7 J J J J J J gU gU (hsy) J ?_;refine C7 J J J J J J gU gU (K1 l q.go (by omega) (by omega)) J ?_;refine A5 J J J (A7 J gU) ?_;refine A5 J J J (C6 J gU J) ?_;refine A5 J J J (C6 J gU J) ?_;refine A5 J J J (A9 J gU) ?_;refine C3 J (C8 J J J J J J J) ?_;refine B0 ?_;refine B6 (s:=⟨[(1,_,_),(3,_,_),(4,_,_),(5,_,_)],[(.l 1,_),(.l 3,_)],[(.t 5,_)],[]⟩) (B4 (⟨U J,U J,U J,U J,O⟩) (⟨U J,U J,O⟩) (⟨rfl,O⟩)) ?_;refine A6 ?_;refine C3 J (E8 (.inl J) J J J) ?_;refine A5 J J J (A7 J gU) ?_;refine E6 (xs:=[_]) J J J J J J J J J gU J ?_;refine C3 J (F8 J J J J J J J (by first|omega|(simp only [List.length_append,List.length_singleton,B3]; omega)) (by first|omega|(simp only [List.length_append,List.length_singleton,B3]; omega))) ?_;refine C3 J (E8 (.inr J) J J J) ?_;refine B0 ?_;refine ⟨((C9 l [] q.go).2,out++[(C9 l [] q.go).1],(C9 l [] q.go).1),?_,?_,B4 (⟨⟨_,rfl,?_⟩,⟨⟨_,rfl,?_⟩,⟨U J,U J,O⟩⟩⟩) (⟨⟨_,rfl,?_⟩,⟨U J,O⟩⟩) (⟨rfl,O⟩)⟩
  ·exact ⟨h1.2 (by omega),by simp only [List.length_append,List.length_singleton]; omega,n,by dsimp only; omega,hi⟩
  ·dsimp only; omega
  ·rfl
  ·exact tx (Y3 _ _)
  all_goals rfl
 ·try simp only [nn,B3,T.rows_len,Tk.rows_len] at hc
  rw[Ei hc] at hi
  refine E1 ?_
  repeat(first|refine D5 ?_|refine D6 ?_|refine D2 J ?_)
  refine A8 ?_;refine awp_drawn' (by kernel_rfl) ?_;refine Ai J (.inl J) J J J J J ?_;refine D7 J J J J J J J gU J J J J J ?_;refine Ai J (.inr J) J J J J J ?_;refine F3 J J J J J J J J J J J J ?_;refine F6 (by kernel_rfl) ?_;refine C1 ?_
  repeat(first|refine tR ?_|refine bR ?_)
  refine C5 J ?_ O
  (rw[← hi]; rfl)
theorem Xk : ∀ (n : Nat) (ts : List T),ts.length≤n→n≤3000000→0 < ts.length→Ctr sys 165 [xl ts] [] (xm (tupT ts)) none []:=by
 intro n
 induction n with
 | zero=>intro ts h _ h0; omega
 | succ n ih =>
  intro ts hts hn h0
  have hrl:=T.rows_len ts
  refine D1 Tryz.func165 J J J J J J ?_;refine A8 (A6 ?_);refine C3 J (D9 J J J) ?_;refine B0 ?_;refine A8 ?_;refine A8 (A6 ?_);refine A5 J J J (A7 J gU) ?_;refine E0 J J J J J gU J J ?_ (fun hh=>by simp at hh); intro hlen;refine A5 J J J (B7 J J gU gU J) ?_;refine B0 ?_;refine B9 J (fun hc=>?_) (fun hc=>?_)
  ·try simp only [nn,B3,T.rows_len,Tk.rows_len] at hc
   obtain ⟨t,rfl⟩ : ∃ t,ts=[t]:=by
    match ts,hc with
    | [t],_=>exact ⟨t,rfl⟩
    | [],h=>simp at h
    | _ :: _ :: _,h=>simp at h; omega
   refine A8 (A6 ?_);refine A5 J J J (A7 J gU) ?_;refine A5 J J J (C2 (j:=0) J J gU gU J J (by first|omega|(simp at hh ⊢; omega)) (fun hh=>T.rows_at (by first|omega|(simp at hh ⊢; omega)))) ?_;refine A5 J J J (D4 J gU J J J J) ?_;refine C3 J (C8 J J J J J J J) ?_;refine B0 ?_;refine C1 ?_
   repeat(first|refine tR ?_|refine bR ?_)
   refine C5 J ?_ O
   rfl
  ·try simp only [nn,B3,T.rows_len,Tk.rows_len] at hc
   obtain ⟨t,u,r,rfl⟩ : ∃ t u r,ts=t :: u :: r:=by
    match ts,hc,h0 with
    | [t],h,_=>exact absurd J h
    | [],_,h=>simp at h
    | t :: u :: r,_,_=>exact ⟨t,u,r,rfl⟩
   simp only [List.length_cons] at hts hrl
   have htu:=ih (u :: r) (by simp only [List.length_cons]; omega) (by omega) (by simp)
   have htu2 : ∀ rs : List (List C),rs=T.rows (u :: r)→Ctr sys 165 [.v (.c (.sl 4 rs))] [] (xm (tupT (u :: r))) none []:=by
    intro rs h; subst h; exact htu
   refine C0 ?_;refine A8 ?_;refine awp_drawn' (by kernel_rfl) ?_;refine B5 J J J J (A7 J gU) ?_;refine B5 J J J J (C2 (j:=0) J J gU gU J J (by first|omega|(simp at hh ⊢; omega)) (fun hh=>T.rows_at (by first|omega|(simp at hh ⊢; omega)))) ?_;refine B5 J J J J (D4 J gU J J J J) ?_;refine B5 J J J J (A7 J gU) ?_;refine B5 J J J J (Bk (l:=1) J gU J J (fun _=>⟨_,_,_,rfl,gU,by first|omega|(simp at hh ⊢; omega)⟩) (fun _=>rfl) (fun hh=>by first|omega|(simp at hh ⊢; omega)) (fun hh=>by first|omega|(simp at hh ⊢; omega))) ?_;refine E9 J J J J J J J gU gU (htu2 _ (by simp [T.rows_eq,List.take_of_length_le])) J ?_;refine W6 (xs:=[_,_]) J J J J J J J J J J gU J ?_;refine E9 J J J J J J J gU gU (Fo _ _ [t,tupT (u :: r)] (by simp [T.rows_eq,T.cells]) (by simp)) J ?_;refine F3 J J J J J J J J J J J J ?_;refine F6 (by kernel_rfl) ?_;refine C1 ?_
   repeat(first|refine tR ?_|refine bR ?_)
   refine C5 J ?_ O
   rfl
theorem Qu (ts : List T) (rs : List (List C)) (h : rs=T.rows ts) (hts : ts.length≤3000000) (h0 : 0 < ts.length) : Ctr sys 165 [.v (.c (.sl 4 rs))] [] (xm (tupT ts)) none []:=by
 subst h; exact Xk _ ts hts (Nat.le_refl _) h0
theorem Cu (l : List Tk) (n : Nat) (hl : l.length≤2000000) (ih : ∀ p : PS,p.at'≤l.length→l.length - p.at' < n→Ctr sys 153 [xr l p] [] (.tup [.agg (G5 l n p).1.cells, .agg (pbx l (G5 l n p).2)]) none []) (hf : Fwd l (G5 l n)) (p : PS) (hp : p.at'≤l.length) (hn : l.length - p.at' < n) :
  Ctr sys 155 [xr l p] [] (.tup [.c (.sl 4 (T.rows (H1 l (G5 l n) p).1)), .agg (pbx l (H1 l (G5 l n) p).2)]) none []:=by
 have hrl:=Tk.rows_len l
 have h0:=hf p
 refine D1 Tryz.func155 J J J J J J ?_;refine A8 (A6 ?_);refine C3 J (D8 J J J J) ?_;refine C3 J (H4 (.inr J) J J) ?_;refine C3 J (D9 J J J) ?_;refine B0 ?_;refine A8 (A6 ?_);refine A5 J J J (B8 J gU J J J J J) ?_;refine C7 J J J J J J gU gU (ih p hp hn) J ?_;refine A5 J J J (A7 J gU) ?_;refine A5 J J J (C6 J gU J) ?_;refine A5 J J J (C6 J gU J) ?_;refine C3 J (D9 J J J) ?_;refine C3 J (C8 J J J J J J J) ?_;refine C3 J (C8 J J J J J J J) ?_;refine B0 ?_;refine B6 (s:=⟨[(1,_,_),(3,_,_),(4,_,_)],[(.l 1,_),(.l 3,_),(.l 4,_)],[],[]⟩) (B4 (⟨U J,U J,U J,O⟩) (⟨U J,U J,U J,O⟩) O) ?_;refine A8 (A6 ?_);refine A5 J J J (B8 J gU J J J J J) ?_;refine E6 (xs:=[_]) J J J J J J J J J gU J ?_;refine C3 J (E8 (.inr J) J J J) ?_;refine B0 ?_;refine A8 ?_;refine C4 ?_;refine F2 (ι:=PS × List T × T) { t:=[(1,_,_),(3,_,_),(4,_,_)],bx:=[(.l 3,_)],ow:=[(.t 5,_)] } (fun q=>[(5,true,xl q.2.1)]) (fun q=>[((.l 4),q.2.2.cells),((.l 1),pbx l q.1)]) (fun q=>p.at'≤q.1.at'∧q.1.at'≤l.length∧q.2.1.length≤q.1.at' + 1 ∧ ∃ k,l.length + 1≤k + q.1.at'∧M0 l (G5 l n) k q.1 q.2.1=H1 l (G5 l n) p) (fun q=>l.length - q.1.at') (((G5 l n p).2,[(G5 l n p).1],(G5 l n p).1)) (⟨h0.1,h0.2 hp,by simp,_,by dsimp only; omega,rfl⟩) (B4 (⟨⟨_,rfl,by exact tx (Ey [] (G5 l n p).1)⟩,⟨U J,U J,U J,O⟩⟩) (⟨U J,U J,U J,O⟩) (⟨rfl,O⟩)) ?_
 intro q hok
 dsimp only [List.cons_append,List.nil_append] at *
 obtain ⟨q,out,x⟩:=q
 dsimp only at hok ⊢
 obtain ⟨hq0,hq,ho,k,hk,hi⟩:=hok
 have hro:=T.rows_len out
 refine A8 ?_;refine A8 (A6 ?_);refine A5 J J J (B8 J gU J J J J J) ?_;refine C7 J J J J J J gU gU (P8 _ _ _ (by omega) (by omega)) J ?_;refine B0 ?_;refine B9 J (fun hc=>?_) (fun hc=>?_)
 ·try simp only [nn,B3,T.rows_len,Tk.rows_len] at hc
  have hlt:=(O3 hc).1
  have hs : F0 l [44] q=q.go:=by rw[F0,if_pos hc]
  have hg : q.go.at'=q.at' + 1:=rfl
  have h1:=hf q.go
  obtain ⟨k,rfl⟩ : ∃ j,k=j + 1:=⟨k - 1,by omega⟩
  rw[Rt hc] at hi
  have hsy:=F7 l q [44] (by omega) (by omega)
  rw[hs] at hsy
  refine C0 ?_;refine C4 ?_;refine A8 (A6 ?_);refine A5 J J J (B8 J gU J J J J J) ?_;refine C7 J J J J J J gU gU (hsy) J ?_;refine C7 J J J J J J gU gU (ih q.go (by omega) (by omega)) J ?_;refine A5 J J J (A7 J gU) ?_;refine A5 J J J (C6 J gU J) ?_;refine A5 J J J (C6 J gU J) ?_;refine C3 J (C8 J J J J J J J) ?_;refine C3 J (C8 J J J J J J J) ?_;refine B0 ?_;refine B6 (s:=⟨[(1,_,_),(3,_,_),(4,_,_),(5,_,_)],[(.l 1,_),(.l 3,_),(.l 4,_)],[(.t 5,_)],[]⟩) (B4 (⟨U J,U J,U J,U J,O⟩) (⟨U J,U J,U J,O⟩) (⟨rfl,O⟩)) ?_;refine A6 ?_;refine C3 J (E8 (.inl J) J J J) ?_;refine A5 J J J (B8 J gU J J J J J) ?_;refine E6 (xs:=[_]) J J J J J J J J J gU J ?_;refine C3 J (F8 J J J J J J J (by first|omega|(simp only [List.length_append,List.length_singleton,T.rows_len]; omega)) (by first|omega|(simp only [List.length_append,List.length_singleton,T.rows_len]; omega))) ?_;refine C3 J (E8 (.inr J) J J J) ?_;refine B0 ?_;refine ⟨((G5 l n q.go).2,out++[(G5 l n q.go).1],(G5 l n q.go).1),?_,?_,B4 (⟨⟨_,rfl,?_⟩,⟨U J,U J,U J,O⟩⟩) (⟨⟨_,rfl,?_⟩,⟨⟨_,rfl,?_⟩,⟨U J,O⟩⟩⟩) (⟨rfl,O⟩)⟩
  ·exact ⟨by dsimp only; omega,h1.2 (by omega),by simp only [List.length_append,List.length_singleton]; omega,k,by dsimp only; omega,hi⟩
  ·dsimp only; omega
  all_goals first
   | rfl
   | exact tx (Ey out (G5 l n q.go).1)
 ·try simp only [nn,B3,T.rows_len,Tk.rows_len] at hc
  rw[Ei hc] at hi
  refine E1 ?_
  repeat(first|refine D5 ?_|refine D6 ?_|refine D2 J ?_)
  refine A8 ?_;refine awp_drawn' (by kernel_rfl) ?_;refine Ai J (.inl J) J J J J J ?_;refine D7 J J J J J J J gU J J J J J ?_;refine Ai J (.inr J) J J J J J ?_;refine F3 J J J J J J J J J J J J ?_;refine F6 (by kernel_rfl) ?_;refine C1 ?_
  repeat(first|refine tR ?_|refine bR ?_)
  refine C5 J ?_ O
  (rw[← hi]; rfl)
theorem V3 (l : List Tk) (n : Nat) : Fwd l (G5 l n):=fun p=>by rw[(Ev l n p).1]; exact By l n p
theorem Mj (l : List Tk) (n : Nat) (p : PS) : (H1 l (G5 l n) p).1.length + p.at'≤1 + (H1 l (G5 l n) p).2.at':=Di (V3 l n) p
theorem Zw {l : List Tk} {n : Nat} {p : PS} (h : symQ l p [60]=true) (hb : (F0 l [62] (H1 l (G5 l n) (F0 l [44] (G5 l n p.go).2)).2).bad=true) : G5 l (n + 1) p=(T0,F0 l [62] (H1 l (G5 l n) (F0 l [44] (G5 l n p.go).2)).2):=by
 rw[G5,if_pos h,if_pos hb]
theorem uBo {l : List Tk} {n : Nat} {p : PS} (h : symQ l p [60]=true) (hb : (F0 l [62] (H1 l (G5 l n) (F0 l [44] (G5 l n p.go).2)).2).bad=false) :
  G5 l (n + 1) p=(tupT ((G5 l n p.go).1 :: (H1 l (G5 l n) (F0 l [44] (G5 l n p.go).2)).1),F0 l [62] (H1 l (G5 l n) (F0 l [44] (G5 l n p.go).2)).2):=by
 rw[G5,if_pos h,if_neg (by rw[hb]; simp)]
theorem uBR {l : List Tk} {n : Nat} {p : PS} (h : symQ l p [60]=false) (h2 : symQ l (C9 l [] p).2 [40]=false) : G5 l (n + 1) p=(⟨2,(C9 l [] p).1,0,[]⟩,(C9 l [] p).2):=by
 rw[G5,if_neg (by rw[h]; simp),if_neg (by rw[h2]; simp)]
theorem uBS {l : List Tk} {n : Nat} {p : PS} (h : symQ l p [60]=false) (h2 : symQ l (C9 l [] p).2 [40]=true) (h3 : symQ l (C9 l [] p).2.go [41]=true) : G5 l (n + 1) p=(⟨3,(C9 l [] p).1,0,[]⟩,(C9 l [] p).2.go.go):=by
 rw[G5,if_neg (by rw[h]; simp),if_pos h2,if_pos h3]
theorem uB1 {l : List Tk} {n : Nat} {p : PS} (h : symQ l p [60]=false) (h2 : symQ l (C9 l [] p).2 [40]=true) (h3 : symQ l (C9 l [] p).2.go [41]=false) :
  G5 l (n + 1) p=(⟨3,(C9 l [] p).1,0,(H1 l (G5 l n) (C9 l [] p).2.go).1⟩,F0 l [41] (H1 l (G5 l n) (C9 l [] p).2.go).2):=by
 rw[G5,if_neg (by rw[h]; simp),if_pos h2,if_neg (by rw[h3]; simp)]
set_option maxHeartbeats 4000000 in
theorem Am (l : List Tk) (hl : l.length≤2000000) : ∀ (n : Nat) (p : PS),p.at'≤l.length→l.length - p.at' < n→Ctr sys 153 [xr l p] [] (.tup [.agg (G5 l n p).1.cells, .agg (pbx l (G5 l n p).2)]) none []:=by
 intro n
 induction n with
 | zero=>intro p _ h; omega
 | succ n ih =>
  intro p hp hn
  have hrl:=Tk.rows_len l
  have hg : ∀ q : PS,q.go.at'=q.at' + 1:=fun _=>rfl
  have hml : ∀ q : PS,(T.rows (H1 l (G5 l n) q).1).length=(H1 l (G5 l n) q).1.length:=fun q=>T.rows_len _
  refine D1 Tryz.func153 J J J J J J ?_;refine A8 (A6 ?_);refine C3 J (D8 J J J J) ?_;refine C3 J (D9 J J J) ?_;refine C3 J (D9 J J J) ?_;refine B0 ?_;refine A8 ?_;refine A8 (A6 ?_);refine A5 J J J (B8 J gU J J J J J) ?_;refine C7 J J J J J J gU gU (P8 _ _ _ (by omega) (by omega)) J ?_;refine B0 ?_;refine B6 (s:=⟨[(1,_,_),(2,_,_),(3,_,_),(10,_,_)],[(.l 1,_),(.l 2,_),(.l 3,_)],[],[]⟩) (B4 (⟨U J,U J,U J,U J,O⟩) (⟨U J,U J,U J,O⟩) O) ?_;refine B9 J (fun hc=>?_) (fun hc=>?_)
  ·try simp only [nn,B3,T.rows_len,Tk.rows_len] at hc
   have hlt:=(O3 hc).1
   have hs : F0 l [60] p=p.go:=by rw[F0,if_pos hc]
   have hgp:=hg p
   have a1:=V3 l n p.go
   have a2:=J8 l [44] (G5 l n p.go).2
   have a3:=S7 (V3 l n) (F0 l [44] (G5 l n p.go).2)
   have a4:=J8 l [62] (H1 l (G5 l n) (F0 l [44] (G5 l n p.go).2)).2
   have a5:=Mj l n (F0 l [44] (G5 l n p.go).2)
   have a6:=hml (F0 l [44] (G5 l n p.go).2)
   have hsy:=F7 l p [60] (by omega) (by omega)
   rw[hs] at hsy
   refine A8 (A6 ?_);refine A5 J J J (B8 J gU J J J J J) ?_;refine C7 J J J J J J gU gU (hsy) J ?_;refine C7 J J J J J J gU gU (ih p.go (by omega) (by omega)) J ?_;refine A5 J J J (A7 J gU) ?_;refine A5 J J J (C6 J gU J) ?_;refine A5 J J J (C6 J gU J) ?_;refine C3 J (D9 J J J) ?_;refine C3 J (D9 J J J) ?_;refine C3 J (C8 J J J J J J J) ?_;refine C3 J (C8 J J J J J J J) ?_;refine B0 ?_;refine B6 (s:=⟨[(2,_,_),(3,_,_),(4,_,_),(5,_,_)],[(.l 2,_),(.l 3,_),(.l 4,_),(.l 5,_)],[],[]⟩) (B4 (⟨U J,U J,U J,U J,O⟩) (⟨U J,U J,U J,U J,O⟩) O) ?_;refine A8 (A6 ?_);refine A5 J J J (B8 J gU J J J J J) ?_;refine C7 J J J J J J gU gU (F7 l (G5 l n p.go).2 [44] (by omega) (by omega)) J ?_;refine C7 J J J J J J gU gU (Cu l n hl ih (V3 l n) (F0 l [44] (G5 l n p.go).2) (by omega) (by omega)) J ?_;refine A5 J J J (A7 J gU) ?_;refine A5 J J J (C6 J gU J) ?_;refine A5 J J J (C6 J gU J) ?_;refine A5 J J J (A9 J gU) ?_;refine C3 J (C8 J J J J J J J) ?_
   refine B0 ?_;refine B6 (s:=⟨[(2,_,_),(3,_,_),(4,_,_),(5,_,_),(6,_,_)],[(.l 2,_),(.l 3,_),(.l 4,_),(.l 5,_)],[],[]⟩) (B4 (⟨U J,U J,U J,U J,U J,O⟩) (⟨U J,U J,U J,U J,O⟩) O) ?_;refine A8 (A6 ?_);refine A5 J J J (B8 J gU J J J J J) ?_;refine C7 J J J J J J gU gU (F7 l (H1 l (G5 l n) (F0 l [44] (G5 l n p.go).2)).2 [62] (by omega) (by omega)) J ?_;refine C3 J (C8 J J J J J J J) ?_;refine B0 ?_;refine A8 ?_;refine A8 (A6 ?_);refine A5 J J J (B1 J gU J J) ?_;refine A5 J J J (B2 J gU J J J J) ?_;refine B0 ?_;refine B9 J (fun hc2=>?_) (fun hc2=>?_)
   ·try simp only [nn,B3,T.rows_len,Tk.rows_len] at hc2
    rw[Zw hc hc2]
    refine A8 ?_;refine awp_drawn' (by kernel_rfl) ?_;refine B5 J J J J (G7 J Tryz.underlying47 J gU) ?_;refine D7 J J J J J J J gU J J J J J ?_;refine F3 J J J J J J J J J J J J ?_;refine F3 J J J J J J J J J J J J ?_;refine F6 (by kernel_rfl) ?_;refine C1 ?_
    repeat(first|refine tR ?_|refine bR ?_)
    refine C5 J ?_ O
    rfl
   ·try simp only [nn,B3,T.rows_len,Tk.rows_len] at hc2
    rw[uBo hc hc2]
    refine C0 ?_;refine A8 ?_;refine awp_drawn' (by kernel_rfl) ?_;refine D7 J J J J J J J gU J J J J J ?_;refine W6 (xs:=[_]) J J J J J J J J J J gU J ?_;refine B5 J J J J (A7 J gU) ?_;refine Y1 J J J J J J J J J J J (by first|omega|(simp only [List.length_append,List.length_singleton,T.rows_len]; omega)) (by first|omega|(simp only [List.length_append,List.length_singleton,T.rows_len]; omega)) ?_;refine E9 J J J J J J J gU gU (Qu ((G5 l n p.go).1 :: (H1 l (G5 l n) (F0 l [44] (G5 l n p.go).2)).1) _ (by rw[T.rows_eq,T.rows_eq]; rfl) (by simp only [List.length_cons]; omega) (by simp)) J ?_;refine D7 J J J J J J J gU J J J J J ?_;refine F3 J J J J J J J J J J J J ?_;refine F3 J J J J J J J J J J J J ?_;refine F6 (by kernel_rfl) ?_;refine C1 ?_
    repeat(first|refine tR ?_|refine bR ?_)
    refine C5 J ?_ O
    rfl
  ·try simp only [nn,B3,T.rows_len,Tk.rows_len] at hc
   have a1:=H0 l [] p
   refine C0 ?_;refine A8 (A6 ?_);refine A5 J J J (B8 J gU J J J J J) ?_;refine C7 J J J J J J gU gU (K1 l p (by omega) (by omega)) J ?_;refine A5 J J J (A7 J gU) ?_;refine A5 J J J (C6 J gU J) ?_;refine A5 J J J (C6 J gU J) ?_;refine A5 J J J (A9 J gU) ?_;refine C3 J (C8 J J J J J J J) ?_;refine B0 ?_;refine B6 (s:=⟨[(1,_,_),(2,_,_),(3,_,_),(7,_,_)],[(.l 1,_),(.l 2,_),(.l 3,_)],[],[]⟩) (B4 (⟨U J,U J,U J,U J,O⟩) (⟨U J,U J,U J,O⟩) O) ?_;refine A8 ?_;refine A8 (A6 ?_);refine A5 J J J (B1 J gU J J) ?_;refine A5 J J J (B2 J gU J J J J) ?_;refine A5 J J J (A7 J gU) ?_;refine A5 J J J (B8 J gU J J J J J) ?_;refine C7 J J J J J J gU (fun hh=>gA ((fun hh=>hh) hh) (gA J (rfl))) (P8 _ _ _ (by omega) (by omega)) J ?_;refine A5 J J J (F9 J (fun hh=>hh)) ?_;refine A5 J J J (E5 J J gU (fun _ hi=>gP J hi)) ?_;refine B0 ?_;refine B6 (s:=⟨[(1,_,_),(2,_,_),(3,_,_),(7,_,_),(46,_,_)],[(.l 1,_),(.l 2,_),(.l 3,_)],[],[]⟩) (B4 (⟨U J,U J,U J,U J,U J,O⟩) (⟨U J,U J,U J,O⟩) O) ?_
   refine B9 J (fun hc2=>?_) (fun hc2=>?_)
   ·try simp only [nn,B3,T.rows_len,Tk.rows_len] at hc2
    have h2 : symQ l (C9 l [] p).2 [40]=false:=by
     rcases hc2 with q | q
     ·exact S1 q
     ·exact q
    rw[uBR hc h2]
    refine A8 ?_;refine awp_drawn' (by kernel_rfl) ?_;refine B5 J J J J (A7 J gU) ?_;refine E9 J J J J J J J gU gU (Yc _ _) J ?_;refine D7 J J J J J J J gU J J J J J ?_;refine F3 J J J J J J J J J J J J ?_;refine F3 J J J J J J J J J J J J ?_;refine F6 (by kernel_rfl) ?_;refine C1 ?_
    repeat(first|refine tR ?_|refine bR ?_)
    refine C5 J ?_ O
    rfl
   ·try simp only [nn,B3,T.rows_len,Tk.rows_len] at hc2
    have h2:=hc2.2
    have hlt:=(O3 h2).1
    have hg2:=hg (C9 l [] p).2
    have hs2 : F0 l [40] (C9 l [] p).2=(C9 l [] p).2.go:=by rw[F0,if_pos h2]
    have hsy:=F7 l (C9 l [] p).2 [40] (by omega) (by omega)
    rw[hs2] at hsy
    refine C0 ?_;refine A8 (A6 ?_);refine A5 J J J (B8 J gU J J J J J) ?_;refine C7 J J J J J J gU gU (hsy) J ?_;refine C3 J (C8 J J J J J J J) ?_;refine B0 ?_;refine A8 ?_;refine A8 (A6 ?_);refine A5 J J J (B8 J gU J J J J J) ?_;refine C7 J J J J J J gU gU (P8 _ _ _ (by omega) (by omega)) J ?_;refine B0 ?_;refine B9 J (fun hc3=>?_) (fun hc3=>?_)
    ·try simp only [nn,B3,T.rows_len,Tk.rows_len] at hc3
     have hlt3:=(O3 hc3).1
     rw[uBS hc h2 hc3]
     have hs3 : F0 l [41] (C9 l [] p).2.go=(C9 l [] p).2.go.go:=by rw[F0,if_pos hc3]
     have hsy3:=F7 l (C9 l [] p).2.go [41] (by omega) (by omega)
     rw[hs3] at hsy3
     refine A8 ?_;refine awp_drawn' (by kernel_rfl) ?_;refine B5 J J J J (A7 J gU) ?_;refine E9 J J J J J J J gU gU (Fo _ _ [] J (by simp)) J ?_;refine D7 J J J J J J J gU J J J J J ?_;refine E9 J J J J J J J gU gU (hsy3) J ?_;refine F3 J J J J J J J J J J J J ?_;refine F3 J J J J J J J J J J J J ?_;refine F6 (by kernel_rfl) ?_;refine C1 ?_
     repeat(first|refine tR ?_|refine bR ?_)
     refine C5 J ?_ O
     rfl
    ·try simp only [nn,B3,T.rows_len,Tk.rows_len] at hc3
     rw[uB1 hc h2 hc3]
     have a3:=S7 (V3 l n) (C9 l [] p).2.go
     have a5:=Mj l n (C9 l [] p).2.go
     refine C0 ?_;refine A8 (A6 ?_);refine A5 J J J (B8 J gU J J J J J) ?_;refine C7 J J J J J J gU gU (Cu l n hl ih (V3 l n) (C9 l [] p).2.go (by omega) (by omega)) J ?_;refine A5 J J J (A7 J gU) ?_;refine A5 J J J (C6 J gU J) ?_;refine A5 J J J (C6 J gU J) ?_;refine A5 J J J (A9 J gU) ?_;refine C3 J (C8 J J J J J J J) ?_;refine B0 ?_;refine B6 (s:=⟨[(1,_,_),(2,_,_),(3,_,_),(7,_,_),(8,_,_)],[(.l 1,_),(.l 2,_),(.l 3,_)],[],[]⟩) (B4 (⟨U J,U J,U J,U J,U J,O⟩) (⟨U J,U J,U J,O⟩) O) ?_;refine A8 ?_;refine awp_drawn' (by kernel_rfl) ?_;refine B5 J J J J (A7 J gU) ?_;refine B5 J J J J (A7 J gU) ?_;refine E9 J J J J J J J gU gU (Fo _ _ (H1 l (G5 l n) (C9 l [] p).2.go).1 J (by omega)) J ?_;refine D7 J J J J J J J gU J J J J J ?_;refine E9 J J J J J J J gU gU (F7 l (H1 l (G5 l n) (C9 l [] p).2.go).2 [41] (by omega) (by omega)) J ?_;refine F3 J J J J J J J J J J J J ?_;refine F3 J J J J J J J J J J J J ?_;refine F6 (by kernel_rfl) ?_;refine C1 ?_
     repeat(first|refine tR ?_|refine bR ?_)
     refine C5 J ?_ O
     rfl
def soC (n : Nar) (u1 u2 u3 u4 u5 : Value) : List C:=[.s n.name, .so u1 1 (strR n.roles), .so u2 3 (Fs.rows n.fresh), .so u3 1 (strR n.tags), .so u4 7 (Sp.rows n.steps), .so u5 5 (Gl.rows n.goals)]
abbrev narC (a : List UInt8) (r1 r2 r3 r4 r5 : List (List C)) : List C:=[.s a, .sl 1 r1, .sl 3 r2, .sl 1 r3, .sl 7 r4, .sl 5 r5]
abbrev Zq (a : List UInt8) (r1 r2 r3 r4 r5 : List (List C)) (u1 u2 u3 u4 u5 : Value) : List C:=[.s a, .so u1 1 r1, .so u2 3 r2, .so u3 1 r3, .so u4 7 r4, .so u5 5 r5]
theorem uBZ {st st' : St} {n : Nm} {cs : List C} (hb : st'.box n=some cs) (hbx : ∀ m,m≠n→st'.box m=st.box m) (ht : st'.t=st.t) (ho : st'.ow=st.ow) (hm : st'.mp=st.mp) : Sub { st with bx:=(n,cs) :: st.bx } st' where
 t:=fun k e h=>by
  show getT st'.t k=some e
  rw[ht]; exact h
 bx:=fun m ds h=>by
  have h2 : getB ((n,cs) :: st.bx) m=some ds:=h
  rw[G6] at h2
  split at h2
  ·rename_i he; subst he; rw[hb]; exact h2
  ·rename_i he; rw[hbx m fun q=>he q.symm]; exact h2
 ow:=fun p sz h=>by
  show getO st'.ow p=some sz
  rw[ho]; exact h
 mp:=.inr hm.symm
theorem U6 (st : St) (n : Nm) (cs : List C) (m : Nm) : ({ st with bx:=(n,cs) :: st.bx } : St).box m=if n=m then some cs else st.box m:=G6 _ _ _ _
theorem H9 {N : Nat} {c : Code} {Q : Exit→St→Prop} {st : St} (n : Nm) {a : List UInt8} {r1 r2 r3 r4 r5 : List (List C)} (hb : st.box n=some (narC a r1 r2 r3 r4 r5))
  (h : ∀ u1 u2 u3 u4 u5,AWP sysO N c Q { st with bx:=(n,Zq a r1 r2 r3 r4 r5 u1 u2 u3 u4 u5) :: st.bx }) : AWP sysO N c Q st:=by
 refine Bv n 1 hb J fun u1=>?_
 refine Bv n 2 ((U6 _ _ _ _).trans (if_pos J)) J fun u2=>?_
 refine Bv n 3 ((U6 _ _ _ _).trans (if_pos J)) J fun u3=>?_
 refine Bv n 4 ((U6 _ _ _ _).trans (if_pos J)) J fun u4=>?_
 refine Bv n 5 ((U6 _ _ _ _).trans (if_pos J)) J fun u5=>?_
 have hn : ∀ {m : Nm},m≠n → ¬n=m:=fun h q=>h q.symm
 exact B6 (uBZ ((U6 _ _ _ _).trans (if_pos J)) (fun m hm=>(U6 _ _ _ _).trans ((if_neg (hn hm)).trans ((U6 _ _ _ _).trans ((if_neg (hn hm)).trans ((U6 _ _ _ _).trans ((if_neg (hn hm)).trans ((U6 _ _ _ _).trans ((if_neg (hn hm)).trans ((U6 _ _ _ _).trans (if_neg (hn hm)))))))))) ) J J J) (h u1 u2 u3 u4 u5)
theorem uBa (st : St) (n m : Nm) (k sz : Nat) (cs : List C) (x : Nm) : ((({ st with bx:=(n,cs) :: st.bx } : St).unown (.b m k)).addOwn (.b n k) sz).box x=if n=x then some cs else st.box x:=G6 _ _ _ _
theorem uAk (st : St) (n m : Nm) (k sz : Nat) (cs : List C) (p : Pl) : ((({ st with bx:=(n,cs) :: st.bx } : St).unown (.b m k)).addOwn (.b n k) sz).own p=if .b n k=p then some sz else if p = .b m k then none else st.own p:=by
 rw[St.addOwn_own,St.unown_own]; rfl
def Zm (st : St) (m : Nm) : Bool:=decide (st.own (.b m 1)=some 1) && decide (st.own (.b m 2)=some 3) && decide (st.own (.b m 3)=some 1) && decide (st.own (.b m 4)=some 7) && decide (st.own (.b m 5)=some 5)
theorem I5 {N : Nat} {c : Code} {Q : Exit→St→Prop} {st : St} (n m : Nm) {a : List UInt8} {r1 r2 r3 r4 r5 : List (List C)} {u1 u2 u3 u4 u5 : Value} (hb : st.box n=some (Zq a r1 r2 r3 r4 r5 u1 u2 u3 u4 u5)) (hbm : st.box m=some (Zq a r1 r2 r3 r4 r5 u1 u2 u3 u4 u5))
  (ho : Zm st m=true) (hnb : n.isBd=false) (hne : Nm.beq m n=false)
  (h : AWP sysO N c Q { st with bx:=(n,narC a r1 r2 r3 r4 r5) :: st.bx,ow:=(.b n 1,1) :: (.b n 2,3) :: (.b n 3,1) :: (.b n 4,7) :: (.b n 5,5) :: st.ow.filter fun q=>!Pl.inBox m q.1 }) : AWP sysO N c Q st:=by
 have hmn : ¬n=m:=fun q=>by subst q; rw[Nm.beq_self] at hne; cases hne
 simp only [Zm,Bool.and_eq_true,decide_eq_true_eq] at ho
 obtain ⟨⟨⟨⟨o1,o2⟩,o3⟩,o4⟩,o5⟩:=ho
 have hpb : ∀ i j,Pl.beq (.b m i) (.b n j)=false:=fun i j=>by simp [Pl.beq,hne]
 have bn : ∀ (s : St) (k sz : Nat) (cs : List C),((({ s with bx:=(n,cs) :: s.bx } : St).unown (.b m k)).addOwn (.b n k) sz).box n=some cs:=fun s k sz cs=>(uBa s n m k sz cs n).trans (if_pos J)
 have bm : ∀ (s : St) (k sz : Nat) (cs : List C) {x : Nm},¬n=x→((({ s with bx:=(n,cs) :: s.bx } : St).unown (.b m k)).addOwn (.b n k) sz).box x=s.box x:=fun s k sz cs x hx=>(uBa s n m k sz cs x).trans (if_neg hx)
 have ow : ∀ (s : St) (k sz : Nat) (cs : List C) {p : Pl},¬Pl.b n k=p → ¬p=Pl.b m k→((({ s with bx:=(n,cs) :: s.bx } : St).unown (.b m k)).addOwn (.b n k) sz).own p=s.own p:=fun s k sz cs p h1 h2=>(uAk s n m k sz cs p).trans ((if_neg h1).trans (if_neg h2))
 have os : ∀ (s : St) (k sz : Nat) (cs : List C),((({ s with bx:=(n,cs) :: s.bx } : St).unown (.b m k)).addOwn (.b n k) sz).own (.b n k)=some sz:=fun s k sz cs=>(uAk s n m k sz cs _).trans (if_pos J)
 have dn : ∀ {i j : Nat} {x y : Nm},i≠j → ¬Pl.b x i=Pl.b y j:=fun h q=>by simp at q; exact h q.2
 have hnm : ∀ {i j : Nat},¬Pl.b n i=Pl.b m j:=fun q=>by simp at q; exact hmn q.1
 refine Cb n 1 m 1 hb J hbm J o1 hnb (hpb _ _) ?_;refine Cb n 2 m 2 (bn _ _ _ _) J ((bm _ _ _ _ hmn).trans hbm) J ((ow _ _ _ _ (dn (by decide)) (dn (by decide))).trans o2) hnb (hpb _ _) ?_;refine Cb n 3 m 3 (bn _ _ _ _) J ((bm _ _ _ _ hmn).trans ((bm _ _ _ _ hmn).trans hbm)) J ((ow _ _ _ _ (dn (by decide)) (dn (by decide))).trans ((ow _ _ _ _ (dn (by decide)) (dn (by decide))).trans o3)) hnb (hpb _ _) ?_;refine Cb n 4 m 4 (bn _ _ _ _) J ((bm _ _ _ _ hmn).trans ((bm _ _ _ _ hmn).trans ((bm _ _ _ _ hmn).trans hbm))) J
  ((ow _ _ _ _ (dn (by decide)) (dn (by decide))).trans ((ow _ _ _ _ (dn (by decide)) (dn (by decide))).trans ((ow _ _ _ _ (dn (by decide)) (dn (by decide))).trans o4))) hnb (hpb _ _) ?_
 refine Cb n 5 m 5 (bn _ _ _ _) J ((bm _ _ _ _ hmn).trans ((bm _ _ _ _ hmn).trans ((bm _ _ _ _ hmn).trans ((bm _ _ _ _ hmn).trans hbm)))) J
  ((ow _ _ _ _ (dn (by decide)) (dn (by decide))).trans ((ow _ _ _ _ (dn (by decide)) (dn (by decide))).trans ((ow _ _ _ _ (dn (by decide)) (dn (by decide))).trans ((ow _ _ _ _ (dn (by decide)) (dn (by decide))).trans o5)))) hnb (hpb _ _) ?_
 refine B6 ?_ h;refine ⟨fun k e q=>q,fun x cs q=>?_,fun p sz q=>?_, .inr J⟩
 ·have q2 : getB ((n,narC a r1 r2 r3 r4 r5) :: st.bx) x=some cs:=q
  clear q
  rw[G6] at q2
  split at q2
  ·rename_i he; subst he; exact (bn _ _ _ _).trans q2
  ·rename_i he
   have q:=q2
   exact (bm _ _ _ _ he).trans ((bm _ _ _ _ he).trans ((bm _ _ _ _ he).trans ((bm _ _ _ _ he).trans ((bm _ _ _ _ he).trans q))))
 ·have q3 : getO ((Pl.b n 1,1) :: (.b n 2,3) :: (.b n 3,1) :: (.b n 4,7) :: (.b n 5,5) :: st.ow.filter fun q=>!Pl.inBox m q.1) p=some sz:=q
  clear q
  have q:=q3
  clear q3
  simp only [M1] at q
  split at q
  ·rename_i he; subst he
   exact (ow _ _ _ _ (dn (by decide)) hnm).trans ((ow _ _ _ _ (dn (by decide)) hnm).trans ((ow _ _ _ _ (dn (by decide)) hnm).trans ((ow _ _ _ _ (dn (by decide)) hnm).trans ((os _ _ _ _).trans q))))
  rename_i p1
  split at q
  ·rename_i he; subst he
   exact (ow _ _ _ _ (dn (by decide)) hnm).trans ((ow _ _ _ _ (dn (by decide)) hnm).trans ((ow _ _ _ _ (dn (by decide)) hnm).trans ((os _ _ _ _).trans q)))
  rename_i p2
  split at q
  ·rename_i he; subst he
   exact (ow _ _ _ _ (dn (by decide)) hnm).trans ((ow _ _ _ _ (dn (by decide)) hnm).trans ((os _ _ _ _).trans q))
  rename_i p3
  split at q
  ·rename_i he; subst he
   exact (ow _ _ _ _ (dn (by decide)) hnm).trans ((os _ _ _ _).trans q)
  rename_i p4
  split at q
  ·rename_i he; subst he
   exact (os _ _ _ _).trans q
  rename_i p5
  rw[L9 (fun r=>!Pl.inBox m r)] at q
  split at q
  ·rename_i hin
   have hpm : ∀ {j : Nat},¬p=Pl.b m j:=fun e=>by subst e; simp [Pl.inBox,Nm.beq_self] at hin
   exact (ow _ _ _ _ p5 hpm).trans ((ow _ _ _ _ p4 hpm).trans ((ow _ _ _ _ p3 hpm).trans ((ow _ _ _ _ p2 hpm).trans ((ow _ _ _ _ p1 hpm).trans q))))
  ·cases q
def osR : OS:=[(0,1,1),(0,2,3),(0,3,1),(0,4,7),(0,5,5)]
abbrev xnr (l : List Tk) (r : Nar × PS) : X:=.tup [.agg r.1.cells, .agg (pbx l r.2)]
set_option maxHeartbeats 4000000 in
theorem Dm (l : List Tk) (p : PS) (n : Nar) (line : Int) (u1 u2 u3 u4 u5 : Value) (hl : l.length≤2000000) (hp : p.at'≤l.length) (hn : n.steps.length≤3000000) :
  CtrO sysO 134 [.v (.agg (soC n u1 u2 u3 u4 u5)),xr l p,xi line] [soC n u1 u2 u3 u4 u5] osR (xnr l ({ n with steps:=n.steps++[(Ck l line p).1] },(Ck l line p).2)) [soC n u1 u2 u3 u4 u5] .res:=by
 have hrs:=Sp.rows_len n.steps
 have hrl:=Tk.rows_len l
 refine N8 Tryz.func134 J J J J J J J ?_;refine A8 (A6 ?_);refine C3 J (D8 J J J J) ?_;refine C3 J (D8 J J J J) ?_;refine C3 J (D9 J J J) ?_;refine C3 J (D9 J J J) ?_;refine B0 ?_;refine B6 (s:=⟨[(2,_,_),(3,_,_),(4,_,_),(6,_,_),(7,_,_)],[(.l 3,_),(.l 4,_),(.l 6,_),(.l 7,_),(.o 0,_)],[(.b (.o 0) 1,_),(.b (.o 0) 2,_),(.b (.o 0) 3,_),(.b (.o 0) 4,_),(.b (.o 0) 5,_)],[]⟩) (B4 (⟨U J,U J,U J,U J,U J,O⟩) (⟨U J,U J,U J,U J,U J,O⟩) (⟨rfl,rfl,rfl,rfl,rfl,O⟩)) ?_;refine I5 (.l 3) (.o 0) J J J J J ?_;refine B6 (s:=⟨[(2,_,_),(3,_,_),(4,_,_),(6,_,_),(7,_,_)],[(.l 3,_),(.l 4,_),(.l 6,_),(.l 7,_),(.o 0,_)],[(.b (.l 3) 1,_),(.b (.l 3) 2,_),(.b (.l 3) 3,_),(.b (.l 3) 4,_),(.b (.l 3) 5,_)],[]⟩) (B4 (⟨U J,U J,U J,U J,U J,O⟩) (⟨U J,U J,U J,U J,U J,O⟩) (⟨rfl,rfl,rfl,rfl,rfl,O⟩)) ?_;refine A8 (A6 ?_);refine A5 J J J (A7 J gU) ?_;refine A5 J J J (G7 J Tryz.underlying49 J gU) ?_;refine C3 J (D9 J J J) ?_;refine C3 J (C8 J J J J J J J) ?_;refine B0 ?_
 refine A8 (A6 ?_);refine A5 J J J (B8 J gU J J J J J) ?_;refine C7 J J J J J J gU gU (up (K1 l _ (by omega) (le3 hl (by repeat(first|exact hp|refine N5 ?_|refine K7 ?_))))) J ?_;refine A5 J J J (A7 J gU) ?_;refine A5 J J J (C6 J gU J) ?_;refine A5 J J J (C6 J gU J) ?_;refine A5 J J J (B1 J gU J J) ?_;refine C3 J (C8 J J J J J J J) ?_;refine C3 J (C8 J J J J J J J) ?_;refine B0 ?_;refine B6 (s:=⟨[(3,_,_),(4,_,_),(6,_,_),(7,_,_),(8,_,_)],[(.l 3,_),(.l 4,_),(.l 6,_),(.l 7,_),(.l 8,_),(.o 0,_)],[(.b (.l 3) 1,_),(.b (.l 3) 2,_),(.b (.l 3) 3,_),(.b (.l 3) 4,_),(.b (.l 3) 5,_)],[]⟩) (B4 (⟨U J,U J,U J,U J,U J,O⟩) (⟨U J,U J,U J,U J,U J,U J,O⟩) (⟨rfl,rfl,rfl,rfl,rfl,O⟩)) ?_;refine A8 (A6 ?_);refine A5 J J J (B8 J gU J J J J J) ?_;refine C7 J J J J J J gU gU (up (F7 l _ _ (by omega) (le3 hl (by repeat(first|exact hp|refine N5 ?_|refine K7 ?_))))) J ?_;refine C7 J J J J J J gU gU (up (F7 l _ _ (by omega) (le3 hl (by repeat(first|exact hp|refine N5 ?_|refine K7 ?_))))) J ?_
 refine C3 J (C8 J J J J J J J) ?_;refine B0 ?_;refine A8 (A6 ?_);refine A5 J J J (B8 J gU J J J J J) ?_;refine C7 J J J J J J gU gU (up (K1 l _ (by omega) (le3 hl (by repeat(first|exact hp|refine N5 ?_|refine K7 ?_))))) J ?_;refine A5 J J J (A7 J gU) ?_;refine A5 J J J (C6 J gU J) ?_;refine A5 J J J (C6 J gU J) ?_;refine A5 J J J (B1 J gU J J) ?_;refine C3 J (C8 J J J J J J J) ?_;refine C3 J (C8 J J J J J J J) ?_;refine B0 ?_;refine B6 (s:=⟨[(3,_,_),(4,_,_),(6,_,_),(7,_,_),(8,_,_)],[(.l 3,_),(.l 4,_),(.l 6,_),(.l 7,_),(.l 8,_),(.o 0,_)],[(.b (.l 3) 1,_),(.b (.l 3) 2,_),(.b (.l 3) 3,_),(.b (.l 3) 4,_),(.b (.l 3) 5,_)],[]⟩) (B4 (⟨U J,U J,U J,U J,U J,O⟩) (⟨U J,U J,U J,U J,U J,U J,O⟩) (⟨rfl,rfl,rfl,rfl,rfl,O⟩)) ?_;refine A8 (A6 ?_);refine A5 J J J (B8 J gU J J J J J) ?_;refine C7 J J J J J J gU gU (up (F7 l _ _ (by omega) (le3 hl (by repeat(first|exact hp|refine N5 ?_|refine K7 ?_))))) J ?_;refine C7 J J J J J J gU gU (up (Am l (by omega) (l.length + 1) _ (by repeat(first|exact hp|refine N5 ?_|refine K7 ?_)) (by omega))) J ?_
 refine A5 J J J (A7 J gU) ?_;refine A5 J J J (C6 J gU J) ?_;refine A5 J J J (C6 J gU J) ?_;refine A5 J J J (B1 J gU J J) ?_;refine C3 J (C8 J J J J J J J) ?_;refine C3 J (C8 J J J J J J J) ?_;refine B0 ?_;refine B6 (s:=⟨[(3,_,_),(4,_,_),(6,_,_),(7,_,_),(8,_,_)],[(.l 3,_),(.l 4,_),(.l 6,_),(.l 7,_),(.l 8,_),(.o 0,_)],[(.b (.l 3) 1,_),(.b (.l 3) 2,_),(.b (.l 3) 3,_),(.b (.l 3) 4,_),(.b (.l 3) 5,_)],[]⟩) (B4 (⟨U J,U J,U J,U J,U J,O⟩) (⟨U J,U J,U J,U J,U J,U J,O⟩) (⟨rfl,rfl,rfl,rfl,rfl,O⟩)) ?_;refine A8 (A6 ?_);refine A5 J J J (B1 J gU J J) ?_;refine C3 J (J0 J J J J J J J) ?_;refine A5 J J J (B8 J gU J J J J J) ?_;refine E6 (xs:=[_]) J J J J J J J J J gU J ?_;refine C3 J (F8 J J J J J J J (by first|omega|(simp only [List.length_append,List.length_singleton,Sp.rows_len]; omega)) (by first|omega|(simp only [List.length_append,List.length_singleton,Sp.rows_len]; omega))) ?_;refine A5 J J J (B1 J gU J J) ?_;refine C3 J (I4 J J J J J J J) ?_
 refine B0 ?_;refine B6 (s:=⟨[(3,_,_),(4,_,_),(6,_,_),(7,_,_)],[(.l 3,_),(.l 4,_),(.l 6,_),(.l 7,_),(.o 0,_)],[(.b (.l 3) 1,_),(.b (.l 3) 2,_),(.b (.l 3) 3,_),(.b (.l 3) 4,_),(.b (.l 3) 5,_)],[]⟩) (B4 (⟨U J,U J,U J,U J,O⟩) (⟨U J,U J,U J,U J,U J,O⟩) (⟨rfl,rfl,rfl,rfl,rfl,O⟩)) ?_;refine B6 (s:=⟨[(3,_,_),(4,_,_),(6,_,_),(7,_,_)],[(.l 3,_),(.l 4,_),(.l 6,_),(.l 7,_),(.o 0,_)],[(.b (.l 3) 1,_),(.b (.l 3) 2,_),(.b (.l 3) 3,_),(.b (.l 3) 4,_),(.b (.l 3) 5,_)],[]⟩) (B4 (⟨U J,U J,U J,U J,O⟩) (⟨U J,U J,U J,U J,U J,O⟩) (⟨rfl,rfl,rfl,rfl,rfl,O⟩)) ?_;refine H9 (.l 3) J (fun w1 w2 w3 w4 w5=>?_);refine B6 (s:=⟨[(3,_,_),(4,_,_),(6,_,_),(7,_,_)],[(.l 3,_),(.l 4,_),(.l 6,_),(.l 7,_),(.o 0,_)],[(.b (.l 3) 1,_),(.b (.l 3) 2,_),(.b (.l 3) 3,_),(.b (.l 3) 4,_),(.b (.l 3) 5,_)],[]⟩) (B4 (⟨U J,U J,U J,U J,O⟩) (⟨U J,U J,U J,U J,U J,O⟩) (⟨rfl,rfl,rfl,rfl,rfl,O⟩)) ?_;refine A8 ?_;refine awp_drawn' (by kernel_rfl) ?_;refine D7 J J J J J J J gU J J J J J ?_;refine D7 J J J J J J J gU J J J J J ?_
 refine F3 J J J J J J J J J J J J ?_;refine F3 J J J J J J J J J J J J ?_;refine F6 (by kernel_rfl) ?_;refine B6 (s:=⟨[(3,_,_),(6,_,_),(7,_,_)],[(.l 3,_),(.l 6,_),(.l 7,_),(.o 0,_)],[(.b (.l 3) 1,_),(.b (.l 3) 2,_),(.b (.l 3) 3,_),(.b (.l 3) 4,_),(.b (.l 3) 5,_)],[]⟩) (B4 (⟨U J,U J,U J,O⟩) (⟨U J,U J,U J,U J,O⟩) (⟨(ak J (ak J (ak J (ak J (rfl))))),(ak J (ak J (ak J (ak J (rfl))))),(ak J (ak J (ak J (ak J (rfl))))),(ak J (ak J (ak J (ak J (rfl))))),(ak J (ak J (ak J (ak J (rfl))))),O⟩)) ?_;refine I5 (.l 6) (.l 3) J J J J J ?_;refine B6 (s:=⟨[(3,_,_),(6,_,_),(7,_,_)],[(.l 3,_),(.l 6,_),(.l 7,_),(.o 0,_)],[(.b (.l 6) 1,_),(.b (.l 6) 2,_),(.b (.l 6) 3,_),(.b (.l 6) 4,_),(.b (.l 6) 5,_)],[]⟩) (B4 (⟨U J,U J,U J,O⟩) (⟨U J,U J,U J,U J,O⟩) (⟨rfl,rfl,rfl,rfl,rfl,O⟩)) ?_;refine C1 ?_
 repeat(first|refine tR ?_|refine bR ?_)
 refine J5 J ?_ ⟨⟨_,rfl,rfl⟩,O⟩ (by simp) J J J J J J;exact congrArg (fun z=>X.tup [.agg (narC n.name (strR n.roles) (Fs.rows n.fresh) (strR n.tags) z (Gl.rows n.goals)), .agg (pbx l (Ck l line p).2)]) (Sp.rows_app n.steps [(Ck l line p).1]).symm
theorem Oa (l : List Tk) (ws : List (List UInt8)) : Fwd l (chR l ws):=fun p=>by
 have h:=H0 l [] p
 unfold chR
 split
 ·simp [PS.off]
 ·exact h
theorem Bf {l : List Tk} {ws : List (List UInt8)} {p : PS} (h : p.at'≤l.length) : (chR l ws p).2.at'≤l.length:=(Oa l ws p).2 h
set_option maxHeartbeats 4000000 in
theorem Dq (l : List Tk) (p : PS) (n : Nar) (line : Int) (u1 u2 u3 u4 u5 : Value) (hl : l.length≤2000000) (hp : p.at'≤l.length) (hn : n.goals.length≤3000000) :
  CtrO sysO 135 [.v (.agg (soC n u1 u2 u3 u4 u5)),xr l p,xi line] [soC n u1 u2 u3 u4 u5] osR (xnr l ({ n with goals:=n.goals++[(Ag l line p).1] },(Ag l line p).2)) [soC n u1 u2 u3 u4 u5] .res:=by
 have hrs:=Gl.rows_len n.goals
 have hrl:=Tk.rows_len l
 refine N8 Tryz.func135 J J J J J J J ?_;refine A8 (A6 ?_);refine C3 J (D8 J J J J) ?_;refine C3 J (D8 J J J J) ?_;refine C3 J (D9 J J J) ?_;refine C3 J (D9 J J J) ?_;refine B0 ?_;refine B6 (s:=⟨[(2,_,_),(3,_,_),(4,_,_),(6,_,_),(7,_,_)],[(.l 3,_),(.l 4,_),(.l 6,_),(.l 7,_),(.o 0,_)],[(.b (.o 0) 1,_),(.b (.o 0) 2,_),(.b (.o 0) 3,_),(.b (.o 0) 4,_),(.b (.o 0) 5,_)],[]⟩) (B4 (⟨U J,U J,U J,U J,U J,O⟩) (⟨U J,U J,U J,U J,U J,O⟩) (⟨rfl,rfl,rfl,rfl,rfl,O⟩)) ?_;refine I5 (.l 3) (.o 0) J J J J J ?_;refine B6 (s:=⟨[(2,_,_),(3,_,_),(4,_,_),(6,_,_),(7,_,_)],[(.l 3,_),(.l 4,_),(.l 6,_),(.l 7,_),(.o 0,_)],[(.b (.l 3) 1,_),(.b (.l 3) 2,_),(.b (.l 3) 3,_),(.b (.l 3) 4,_),(.b (.l 3) 5,_)],[]⟩) (B4 (⟨U J,U J,U J,U J,U J,O⟩) (⟨U J,U J,U J,U J,U J,O⟩) (⟨rfl,rfl,rfl,rfl,rfl,O⟩)) ?_;refine A8 (A6 ?_);refine A5 J J J (A7 J gU) ?_;refine A5 J J J (G7 J Tryz.underlying51 J gU) ?_;refine C3 J (D9 J J J) ?_;refine C3 J (C8 J J J J J J J) ?_;refine B0 ?_
 refine A8 ?_;refine awp_drawn' (by kernel_rfl) ?_;refine D7 J J J J J J J gU J J J J J ?_;refine E9 J J J J J J J gU gU (up Uy) J ?_;refine E9 J J J J J J J gU gU (up (V8 l p K5 (by omega) (by omega))) J ?_;refine B5 J J J J (A7 J gU) ?_;refine B5 J J J J (C6 J gU J) ?_;refine B5 J J J J (C6 J gU J) ?_;refine B5 J J J J (B1 J gU J J) ?_;refine F3 J J J J J J J J J J J J ?_;refine F3 J J J J J J J J J J J J ?_;refine F6 (by kernel_rfl) ?_;refine B6 (s:=⟨[(3,_,_),(4,_,_),(6,_,_),(7,_,_),(8,_,_)],[(.l 3,_),(.l 4,_),(.l 6,_),(.l 7,_),(.l 8,_),(.o 0,_)],[(.b (.l 3) 1,_),(.b (.l 3) 2,_),(.b (.l 3) 3,_),(.b (.l 3) 4,_),(.b (.l 3) 5,_)],[]⟩) (B4 (⟨U J,U J,U J,U J,U J,O⟩) (⟨U J,U J,U J,U J,U J,U J,O⟩) (⟨(ak J (ak J (ak J (ak J (ak J (ak J (ak J (ak J (ak J (rfl)))))))))),(ak J (ak J (ak J (ak J (ak J (ak J (ak J (ak J (ak J (rfl)))))))))),(ak J (ak J (ak J (ak J (ak J (ak J (ak J (ak J (ak J (rfl)))))))))),(ak J (ak J (ak J (ak J (ak J (ak J (ak J (ak J (ak J (rfl)))))))))),(ak J (ak J (ak J (ak J (ak J (ak J (ak J (ak J (ak J (rfl)))))))))),O⟩)) ?_
 refine A8 (A6 ?_);refine A5 J J J (B8 J gU J J J J J) ?_;refine C7 J J J J J J gU gU (up (K1 l _ (by omega) (le3 hl (by repeat(first|exact hp|refine N5 ?_|refine K7 ?_|refine Bf ?_))))) J ?_;refine A5 J J J (A7 J gU) ?_;refine A5 J J J (C6 J gU J) ?_;refine A5 J J J (C6 J gU J) ?_;refine A5 J J J (B1 J gU J J) ?_;refine C3 J (C8 J J J J J J J) ?_;refine C3 J (C8 J J J J J J J) ?_;refine B0 ?_;refine B6 (s:=⟨[(3,_,_),(4,_,_),(6,_,_),(7,_,_),(8,_,_)],[(.l 3,_),(.l 4,_),(.l 6,_),(.l 7,_),(.l 8,_),(.o 0,_)],[(.b (.l 3) 1,_),(.b (.l 3) 2,_),(.b (.l 3) 3,_),(.b (.l 3) 4,_),(.b (.l 3) 5,_)],[]⟩) (B4 (⟨U J,U J,U J,U J,U J,O⟩) (⟨U J,U J,U J,U J,U J,U J,O⟩) (⟨rfl,rfl,rfl,rfl,rfl,O⟩)) ?_;refine A8 ?_;refine A8 (A6 ?_);refine A5 J J J (B8 J gU J J J J J) ?_;refine C7 J J J J J J gU gU (up (R2 ⟨(chR l K5 p).1,(C9 l [] (chR l K5 p).2).1,[],[],line⟩)) J ?_;refine B0 ?_;refine B9 J (fun hc=>?_) (fun hc=>?_)
 ·have h : I9 (chR l K5 p).1=true:=hc
  have hg : Ag l line p=(⟨(chR l K5 p).1,(C9 l [] (chR l K5 p).2).1,(C9 l [] (C9 l [] (chR l K5 p).2).2).1,(H1 l (G5 l (l.length + 1)) (F0 l [58] (C9 l [] (C9 l [] (chR l K5 p).2).2).2)).1,line⟩,(H1 l (G5 l (l.length + 1)) (F0 l [58] (C9 l [] (C9 l [] (chR l K5 p).2).2).2)).2):=by
   simp only [Ag,h,if_true]
  rw[hg]
  refine A6 ?_;refine A5 J J J (B8 J gU J J J J J) ?_;refine C7 J J J J J J gU gU (up (K1 l _ (by omega) (le3 hl (by repeat(first|exact hp|refine N5 ?_|refine K7 ?_|refine Bf ?_))))) J ?_;refine A5 J J J (A7 J gU) ?_;refine A5 J J J (C6 J gU J) ?_;refine A5 J J J (C6 J gU J) ?_;refine A5 J J J (B1 J gU J J) ?_;refine C3 J (C8 J J J J J J J) ?_;refine C3 J (C8 J J J J J J J) ?_;refine B0 ?_;refine B6 (s:=⟨[(3,_,_),(4,_,_),(6,_,_),(7,_,_),(8,_,_)],[(.l 3,_),(.l 4,_),(.l 6,_),(.l 7,_),(.l 8,_),(.o 0,_)],[(.b (.l 3) 1,_),(.b (.l 3) 2,_),(.b (.l 3) 3,_),(.b (.l 3) 4,_),(.b (.l 3) 5,_)],[]⟩) (B4 (⟨U J,U J,U J,U J,U J,O⟩) (⟨U J,U J,U J,U J,U J,U J,O⟩) (⟨rfl,rfl,rfl,rfl,rfl,O⟩)) ?_;refine A8 (A6 ?_);refine A5 J J J (B8 J gU J J J J J) ?_;refine C7 J J J J J J gU gU (up (F7 l _ _ (by omega) (le3 hl (by repeat(first|exact hp|refine N5 ?_|refine K7 ?_|refine Bf ?_))))) J ?_;refine C7 J J J J J J gU gU (up (Cu l (l.length + 1) hl (fun q h1 h2=>Am l hl _ q h1 h2) (V3 l _) _ (by repeat(first|exact hp|refine N5 ?_|refine K7 ?_|refine Bf ?_)) (by omega))) J ?_
  refine A5 J J J (A7 J gU) ?_;refine A5 J J J (C6 J gU J) ?_;refine A5 J J J (C6 J gU J) ?_;refine A5 J J J (B1 J gU J J) ?_;refine C3 J (C8 J J J J J J J) ?_;refine C3 J (C8 J J J J J J J) ?_;refine B0 ?_;refine B6 (s:=⟨[(3,_,_),(4,_,_),(6,_,_),(7,_,_),(8,_,_)],[(.l 3,_),(.l 4,_),(.l 6,_),(.l 7,_),(.l 8,_),(.o 0,_)],[(.b (.l 3) 1,_),(.b (.l 3) 2,_),(.b (.l 3) 3,_),(.b (.l 3) 4,_),(.b (.l 3) 5,_)],[]⟩) (B4 (⟨U J,U J,U J,U J,U J,O⟩) (⟨U J,U J,U J,U J,U J,U J,O⟩) (⟨rfl,rfl,rfl,rfl,rfl,O⟩)) ?_;refine A8 (A6 ?_);refine A5 J J J (B1 J gU J J) ?_;refine C3 J (J0 J J J J J J J) ?_;refine A5 J J J (B8 J gU J J J J J) ?_;refine E6 (xs:=[_]) J J J J J J J J J gU J ?_;refine C3 J (F8 J J J J J J J (by first|omega|(simp only [List.length_append,List.length_singleton,Gl.rows_len]; omega)) (by first|omega|(simp only [List.length_append,List.length_singleton,Gl.rows_len]; omega))) ?_;refine A5 J J J (B1 J gU J J) ?_;refine C3 J (I4 J J J J J J J) ?_
  refine B0 ?_;refine B6 (s:=⟨[(3,_,_),(4,_,_),(6,_,_),(7,_,_)],[(.l 3,_),(.l 4,_),(.l 6,_),(.l 7,_),(.o 0,_)],[(.b (.l 3) 1,_),(.b (.l 3) 2,_),(.b (.l 3) 3,_),(.b (.l 3) 4,_),(.b (.l 3) 5,_)],[]⟩) (B4 (⟨U J,U J,U J,U J,O⟩) (⟨U J,U J,U J,U J,U J,O⟩) (⟨rfl,rfl,rfl,rfl,rfl,O⟩)) ?_;refine B6 (s:=⟨[(3,_,_),(4,_,_),(6,_,_),(7,_,_)],[(.l 3,_),(.l 4,_),(.l 6,_),(.l 7,_),(.o 0,_)],[(.b (.l 3) 1,_),(.b (.l 3) 2,_),(.b (.l 3) 3,_),(.b (.l 3) 4,_),(.b (.l 3) 5,_)],[]⟩) (B4 (⟨U J,U J,U J,U J,O⟩) (⟨U J,U J,U J,U J,U J,O⟩) (⟨rfl,rfl,rfl,rfl,rfl,O⟩)) ?_;refine H9 (.l 3) J (fun w1 w2 w3 w4 w5=>?_);refine B6 (s:=⟨[(3,_,_),(4,_,_),(6,_,_),(7,_,_)],[(.l 3,_),(.l 4,_),(.l 6,_),(.l 7,_),(.o 0,_)],[(.b (.l 3) 1,_),(.b (.l 3) 2,_),(.b (.l 3) 3,_),(.b (.l 3) 4,_),(.b (.l 3) 5,_)],[]⟩) (B4 (⟨U J,U J,U J,U J,O⟩) (⟨U J,U J,U J,U J,U J,O⟩) (⟨rfl,rfl,rfl,rfl,rfl,O⟩)) ?_;refine A8 ?_;refine awp_drawn' (by kernel_rfl) ?_;refine D7 J J J J J J J gU J J J J J ?_;refine D7 J J J J J J J gU J J J J J ?_
  refine F3 J J J J J J J J J J J J ?_;refine F3 J J J J J J J J J J J J ?_;refine F6 (by kernel_rfl) ?_;refine B6 (s:=⟨[(3,_,_),(6,_,_),(7,_,_)],[(.l 3,_),(.l 6,_),(.l 7,_),(.o 0,_)],[(.b (.l 3) 1,_),(.b (.l 3) 2,_),(.b (.l 3) 3,_),(.b (.l 3) 4,_),(.b (.l 3) 5,_)],[]⟩) (B4 (⟨U J,U J,U J,O⟩) (⟨U J,U J,U J,U J,O⟩) (⟨(ak J (ak J (ak J (ak J (rfl))))),(ak J (ak J (ak J (ak J (rfl))))),(ak J (ak J (ak J (ak J (rfl))))),(ak J (ak J (ak J (ak J (rfl))))),(ak J (ak J (ak J (ak J (rfl))))),O⟩)) ?_;refine I5 (.l 6) (.l 3) J J J J J ?_;refine B6 (s:=⟨[(3,_,_),(6,_,_),(7,_,_)],[(.l 3,_),(.l 6,_),(.l 7,_),(.o 0,_)],[(.b (.l 6) 1,_),(.b (.l 6) 2,_),(.b (.l 6) 3,_),(.b (.l 6) 4,_),(.b (.l 6) 5,_)],[]⟩) (B4 (⟨U J,U J,U J,O⟩) (⟨U J,U J,U J,U J,O⟩) (⟨rfl,rfl,rfl,rfl,rfl,O⟩)) ?_;refine C1 ?_
  repeat(first|refine tR ?_|refine bR ?_)
  refine J5 J ?_ ⟨⟨_,rfl,rfl⟩,O⟩ (by simp) J J J J J J;exact congrArg (fun z=>X.tup [.agg (narC n.name (strR n.roles) (Fs.rows n.fresh) (strR n.tags) (Sp.rows n.steps) z), .agg (pbx l (H1 l (G5 l (l.length + 1)) (F0 l [58] (C9 l [] (C9 l [] (chR l K5 p).2).2).2)).2)]) (Gl.rows_app n.goals [⟨(chR l K5 p).1,(C9 l [] (chR l K5 p).2).1,(C9 l [] (C9 l [] (chR l K5 p).2).2).1,(H1 l (G5 l (l.length + 1)) (F0 l [58] (C9 l [] (C9 l [] (chR l K5 p).2).2).2)).1,line⟩]).symm
 ·have h : I9 (chR l K5 p).1=false:=hc
  have hg : Ag l line p=(⟨(chR l K5 p).1,(C9 l [] (chR l K5 p).2).1,[],(H1 l (G5 l (l.length + 1)) (F0 l [58] (C9 l [] (chR l K5 p).2).2)).1,line⟩,(H1 l (G5 l (l.length + 1)) (F0 l [58] (C9 l [] (chR l K5 p).2).2)).2):=by
   simp only [Ag,h,Bool.false_eq_true,if_false]
  rw[hg]
  refine C0 ?_;refine A8 (A6 ?_);refine A5 J J J (B8 J gU J J J J J) ?_;refine C7 J J J J J J gU gU (up (F7 l _ _ (by omega) (le3 hl (by repeat(first|exact hp|refine N5 ?_|refine K7 ?_|refine Bf ?_))))) J ?_;refine C7 J J J J J J gU gU (up (Cu l (l.length + 1) hl (fun q h1 h2=>Am l hl _ q h1 h2) (V3 l _) _ (by repeat(first|exact hp|refine N5 ?_|refine K7 ?_|refine Bf ?_)) (by omega))) J ?_;refine A5 J J J (A7 J gU) ?_;refine A5 J J J (C6 J gU J) ?_;refine A5 J J J (C6 J gU J) ?_;refine A5 J J J (B1 J gU J J) ?_;refine C3 J (C8 J J J J J J J) ?_;refine C3 J (C8 J J J J J J J) ?_;refine B0 ?_;refine B6 (s:=⟨[(3,_,_),(4,_,_),(6,_,_),(7,_,_),(8,_,_)],[(.l 3,_),(.l 4,_),(.l 6,_),(.l 7,_),(.l 8,_),(.o 0,_)],[(.b (.l 3) 1,_),(.b (.l 3) 2,_),(.b (.l 3) 3,_),(.b (.l 3) 4,_),(.b (.l 3) 5,_)],[]⟩) (B4 (⟨U J,U J,U J,U J,U J,O⟩) (⟨U J,U J,U J,U J,U J,U J,O⟩) (⟨rfl,rfl,rfl,rfl,rfl,O⟩)) ?_;refine A8 (A6 ?_);refine A5 J J J (B1 J gU J J) ?_;refine C3 J (J0 J J J J J J J) ?_
  refine A5 J J J (B8 J gU J J J J J) ?_;refine E6 (xs:=[_]) J J J J J J J J J gU J ?_;refine C3 J (F8 J J J J J J J (by first|omega|(simp only [List.length_append,List.length_singleton,Gl.rows_len]; omega)) (by first|omega|(simp only [List.length_append,List.length_singleton,Gl.rows_len]; omega))) ?_;refine A5 J J J (B1 J gU J J) ?_;refine C3 J (I4 J J J J J J J) ?_;refine B0 ?_;refine B6 (s:=⟨[(3,_,_),(4,_,_),(6,_,_),(7,_,_)],[(.l 3,_),(.l 4,_),(.l 6,_),(.l 7,_),(.o 0,_)],[(.b (.l 3) 1,_),(.b (.l 3) 2,_),(.b (.l 3) 3,_),(.b (.l 3) 4,_),(.b (.l 3) 5,_)],[]⟩) (B4 (⟨U J,U J,U J,U J,O⟩) (⟨U J,U J,U J,U J,U J,O⟩) (⟨rfl,rfl,rfl,rfl,rfl,O⟩)) ?_;refine B6 (s:=⟨[(3,_,_),(4,_,_),(6,_,_),(7,_,_)],[(.l 3,_),(.l 4,_),(.l 6,_),(.l 7,_),(.o 0,_)],[(.b (.l 3) 1,_),(.b (.l 3) 2,_),(.b (.l 3) 3,_),(.b (.l 3) 4,_),(.b (.l 3) 5,_)],[]⟩) (B4 (⟨U J,U J,U J,U J,O⟩) (⟨U J,U J,U J,U J,U J,O⟩) (⟨rfl,rfl,rfl,rfl,rfl,O⟩)) ?_;refine H9 (.l 3) J (fun w1 w2 w3 w4 w5=>?_);refine B6 (s:=⟨[(3,_,_),(4,_,_),(6,_,_),(7,_,_)],[(.l 3,_),(.l 4,_),(.l 6,_),(.l 7,_),(.o 0,_)],[(.b (.l 3) 1,_),(.b (.l 3) 2,_),(.b (.l 3) 3,_),(.b (.l 3) 4,_),(.b (.l 3) 5,_)],[]⟩) (B4 (⟨U J,U J,U J,U J,O⟩) (⟨U J,U J,U J,U J,U J,O⟩) (⟨rfl,rfl,rfl,rfl,rfl,O⟩)) ?_
  refine A8 ?_;refine awp_drawn' (by kernel_rfl) ?_;refine D7 J J J J J J J gU J J J J J ?_;refine D7 J J J J J J J gU J J J J J ?_;refine F3 J J J J J J J J J J J J ?_;refine F3 J J J J J J J J J J J J ?_;refine F6 (by kernel_rfl) ?_;refine B6 (s:=⟨[(3,_,_),(6,_,_),(7,_,_)],[(.l 3,_),(.l 6,_),(.l 7,_),(.o 0,_)],[(.b (.l 3) 1,_),(.b (.l 3) 2,_),(.b (.l 3) 3,_),(.b (.l 3) 4,_),(.b (.l 3) 5,_)],[]⟩) (B4 (⟨U J,U J,U J,O⟩) (⟨U J,U J,U J,U J,O⟩) (⟨(ak J (ak J (ak J (ak J (rfl))))),(ak J (ak J (ak J (ak J (rfl))))),(ak J (ak J (ak J (ak J (rfl))))),(ak J (ak J (ak J (ak J (rfl))))),(ak J (ak J (ak J (ak J (rfl))))),O⟩)) ?_;refine I5 (.l 6) (.l 3) J J J J J ?_;refine B6 (s:=⟨[(3,_,_),(6,_,_),(7,_,_)],[(.l 3,_),(.l 6,_),(.l 7,_),(.o 0,_)],[(.b (.l 6) 1,_),(.b (.l 6) 2,_),(.b (.l 6) 3,_),(.b (.l 6) 4,_),(.b (.l 6) 5,_)],[]⟩) (B4 (⟨U J,U J,U J,O⟩) (⟨U J,U J,U J,U J,O⟩) (⟨rfl,rfl,rfl,rfl,rfl,O⟩)) ?_;refine C1 ?_
  repeat(first|refine tR ?_|refine bR ?_)
  refine J5 J ?_ ⟨⟨_,rfl,rfl⟩,O⟩ (by simp) J J J J J J;exact congrArg (fun z=>X.tup [.agg (narC n.name (strR n.roles) (Fs.rows n.fresh) (strR n.tags) (Sp.rows n.steps) z), .agg (pbx l (H1 l (G5 l (l.length + 1)) (F0 l [58] (C9 l [] (chR l K5 p).2).2)).2)]) (Gl.rows_app n.goals [⟨(chR l K5 p).1,(C9 l [] (chR l K5 p).2).1,[],(H1 l (G5 l (l.length + 1)) (F0 l [58] (C9 l [] (chR l K5 p).2).2)).1,line⟩]).symm
theorem Ws {l : List Tk} {p : PS} (h : (chR l J1 p).2.bad=false) : (chR l J1 p).2.at'=p.at' + 1:=by
 rw[(Vj l p).1] at h ⊢
 have hq:=Gb h
 rw[C9,if_pos hq]; rfl
abbrev frC (n : Nar) (o : List Fs) : List C:=narC n.name (strR n.roles) (Fs.rows o) (strR n.tags) (Sp.rows n.steps) (Gl.rows n.goals)
set_option maxHeartbeats 8000000 in
theorem Ci (l : List Tk) (p : PS) (n : Nar) (u1 u2 u3 u4 u5 : Value) (hl : l.length≤2000000) (hp : p.at'≤l.length) (hn : n.fresh.length≤3000000) :
  CtrO sysO 133 [.v (.agg (soC n u1 u2 u3 u4 u5)),xr l p] [soC n u1 u2 u3 u4 u5] osR (xnr l ({ n with fresh:=(frRd l p n.fresh).1 },(frRd l p n.fresh).2)) [soC n u1 u2 u3 u4 u5] .res:=by
 have hrl:=Tk.rows_len l
 have a3 : (F0 l [58] (C9 l [] p).2).at'≤l.length:=N5 (K7 hp)
 obtain ⟨role,hrole⟩ : ∃ r,(C9 l [] p).1=r:=⟨_,rfl⟩
 refine N8 Tryz.func133 J J J J J J J ?_;refine A8 (A6 ?_);refine C3 J (D8 J J J J) ?_;refine C3 J (D8 J J J J) ?_;refine C3 J (D9 J J J) ?_;refine C3 J (D9 J J J) ?_;refine B0 ?_;refine B6 (s:=⟨[(2,_,_),(3,_,_),(4,_,_),(5,_,_)],[(.l 2,_),(.l 3,_),(.l 4,_),(.l 5,_),(.o 0,_)],[(.b (.o 0) 1,_),(.b (.o 0) 2,_),(.b (.o 0) 3,_),(.b (.o 0) 4,_),(.b (.o 0) 5,_)],[]⟩) (B4 (⟨U J,U J,U J,U J,O⟩) (⟨U J,U J,U J,U J,U J,O⟩) (⟨rfl,rfl,rfl,rfl,rfl,O⟩)) ?_;refine I5 (.l 2) (.o 0) J J J J J ?_;refine B6 (s:=⟨[(2,_,_),(3,_,_),(4,_,_),(5,_,_)],[(.l 2,_),(.l 3,_),(.l 4,_),(.l 5,_),(.o 0,_)],[(.b (.l 2) 1,_),(.b (.l 2) 2,_),(.b (.l 2) 3,_),(.b (.l 2) 4,_),(.b (.l 2) 5,_)],[]⟩) (B4 (⟨U J,U J,U J,U J,O⟩) (⟨U J,U J,U J,U J,U J,O⟩) (⟨rfl,rfl,rfl,rfl,rfl,O⟩)) ?_;refine A8 (A6 ?_);refine A5 J J J (B8 J gU J J J J J) ?_;refine C7 J J J J J J gU gU (up (K1 l p (by omega) (le3 hl hp))) J ?_;refine A5 J J J (A7 J gU) ?_;refine A5 J J J (C6 J gU J) ?_
 refine A5 J J J (C6 J gU J) ?_;refine A5 J J J (A9 J gU) ?_;refine C3 J (C8 J J J J J J J) ?_;refine B0 ?_;refine B6 (s:=⟨[(2,_,_),(3,_,_),(4,_,_),(5,_,_),(6,_,_)],[(.l 2,_),(.l 3,_),(.l 4,_),(.l 5,_),(.o 0,_)],[(.b (.l 2) 1,_),(.b (.l 2) 2,_),(.b (.l 2) 3,_),(.b (.l 2) 4,_),(.b (.l 2) 5,_)],[]⟩) (B4 (⟨U J,U J,U J,U J,U J,O⟩) (⟨U J,U J,U J,U J,U J,O⟩) (⟨rfl,rfl,rfl,rfl,rfl,O⟩)) ?_;refine A8 (A6 ?_);refine A5 J J J (B8 J gU J J J J J) ?_;refine C7 J J J J J J gU gU (up (F7 l (C9 l [] p).2 _ (by omega) (le3 hl (K7 hp)))) J ?_;refine C3 J (C8 J J J J J J J) ?_;refine B0 ?_;refine A8 ?_;refine A8 (A6 ?_);refine A5 J J J (A9 J gU) ?_;refine B0 ?_;refine C4 ?_
 rw[hrole]
 refine F2 (ι:=PS × Bool × List Fs) { t:=[(2,_,_),(3,_,_),(4,_,_),(5,_,_),(6,_,_)],bx:=[(.l 4,_),(.l 5,_),(.o 0,_)],ow:=[(.b (.l 2) 1,_),(.b (.l 2) 2,_),(.b (.l 2) 3,_),(.b (.l 2) 4,_),(.b (.l 2) 5,_)] } (fun q=>[(7,true,xb q.2.1)]) (fun q=>[((.l 3),pbx l q.1),((.l 2),frC n q.2.2)]) (fun q=>q.1.at'≤l.length∧q.2.2.length≤n.fresh.length + q.1.at' + (if q.2.1=true then 0 else 1) ∧ ∃ k,l.length + 1≤k + q.1.at'∧(if q.2.1=true then frRA l role k q.1 q.2.2 else if symQ l q.1 [44]=true then frRA l role k q.1.go q.2.2 else (q.2.2,q.1))=frRd l p n.fresh) (fun q=>(if q.2.1=true then 1 else 0) + (l.length - q.1.at')) ((F0 l [58] (C9 l [] p).2,true,n.fresh)) (⟨a3,by simp,l.length + 1,by dsimp only; omega,by dsimp only; rw[if_pos J,← hrole]; rfl⟩) (B4 (⟨U J,U J,U J,U J,U J,U J,O⟩) (⟨U J,U J,U J,U J,U J,O⟩) (⟨rfl,rfl,rfl,rfl,rfl,O⟩)) ?_
 intro q hok
 dsimp only [List.cons_append,List.nil_append] at *
 obtain ⟨q,first,out⟩:=q
 dsimp only at hok ⊢
 obtain ⟨hq,ho,k,hk,hi⟩:=hok
 have hro:=Fs.rows_len out
 cases first
 ·rw[if_neg (by simp)] at hi
  simp only [Bool.false_eq_true,if_false] at ho
  refine A8 ?_;refine A8 (A6 ?_);refine A5 J J J (A7 J gU) ?_;refine A5 J J J (A7 J gU) ?_;refine A5 J J J (B8 J gU J J J J J) ?_;refine C7 J J J J J J gU (fun hh=>gA ((fun hh=>hh) hh) (gA J (rfl))) (up (P8 l q _ (by omega) (le3 hl hq))) J ?_;refine A5 J J J (E5 J J gU (fun _ hi=>gP J hi)) ?_;refine B0 ?_;refine B6 (s:=⟨[(2,_,_),(3,_,_),(4,_,_),(5,_,_),(6,_,_),(7,_,_),(20,_,_)],[(.l 2,_),(.l 3,_),(.l 4,_),(.l 5,_),(.o 0,_)],[(.b (.l 2) 1,_),(.b (.l 2) 2,_),(.b (.l 2) 3,_),(.b (.l 2) 4,_),(.b (.l 2) 5,_)],[]⟩) (B4 (⟨U J,U J,U J,U J,U J,U J,U J,O⟩) (⟨U J,U J,U J,U J,U J,O⟩) (⟨rfl,rfl,rfl,rfl,rfl,O⟩)) ?_;refine B9 J (fun hc1=>?_) (fun hc1=>?_)
  ·try simp only [nn,B3,T.rows_len,Tk.rows_len] at hc1
   have hc1:=hc1.resolve_left (by simp)
   have hlt:=(O3 hc1).1
   have hs : F0 l [44] q=q.go:=by rw[F0,if_pos hc1]
   have hg : q.go.at'=q.at' + 1:=rfl
   have hq2 : q.go.at'≤l.length:=by omega
   rw[if_pos hc1] at hi
   obtain ⟨k,rfl⟩ : ∃ j,k=j + 1:=⟨k - 1,by omega⟩
   have hsy:=F7 l q [44] (by omega) (le3 hl hq)
   rw[hs] at hsy
   refine C0 ?_;refine A8 ?_;refine C4 ?_;refine A8 ?_;refine A8 (A6 ?_);refine A5 J J J (A7 J gU) ?_;refine A5 J J J (F9 J gU) ?_;refine B0 ?_;refine B9 J (fun hc2=>?_) (fun hc2=>?_)
   ·refine A6 ?_
    refine A5 J J J (B8 J gU J J J J J) ?_;refine C7 J J J J J J gU gU (up hsy) J ?_;refine C3 J (C8 J J J J J J J) ?_;refine B0 ?_;refine A8 (A6 ?_);refine A5 J J J (A7 J gU) ?_;refine A5 J J J (G7 J Tryz.underlying79 J gU) ?_;refine C3 J (D9 J J J) ?_;refine C3 J (C8 J J J J J J J) ?_;refine B0 ?_;refine B6 (s:=⟨[(2,_,_),(3,_,_),(4,_,_),(5,_,_),(6,_,_),(8,_,_)],[(.l 2,_),(.l 3,_),(.l 4,_),(.l 5,_),(.l 8,_),(.o 0,_)],[(.b (.l 2) 1,_),(.b (.l 2) 2,_),(.b (.l 2) 3,_),(.b (.l 2) 4,_),(.b (.l 2) 5,_)],[]⟩) (B4 (⟨U J,U J,U J,U J,U J,U J,O⟩) (⟨U J,U J,U J,U J,U J,U J,O⟩) (⟨rfl,rfl,rfl,rfl,rfl,O⟩)) ?_;refine A8 (A6 ?_)
    have b1:=(H0 l [] q.go).1
    have b2:=(Oa l J1 (C9 l [] q.go).2).1
    have b3 : (chR l J1 (C9 l [] q.go).2).2.at'≤l.length:=Bf (K7 hq2)
    refine A5 J J J (B8 J gU J J J J J) ?_;refine C7 J J J J J J gU gU (up (K1 l q.go (by omega) (le3 hl hq2))) J ?_;refine A5 J J J (A7 J gU) ?_;refine A5 J J J (C6 J gU J) ?_;refine A5 J J J (C6 J gU J) ?_;refine A5 J J J (B1 J gU J J) ?_;refine C3 J (C8 J J J J J J J) ?_;refine C3 J (C8 J J J J J J J) ?_;refine B0 ?_;refine B6 (s:=⟨[(2,_,_),(3,_,_),(4,_,_),(5,_,_),(6,_,_),(8,_,_)],[(.l 2,_),(.l 3,_),(.l 4,_),(.l 5,_),(.l 8,_),(.o 0,_)],[(.b (.l 2) 1,_),(.b (.l 2) 2,_),(.b (.l 2) 3,_),(.b (.l 2) 4,_),(.b (.l 2) 5,_)],[]⟩) (B4 (⟨U J,U J,U J,U J,U J,U J,O⟩) (⟨U J,U J,U J,U J,U J,U J,O⟩) (⟨rfl,rfl,rfl,rfl,rfl,O⟩)) ?_;refine A8 ?_;refine awp_drawn' (by kernel_rfl) ?_;refine D7 J J J J J J J gU J J J J J ?_;refine E9 J J J J J J J gU gU (up Ha) J ?_;refine E9 J J J J J J J gU gU (up (V8 l (C9 l [] q.go).2 J1 (by omega) (le3 hl (K7 hq2)))) J ?_;refine B5 J J J J (A7 J gU) ?_;refine B5 J J J J (C6 J gU J) ?_;refine B5 J J J J (C6 J gU J) ?_
    refine B5 J J J J (B1 J gU J J) ?_;refine F3 J J J J J J J J J J J J ?_;refine F3 J J J J J J J J J J J J ?_;refine F6 (by kernel_rfl) ?_;refine B6 (s:=⟨[(2,_,_),(3,_,_),(4,_,_),(5,_,_),(6,_,_),(8,_,_)],[(.l 2,_),(.l 3,_),(.l 4,_),(.l 5,_),(.l 8,_),(.o 0,_)],[(.b (.l 2) 1,_),(.b (.l 2) 2,_),(.b (.l 2) 3,_),(.b (.l 2) 4,_),(.b (.l 2) 5,_)],[]⟩) (B4 (⟨U J,U J,U J,U J,U J,U J,O⟩) (⟨U J,U J,U J,U J,U J,U J,O⟩) (⟨(ak J (ak J (ak J (ak J (ak J (ak J (ak J (ak J (ak J (rfl)))))))))),(ak J (ak J (ak J (ak J (ak J (ak J (ak J (ak J (ak J (rfl)))))))))),(ak J (ak J (ak J (ak J (ak J (ak J (ak J (ak J (ak J (rfl)))))))))),(ak J (ak J (ak J (ak J (ak J (ak J (ak J (ak J (ak J (rfl)))))))))),(ak J (ak J (ak J (ak J (ak J (ak J (ak J (ak J (ak J (rfl)))))))))),O⟩)) ?_;refine A8 (A6 ?_);refine A5 J J J (B1 J gU J J) ?_;refine C3 J (J0 J J J J J J J) ?_;refine A5 J J J (B8 J gU J J J J J) ?_;refine E6 (xs:=[_]) J J J J J J J J J gU J ?_;refine C3 J (F8 J J J J J J J (by first|omega|(simp only [List.length_append,List.length_singleton,Fs.rows_len]; omega)) (by first|omega|(simp only [List.length_append,List.length_singleton,Fs.rows_len]; omega))) ?_
    refine A5 J J J (B1 J gU J J) ?_;refine C3 J (I4 J J J J J J J) ?_;refine B0 ?_;refine B6 (s:=⟨[(2,_,_),(3,_,_),(4,_,_),(5,_,_),(6,_,_)],[(.l 2,_),(.l 3,_),(.l 4,_),(.l 5,_),(.o 0,_)],[(.b (.l 2) 1,_),(.b (.l 2) 2,_),(.b (.l 2) 3,_),(.b (.l 2) 4,_),(.b (.l 2) 5,_)],[]⟩) (B4 (⟨U J,U J,U J,U J,U J,O⟩) (⟨U J,U J,U J,U J,U J,O⟩) (⟨rfl,rfl,rfl,rfl,rfl,O⟩)) ?_;refine A8 (A6 ?_);refine A5 J J J (B1 J gU J J) ?_;refine A5 J J J (B2 J gU J J J J) ?_;refine B0 ?_;refine B9 J (fun hc3=>?_) (fun hc3=>?_)
    ·try simp only [nn,B3,T.rows_len,Tk.rows_len] at hc3
     rw[frRA,if_pos hc3] at hi
     rw[← hi]
     refine B6 (s:=⟨[(2,_,_),(3,_,_),(4,_,_),(5,_,_)],[(.l 2,_),(.l 3,_),(.l 4,_),(.l 5,_),(.o 0,_)],[(.b (.l 2) 1,_),(.b (.l 2) 2,_),(.b (.l 2) 3,_),(.b (.l 2) 4,_),(.b (.l 2) 5,_)],[]⟩) (B4 (⟨U J,U J,U J,U J,O⟩) (⟨U J,U J,U J,U J,U J,O⟩) (⟨rfl,rfl,rfl,rfl,rfl,O⟩)) ?_;refine H9 (.l 2) J (fun w1 w2 w3 w4 w5=>?_);refine B6 (s:=⟨[(2,_,_),(3,_,_),(4,_,_),(5,_,_)],[(.l 2,_),(.l 3,_),(.l 4,_),(.l 5,_),(.o 0,_)],[(.b (.l 2) 1,_),(.b (.l 2) 2,_),(.b (.l 2) 3,_),(.b (.l 2) 4,_),(.b (.l 2) 5,_)],[]⟩) (B4 (⟨U J,U J,U J,U J,O⟩) (⟨U J,U J,U J,U J,U J,O⟩) (⟨rfl,rfl,rfl,rfl,rfl,O⟩)) ?_;refine A8 ?_;refine awp_drawn' (by kernel_rfl) ?_;refine D7 J J J J J J J gU J J J J J ?_;refine D7 J J J J J J J gU J J J J J ?_;refine F3 J J J J J J J J J J J J ?_;refine F3 J J J J J J J J J J J J ?_;refine F6 (by kernel_rfl) ?_;refine B6 (s:=⟨[(2,_,_),(4,_,_),(5,_,_)],[(.l 2,_),(.l 4,_),(.l 5,_),(.o 0,_)],[(.b (.l 2) 1,_),(.b (.l 2) 2,_),(.b (.l 2) 3,_),(.b (.l 2) 4,_),(.b (.l 2) 5,_)],[]⟩) (B4 (⟨U J,U J,U J,O⟩) (⟨U J,U J,U J,U J,O⟩) (⟨(ak J (ak J (ak J (ak J (rfl))))),(ak J (ak J (ak J (ak J (rfl))))),(ak J (ak J (ak J (ak J (rfl))))),(ak J (ak J (ak J (ak J (rfl))))),(ak J (ak J (ak J (ak J (rfl))))),O⟩)) ?_
     refine I5 (.l 4) (.l 2) J J J J J ?_;refine B6 (s:=⟨[(2,_,_),(4,_,_),(5,_,_)],[(.l 2,_),(.l 4,_),(.l 5,_),(.o 0,_)],[(.b (.l 4) 1,_),(.b (.l 4) 2,_),(.b (.l 4) 3,_),(.b (.l 4) 4,_),(.b (.l 4) 5,_)],[]⟩) (B4 (⟨U J,U J,U J,O⟩) (⟨U J,U J,U J,U J,O⟩) (⟨rfl,rfl,rfl,rfl,rfl,O⟩)) ?_;refine C1 ?_
     repeat(first|refine tR ?_|refine bR ?_)
     refine J5 J ?_ ⟨⟨_,rfl,rfl⟩,O⟩ (by simp) J J J J J J;exact congrArg (fun z=>X.tup [.agg (narC n.name (strR n.roles) z (strR n.tags) (Sp.rows n.steps) (Gl.rows n.goals)), .agg (pbx l (chR l J1 (C9 l [] q.go).2).2)]) (Fs.rows_app out [⟨role,(C9 l [] q.go).1,(chR l J1 (C9 l [] q.go).2).1⟩]).symm
    ·try simp only [nn,B3,T.rows_len,Tk.rows_len] at hc3
     rw[frRA,if_neg (by rw[hc3]; simp)] at hi
     have b4:=Ws hc3
     refine C0 ?_;refine A6 ?_;refine A5 J J J (A9 J gU) ?_;refine B0 ?_;refine ⟨((chR l J1 (C9 l [] q.go).2).2,false,out++[⟨role,(C9 l [] q.go).1,(chR l J1 (C9 l [] q.go).2).1⟩]),?_,?_,B4 (⟨⟨_,rfl,?_⟩,⟨U J,U J,U J,U J,U J,O⟩⟩) (⟨⟨_,rfl,?_⟩,⟨⟨_,rfl,?_⟩,⟨U J,U J,U J,O⟩⟩⟩) (⟨rfl,rfl,rfl,rfl,rfl,O⟩)⟩
     ·refine ⟨b3,by dsimp only; simp only [List.length_append,List.length_singleton,Bool.false_eq_true,if_false]; omega,k,by dsimp only; omega,?_⟩
      rw[if_neg (by simp)]; exact hi
     ·dsimp only
      simp only [Bool.false_eq_true,if_false,if_true]
      omega
     all_goals first|rfl|exact congrArg (fun z=>some (narC n.name (strR n.roles) z (strR n.tags) (Sp.rows n.steps) (Gl.rows n.goals))) (Fs.rows_app out [⟨role,(C9 l [] q.go).1,(chR l J1 (C9 l [] q.go).2).1⟩]).symm|exact congrArg (fun z=>narC n.name (strR n.roles) z (strR n.tags) (Sp.rows n.steps) (Gl.rows n.goals)) (Fs.rows_app out [⟨role,(C9 l [] q.go).1,(chR l J1 (C9 l [] q.go).2).1⟩]).symm
   ·exfalso
    simp at hc2
  ·try simp only [nn,B3,T.rows_len,Tk.rows_len] at hc1
   have hc1:=hc1.2
   rw[if_neg (by rw[hc1]; simp)] at hi
   rw[← hi]
   refine E1 ?_
   repeat(first|refine D5 ?_|refine D6 ?_|refine D2 J ?_)
   refine B6 (s:=⟨[(2,_,_),(3,_,_),(4,_,_),(5,_,_)],[(.l 2,_),(.l 3,_),(.l 4,_),(.l 5,_),(.o 0,_)],[(.b (.l 2) 1,_),(.b (.l 2) 2,_),(.b (.l 2) 3,_),(.b (.l 2) 4,_),(.b (.l 2) 5,_)],[]⟩) (B4 (⟨U J,U J,U J,U J,O⟩) (⟨U J,U J,U J,U J,U J,O⟩) (⟨rfl,rfl,rfl,rfl,rfl,O⟩)) ?_;refine H9 (.l 2) J (fun w1 w2 w3 w4 w5=>?_);refine B6 (s:=⟨[(2,_,_),(3,_,_),(4,_,_),(5,_,_)],[(.l 2,_),(.l 3,_),(.l 4,_),(.l 5,_),(.o 0,_)],[(.b (.l 2) 1,_),(.b (.l 2) 2,_),(.b (.l 2) 3,_),(.b (.l 2) 4,_),(.b (.l 2) 5,_)],[]⟩) (B4 (⟨U J,U J,U J,U J,O⟩) (⟨U J,U J,U J,U J,U J,O⟩) (⟨rfl,rfl,rfl,rfl,rfl,O⟩)) ?_;refine A8 ?_;refine awp_drawn' (by kernel_rfl) ?_;refine D7 J J J J J J J gU J J J J J ?_;refine D7 J J J J J J J gU J J J J J ?_;refine F3 J J J J J J J J J J J J ?_;refine F3 J J J J J J J J J J J J ?_;refine F6 (by kernel_rfl) ?_;refine B6 (s:=⟨[(2,_,_),(4,_,_),(5,_,_)],[(.l 2,_),(.l 4,_),(.l 5,_),(.o 0,_)],[(.b (.l 2) 1,_),(.b (.l 2) 2,_),(.b (.l 2) 3,_),(.b (.l 2) 4,_),(.b (.l 2) 5,_)],[]⟩) (B4 (⟨U J,U J,U J,O⟩) (⟨U J,U J,U J,U J,O⟩) (⟨(ak J (ak J (ak J (ak J (rfl))))),(ak J (ak J (ak J (ak J (rfl))))),(ak J (ak J (ak J (ak J (rfl))))),(ak J (ak J (ak J (ak J (rfl))))),(ak J (ak J (ak J (ak J (rfl))))),O⟩)) ?_
   refine I5 (.l 4) (.l 2) J J J J J ?_;refine B6 (s:=⟨[(2,_,_),(4,_,_),(5,_,_)],[(.l 2,_),(.l 4,_),(.l 5,_),(.o 0,_)],[(.b (.l 4) 1,_),(.b (.l 4) 2,_),(.b (.l 4) 3,_),(.b (.l 4) 4,_),(.b (.l 4) 5,_)],[]⟩) (B4 (⟨U J,U J,U J,O⟩) (⟨U J,U J,U J,U J,O⟩) (⟨rfl,rfl,rfl,rfl,rfl,O⟩)) ?_;refine C1 ?_
   repeat(first|refine tR ?_|refine bR ?_)
   refine J5 J ?_ ⟨⟨_,rfl,rfl⟩,O⟩ (by simp) J J J J J J
   rfl
 ·rw[if_pos J] at hi
  simp only [if_true] at ho
  have hq2:=hq
  obtain ⟨k,rfl⟩ : ∃ j,k=j + 1:=⟨k - 1,by omega⟩
  refine A8 ?_;refine A8 (A6 ?_);refine A5 J J J (A7 J gU) ?_;refine A5 J J J (A7 J gU) ?_;refine A5 J J J (B8 J gU J J J J J) ?_;refine C7 J J J J J J gU (fun hh=>gA ((fun hh=>hh) hh) (gA J (rfl))) (up (P8 l q _ (by omega) (le3 hl hq))) J ?_;refine A5 J J J (E5 J J gU (fun _ hi=>gP J hi)) ?_;refine B0 ?_;refine B6 (s:=⟨[(2,_,_),(3,_,_),(4,_,_),(5,_,_),(6,_,_),(7,_,_),(20,_,_)],[(.l 2,_),(.l 3,_),(.l 4,_),(.l 5,_),(.o 0,_)],[(.b (.l 2) 1,_),(.b (.l 2) 2,_),(.b (.l 2) 3,_),(.b (.l 2) 4,_),(.b (.l 2) 5,_)],[]⟩) (B4 (⟨U J,U J,U J,U J,U J,U J,U J,O⟩) (⟨U J,U J,U J,U J,U J,O⟩) (⟨rfl,rfl,rfl,rfl,rfl,O⟩)) ?_;refine B9 J (fun hc1=>?_) (fun hc1=>?_)
  ·refine C0 ?_
   refine A8 ?_;refine C4 ?_;refine A8 ?_;refine A8 (A6 ?_);refine A5 J J J (A7 J gU) ?_;refine A5 J J J (F9 J gU) ?_;refine B0 ?_;refine B9 J (fun hc2=>?_) (fun hc2=>?_)
   ·exfalso
    simp at hc2
   ·refine C0 ?_
    refine A8 (A6 ?_);refine A5 J J J (A7 J gU) ?_;refine A5 J J J (G7 J Tryz.underlying79 J gU) ?_;refine C3 J (D9 J J J) ?_;refine C3 J (C8 J J J J J J J) ?_;refine B0 ?_;refine B6 (s:=⟨[(2,_,_),(3,_,_),(4,_,_),(5,_,_),(6,_,_),(8,_,_)],[(.l 2,_),(.l 3,_),(.l 4,_),(.l 5,_),(.l 8,_),(.o 0,_)],[(.b (.l 2) 1,_),(.b (.l 2) 2,_),(.b (.l 2) 3,_),(.b (.l 2) 4,_),(.b (.l 2) 5,_)],[]⟩) (B4 (⟨U J,U J,U J,U J,U J,U J,O⟩) (⟨U J,U J,U J,U J,U J,U J,O⟩) (⟨rfl,rfl,rfl,rfl,rfl,O⟩)) ?_;refine A8 (A6 ?_)
    have b1:=(H0 l [] q).1
    have b2:=(Oa l J1 (C9 l [] q).2).1
    have b3 : (chR l J1 (C9 l [] q).2).2.at'≤l.length:=Bf (K7 hq2)
    refine A5 J J J (B8 J gU J J J J J) ?_;refine C7 J J J J J J gU gU (up (K1 l q (by omega) (le3 hl hq2))) J ?_;refine A5 J J J (A7 J gU) ?_;refine A5 J J J (C6 J gU J) ?_;refine A5 J J J (C6 J gU J) ?_;refine A5 J J J (B1 J gU J J) ?_;refine C3 J (C8 J J J J J J J) ?_;refine C3 J (C8 J J J J J J J) ?_;refine B0 ?_;refine B6 (s:=⟨[(2,_,_),(3,_,_),(4,_,_),(5,_,_),(6,_,_),(8,_,_)],[(.l 2,_),(.l 3,_),(.l 4,_),(.l 5,_),(.l 8,_),(.o 0,_)],[(.b (.l 2) 1,_),(.b (.l 2) 2,_),(.b (.l 2) 3,_),(.b (.l 2) 4,_),(.b (.l 2) 5,_)],[]⟩) (B4 (⟨U J,U J,U J,U J,U J,U J,O⟩) (⟨U J,U J,U J,U J,U J,U J,O⟩) (⟨rfl,rfl,rfl,rfl,rfl,O⟩)) ?_;refine A8 ?_;refine awp_drawn' (by kernel_rfl) ?_;refine D7 J J J J J J J gU J J J J J ?_;refine E9 J J J J J J J gU gU (up Ha) J ?_;refine E9 J J J J J J J gU gU (up (V8 l (C9 l [] q).2 J1 (by omega) (le3 hl (K7 hq2)))) J ?_;refine B5 J J J J (A7 J gU) ?_;refine B5 J J J J (C6 J gU J) ?_;refine B5 J J J J (C6 J gU J) ?_
    refine B5 J J J J (B1 J gU J J) ?_;refine F3 J J J J J J J J J J J J ?_;refine F3 J J J J J J J J J J J J ?_;refine F6 (by kernel_rfl) ?_;refine B6 (s:=⟨[(2,_,_),(3,_,_),(4,_,_),(5,_,_),(6,_,_),(8,_,_)],[(.l 2,_),(.l 3,_),(.l 4,_),(.l 5,_),(.l 8,_),(.o 0,_)],[(.b (.l 2) 1,_),(.b (.l 2) 2,_),(.b (.l 2) 3,_),(.b (.l 2) 4,_),(.b (.l 2) 5,_)],[]⟩) (B4 (⟨U J,U J,U J,U J,U J,U J,O⟩) (⟨U J,U J,U J,U J,U J,U J,O⟩) (⟨(ak J (ak J (ak J (ak J (ak J (ak J (ak J (ak J (ak J (rfl)))))))))),(ak J (ak J (ak J (ak J (ak J (ak J (ak J (ak J (ak J (rfl)))))))))),(ak J (ak J (ak J (ak J (ak J (ak J (ak J (ak J (ak J (rfl)))))))))),(ak J (ak J (ak J (ak J (ak J (ak J (ak J (ak J (ak J (rfl)))))))))),(ak J (ak J (ak J (ak J (ak J (ak J (ak J (ak J (ak J (rfl)))))))))),O⟩)) ?_;refine A8 (A6 ?_);refine A5 J J J (B1 J gU J J) ?_;refine C3 J (J0 J J J J J J J) ?_;refine A5 J J J (B8 J gU J J J J J) ?_;refine E6 (xs:=[_]) J J J J J J J J J gU J ?_;refine C3 J (F8 J J J J J J J (by first|omega|(simp only [List.length_append,List.length_singleton,Fs.rows_len]; omega)) (by first|omega|(simp only [List.length_append,List.length_singleton,Fs.rows_len]; omega))) ?_
    refine A5 J J J (B1 J gU J J) ?_;refine C3 J (I4 J J J J J J J) ?_;refine B0 ?_;refine B6 (s:=⟨[(2,_,_),(3,_,_),(4,_,_),(5,_,_),(6,_,_)],[(.l 2,_),(.l 3,_),(.l 4,_),(.l 5,_),(.o 0,_)],[(.b (.l 2) 1,_),(.b (.l 2) 2,_),(.b (.l 2) 3,_),(.b (.l 2) 4,_),(.b (.l 2) 5,_)],[]⟩) (B4 (⟨U J,U J,U J,U J,U J,O⟩) (⟨U J,U J,U J,U J,U J,O⟩) (⟨rfl,rfl,rfl,rfl,rfl,O⟩)) ?_;refine A8 (A6 ?_);refine A5 J J J (B1 J gU J J) ?_;refine A5 J J J (B2 J gU J J J J) ?_;refine B0 ?_;refine B9 J (fun hc3=>?_) (fun hc3=>?_)
    ·try simp only [nn,B3,T.rows_len,Tk.rows_len] at hc3
     rw[frRA,if_pos hc3] at hi
     rw[← hi]
     refine B6 (s:=⟨[(2,_,_),(3,_,_),(4,_,_),(5,_,_)],[(.l 2,_),(.l 3,_),(.l 4,_),(.l 5,_),(.o 0,_)],[(.b (.l 2) 1,_),(.b (.l 2) 2,_),(.b (.l 2) 3,_),(.b (.l 2) 4,_),(.b (.l 2) 5,_)],[]⟩) (B4 (⟨U J,U J,U J,U J,O⟩) (⟨U J,U J,U J,U J,U J,O⟩) (⟨rfl,rfl,rfl,rfl,rfl,O⟩)) ?_;refine H9 (.l 2) J (fun w1 w2 w3 w4 w5=>?_);refine B6 (s:=⟨[(2,_,_),(3,_,_),(4,_,_),(5,_,_)],[(.l 2,_),(.l 3,_),(.l 4,_),(.l 5,_),(.o 0,_)],[(.b (.l 2) 1,_),(.b (.l 2) 2,_),(.b (.l 2) 3,_),(.b (.l 2) 4,_),(.b (.l 2) 5,_)],[]⟩) (B4 (⟨U J,U J,U J,U J,O⟩) (⟨U J,U J,U J,U J,U J,O⟩) (⟨rfl,rfl,rfl,rfl,rfl,O⟩)) ?_;refine A8 ?_;refine awp_drawn' (by kernel_rfl) ?_;refine D7 J J J J J J J gU J J J J J ?_;refine D7 J J J J J J J gU J J J J J ?_;refine F3 J J J J J J J J J J J J ?_;refine F3 J J J J J J J J J J J J ?_;refine F6 (by kernel_rfl) ?_;refine B6 (s:=⟨[(2,_,_),(4,_,_),(5,_,_)],[(.l 2,_),(.l 4,_),(.l 5,_),(.o 0,_)],[(.b (.l 2) 1,_),(.b (.l 2) 2,_),(.b (.l 2) 3,_),(.b (.l 2) 4,_),(.b (.l 2) 5,_)],[]⟩) (B4 (⟨U J,U J,U J,O⟩) (⟨U J,U J,U J,U J,O⟩) (⟨(ak J (ak J (ak J (ak J (rfl))))),(ak J (ak J (ak J (ak J (rfl))))),(ak J (ak J (ak J (ak J (rfl))))),(ak J (ak J (ak J (ak J (rfl))))),(ak J (ak J (ak J (ak J (rfl))))),O⟩)) ?_
     refine I5 (.l 4) (.l 2) J J J J J ?_;refine B6 (s:=⟨[(2,_,_),(4,_,_),(5,_,_)],[(.l 2,_),(.l 4,_),(.l 5,_),(.o 0,_)],[(.b (.l 4) 1,_),(.b (.l 4) 2,_),(.b (.l 4) 3,_),(.b (.l 4) 4,_),(.b (.l 4) 5,_)],[]⟩) (B4 (⟨U J,U J,U J,O⟩) (⟨U J,U J,U J,U J,O⟩) (⟨rfl,rfl,rfl,rfl,rfl,O⟩)) ?_;refine C1 ?_
     repeat(first|refine tR ?_|refine bR ?_)
     refine J5 J ?_ ⟨⟨_,rfl,rfl⟩,O⟩ (by simp) J J J J J J;exact congrArg (fun z=>X.tup [.agg (narC n.name (strR n.roles) z (strR n.tags) (Sp.rows n.steps) (Gl.rows n.goals)), .agg (pbx l (chR l J1 (C9 l [] q).2).2)]) (Fs.rows_app out [⟨role,(C9 l [] q).1,(chR l J1 (C9 l [] q).2).1⟩]).symm
    ·try simp only [nn,B3,T.rows_len,Tk.rows_len] at hc3
     rw[frRA,if_neg (by rw[hc3]; simp)] at hi
     have b4:=Ws hc3
     refine C0 ?_;refine A6 ?_;refine A5 J J J (A9 J gU) ?_;refine B0 ?_;refine ⟨((chR l J1 (C9 l [] q).2).2,false,out++[⟨role,(C9 l [] q).1,(chR l J1 (C9 l [] q).2).1⟩]),?_,?_,B4 (⟨⟨_,rfl,?_⟩,⟨U J,U J,U J,U J,U J,O⟩⟩) (⟨⟨_,rfl,?_⟩,⟨⟨_,rfl,?_⟩,⟨U J,U J,U J,O⟩⟩⟩) (⟨rfl,rfl,rfl,rfl,rfl,O⟩)⟩
     ·refine ⟨b3,by dsimp only; simp only [List.length_append,List.length_singleton,Bool.false_eq_true,if_false]; omega,k,by dsimp only; omega,?_⟩
      rw[if_neg (by simp)]; exact hi
     ·dsimp only
      simp only [Bool.false_eq_true,if_false,if_true]
      omega
     all_goals first|rfl|exact congrArg (fun z=>some (narC n.name (strR n.roles) z (strR n.tags) (Sp.rows n.steps) (Gl.rows n.goals))) (Fs.rows_app out [⟨role,(C9 l [] q).1,(chR l J1 (C9 l [] q).2).1⟩]).symm|exact congrArg (fun z=>narC n.name (strR n.roles) z (strR n.tags) (Sp.rows n.steps) (Gl.rows n.goals)) (Fs.rows_app out [⟨role,(C9 l [] q).1,(chR l J1 (C9 l [] q).2).1⟩]).symm
  ·exfalso
   simp at hc1
end Go.Proofs.YteidahabkfgfjaaGreat
