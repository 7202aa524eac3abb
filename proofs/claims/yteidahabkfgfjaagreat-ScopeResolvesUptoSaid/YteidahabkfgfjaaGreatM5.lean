/- Our abstract program logic and contracts of this seat's functions, part 5: no statement of its own (long names of ours are shortened by a program). -/
import Derived.Test.YteidahabkfgfjaaGreatM4
import Derived.RangeFuncNested
import Derived.RangeFuncLeaves
import Derived.Shelf.Abstract
import Derived.WalkKit
import Derived.OwnWalkIn
import Derived.TacticsInMore
import Derived.LoopNIn
import Derived.LoopIn
import Derived.KernelRfl
set_option linter.unusedVariables false
set_option linter.unusedSimpArgs false
namespace Go.Proofs.YteidahabkfgfjaaGreat
open Go Go.Abs
theorem T7 (s : List UInt8) : Ctr sys 82 [xs s] [] (xb (E4 s)) none []:=by rw[← uCd s]; exact Tg s
theorem Wz : ∀ (n : Nat) (t : T),t.size≤n→n≤2000000→Ctr sys 144 [xm t] [] (xi (rawE E4 t)) none []:=by
 intro n
 induction n with
 | zero=>intro t h; have := t.size_pos; omega
 | succ n ih =>
  intro t ht hn
  have hse:=t.size_eq
  have hrl:=T.rows_len t.kids
  have hls:=T.len_sizes t.kids
  have he:=Vg E4 t
  rw[De] at he
  refine D1 Tryz.func144 J J J J J J ?_;refine A8 (A6 ?_);refine C3 J (D8 J J J J) ?_;refine A5 J J J (A9 J gU) ?_;refine B0 ?_;refine A8 ?_;refine A8 (A6 ?_);refine A5 J J J (B1 J gU J J) ?_;refine A5 J J J (B2 J gU J J J J) ?_;refine A5 J J J (B7 J J gU gU J) ?_;refine A5 J J J (A7 J gU) ?_;refine A5 J J J (B1 J gU J J) ?_;refine A5 J J J (B2 J (fun hh=>hh) J J J J) ?_;refine A5 J J J (B7 J J (fun hh=>hh) gU J) ?_;refine A5 J J J (E5 J J gU (fun _ hi=>gP J hi)) ?_;refine B0 ?_;refine B5 (s:=⟨[(1,_,_),(12,_,_)],[(.l 1,_)],[],[]⟩) (B4 (⟨U J,U J,O⟩) (⟨U J,O⟩) O) ?_;refine B9 J (fun hc=>?_) (fun hc=>?_)
  ·try simp only [nn,B3,T.rows_len,Fs.rows_len,Sp.rows_len,Gl.rows_len] at hc
   refine A8 (A6 ?_);refine A5 J J J (A9 J gU) ?_;refine B0 ?_;refine C1 ?_
   repeat(first|refine tR ?_|refine bR ?_)
   refine C5 J ?_ O
   (rw[he,if_pos (by grind)]; rfl)
  ·try simp only [nn,B3,T.rows_len,Fs.rows_len,Sp.rows_len,Gl.rows_len] at hc
   rw[if_neg (by grind)] at he
   refine C0 ?_;refine A8 ?_;refine A8 (A6 ?_);refine A5 J J J (B1 J gU J J) ?_;refine A5 J J J (B2 J gU J J J J) ?_;refine C8 J J J J J J gU gU (T7 _) J ?_;refine A5 J J J (F8 J gU) ?_;refine B0 ?_;refine B9 J (fun hc2=>?_) (fun hc2=>?_)
   ·try simp only [nn,B3,T.rows_len,Fs.rows_len,Sp.rows_len,Gl.rows_len] at hc2
    refine A8 (A6 ?_);refine A5 J J J (A9 J gU) ?_;refine B0 ?_;refine C1 ?_
    repeat(first|refine tR ?_|refine bR ?_)
    refine C5 J ?_ O
    (rw[he,if_pos hc2]; rfl)
   ·try simp only [nn,B3,T.rows_len,Fs.rows_len,Sp.rows_len,Gl.rows_len] at hc2
    rw[if_neg (by rw[hc2]; simp)] at he
    refine C0 ?_;refine A8 ?_;refine A8 (A6 ?_);refine A5 J J J (A9 J gU) ?_;refine B0 ?_;refine B5 (s:=⟨[(1,_,_),(3,_,_)],[(.l 1,_)],[],[]⟩) (B4 (⟨U J,U J,O⟩) (⟨U J,O⟩) O) ?_;refine C4 ?_;refine F3 (ι:=Nat) { t:=[(1,_,_)],bx:=[(.l 1,_)],ow:=[] } (fun k=>[(3,true,xi (k : Int))]) (fun k=>[]) (fun k=>k≤t.kids.length∧errs (rawE E4) (t.kids.drop k)=rawE E4 t) (fun k=>t.kids.length - k) (0) (⟨by simp,by rw[he]; rfl⟩) (B4 (⟨U J,U J,O⟩) (⟨U J,O⟩) O) ?_
    intro k hok
    dsimp only [List.cons_append,List.nil_append]
    obtain ⟨hk,hi⟩:=hok
    refine A8 ?_;refine A8 (A6 ?_);refine A5 J J J (A7 J gU) ?_;refine A5 J J J (B1 J gU J J) ?_;refine A5 J J J (B2 J gU J J J J) ?_;refine D9 J J J J J gU J J ?_ (fun hh=>by simp at hh); intro hlen;refine A5 J J J (B7 J J gU gU J) ?_;refine B0 ?_;refine B5 (s:=⟨[(1,_,_),(3,_,_),(21,_,_)],[(.l 1,_)],[],[]⟩) (B4 (⟨U J,U J,U J,O⟩) (⟨U J,O⟩) O) ?_;refine B9 J (fun hc3=>?_) (fun hc3=>?_)
    ·try simp only [nn,B3,T.rows_len,Fs.rows_len,Sp.rows_len,Gl.rows_len] at hc3
     have hlt : k < t.kids.length:=by omega
     have h2:=T.getD_size hlt
     have hd:=O7 (d:=default) hlt hi
     refine C0 ?_;refine A8 ?_;refine C4 ?_;refine A8 (A6 ?_);refine A5 J J J (B1 J gU J J) ?_;refine A5 J J J (B2 J gU J J J J) ?_;refine A5 J J J (A7 J gU) ?_;refine A5 J J J (C2 J J gU gU J J J (fun hh=>T.rows_at (by first|omega|(simp at hh ⊢; omega)))) ?_;refine A5 J J J (D4 J gU J J J J) ?_;refine C8 J J J J J J gU gU (ih (t.kids.getD k default) (by omega) (by omega)) J ?_;refine A5 J J J (A9 J gU) ?_;refine B0 ?_;refine B5 (s:=⟨[(1,_,_),(3,_,_),(4,_,_)],[(.l 1,_)],[],[]⟩) (B4 (⟨U J,U J,U J,O⟩) (⟨U J,O⟩) O) ?_;refine A8 (A6 ?_);refine A5 J J J (A7 J gU) ?_;refine A5 J J J (B7 J J gU gU J) ?_;refine B0 ?_;refine B9 J (fun hc1=>?_) (fun hc1=>?_)
     ·try simp only [nn,B3,T.rows_len,Fs.rows_len,Sp.rows_len,Gl.rows_len] at hc1
      refine A8 (A6 ?_);refine A5 J J J (A7 J gU) ?_;refine A5 J J J (A9 J gU) ?_;refine B0 ?_;refine C1 ?_
      repeat(first|refine tR ?_|refine bR ?_)
      refine C5 J ?_ O;exact H2 (hd.1 (by assumption)).symm
     ·try simp only [nn,B3,T.rows_len,Fs.rows_len,Sp.rows_len,Gl.rows_len] at hc1
      refine C0 ?_;refine A6 ?_;refine A5 J J J (A7 J gU) ?_;refine A5 J J J (D0 J J gU gU J (IntWalk.i64_in _ (by omega))) ?_;refine A5 J J J (A9 J gU) ?_;refine B0 ?_;refine ⟨k + 1,?_,?_,B4 (⟨⟨_,rfl,?_⟩,⟨U J,O⟩⟩) (⟨U J,O⟩) O⟩
      all_goals (first|rfl|omega|exact ⟨by omega,hd.2 (by assumption)⟩)
    ·try simp only [nn,B3,T.rows_len,Fs.rows_len,Sp.rows_len,Gl.rows_len] at hc3
     refine E2 ?_
     repeat(first|refine D5 ?_|refine D6 ?_|refine D2 J ?_)
     refine A8 (A6 ?_);refine A5 J J J (A9 J gU) ?_;refine B0 ?_;refine C1 ?_
     repeat(first|refine tR ?_|refine bR ?_)
     refine C5 J ?_ O;exact H2 (X1 (by omega) hi).symm
theorem Xg (t : T) (ht : t.size≤900000) : Ctr sys 117 [xm t] [] (xi (Z9 E4 t)) none []:=by
 refine D1 Tryz.func117 J J J J J J ?_;refine A8 (A6 ?_);refine C3 J (D8 J J J J) ?_;refine A5 J J J (A9 J gU) ?_;refine B0 ?_;refine A8 ?_;refine A8 (A6 ?_);refine A5 J J J (B8 J gU J J J J J) ?_;refine C8 J J J J J J gU gU (Sy _ (by omega)) J ?_;refine A5 J J J (A9 J gU) ?_;refine B0 ?_;refine B5 (s:=⟨[(1,_,_),(3,_,_)],[(.l 1,_)],[],[]⟩) (B4 (⟨U J,U J,O⟩) (⟨U J,O⟩) O) ?_;refine A8 (A6 ?_);refine A5 J J J (A7 J gU) ?_;refine A5 J J J (B7 J J gU gU J) ?_;refine B0 ?_;refine B9 J (fun hc=>?_) (fun hc=>?_)
 ·try simp only [nn,B3,T.rows_len,Fs.rows_len,Sp.rows_len,Gl.rows_len] at hc
  refine A8 (A6 ?_);refine A5 J J J (A7 J gU) ?_;refine A5 J J J (A9 J gU) ?_;refine B0 ?_;refine C1 ?_
  repeat(first|refine tR ?_|refine bR ?_)
  refine C5 J ?_ O
  (rw[Z9,if_pos hc]; rfl)
 ·try simp only [nn,B3,T.rows_len,Fs.rows_len,Sp.rows_len,Gl.rows_len] at hc
  refine C0 ?_;refine A8 (A6 ?_);refine A5 J J J (B8 J gU J J J J J) ?_;refine C8 J J J J J J gU gU (Wz _ _ (Nat.le_refl _) (by omega)) J ?_;refine A5 J J J (A9 J gU) ?_;refine B0 ?_;refine C1 ?_
  repeat(first|refine tR ?_|refine bR ?_)
  refine C5 J ?_ O
  (rw[Z9,if_neg (by simpa using hc)]; rfl)
theorem Ct (t : T) (ht : t.size≤900000) : Ctr sys 85 [xm t] [] (xi (msgE E4 t)) none []:=by
 refine D1 Tryz.func85 J J J J J J ?_;refine A8 (A6 ?_);refine C3 J (D8 J J J J) ?_;refine A5 J J J (A9 J gU) ?_;refine B0 ?_;refine A8 ?_;refine A8 (A6 ?_);refine A5 J J J (B8 J gU J J J J J) ?_;refine C8 J J J J J J gU gU (Xg _ (by omega)) J ?_;refine A5 J J J (A9 J gU) ?_;refine B0 ?_;refine B5 (s:=⟨[(1,_,_),(3,_,_)],[(.l 1,_)],[],[]⟩) (B4 (⟨U J,U J,O⟩) (⟨U J,O⟩) O) ?_;refine A8 (A6 ?_);refine A5 J J J (A7 J gU) ?_;refine A5 J J J (B7 J J gU gU J) ?_;refine B0 ?_;refine B9 J (fun hc=>?_) (fun hc=>?_)
 ·try simp only [nn,B3,T.rows_len,Fs.rows_len,Sp.rows_len,Gl.rows_len] at hc
  refine A8 (A6 ?_);refine A5 J J J (A7 J gU) ?_;refine A5 J J J (A9 J gU) ?_;refine B0 ?_;refine C1 ?_
  repeat(first|refine tR ?_|refine bR ?_)
  refine C5 J ?_ O
  (rw[msgE,if_pos hc]; rfl)
 ·try simp only [nn,B3,T.rows_len,Fs.rows_len,Sp.rows_len,Gl.rows_len] at hc
  refine C0 ?_;refine A8 ?_;refine A8 (A6 ?_);refine A5 J J J (B8 J gU J J J J J) ?_;refine C8 J J J J J J gU gU (Ci _ _ (Nat.le_refl _) (by omega)) J ?_;refine A5 J J J (B7 J J gU gU J) ?_;refine B0 ?_;refine B5 (s:=⟨[(11,_,_)],[],[],[]⟩) (B4 (⟨U J,O⟩) O O) ?_;refine B9 J (fun hc2=>?_) (fun hc2=>?_)
  ·try simp only [nn,B3,T.rows_len,Fs.rows_len,Sp.rows_len,Gl.rows_len] at hc2
   refine A8 (A6 ?_);refine A5 J J J (A9 J gU) ?_;refine B0 ?_;refine C1 ?_
   repeat(first|refine tR ?_|refine bR ?_)
   refine C5 J ?_ O
   (rw[msgE,if_neg (by simpa using hc),if_pos (by omega)]; rfl)
  ·try simp only [nn,B3,T.rows_len,Fs.rows_len,Sp.rows_len,Gl.rows_len] at hc2
   refine C0 ?_;refine A8 (A6 ?_);refine A5 J J J (A9 J gU) ?_;refine B0 ?_;refine C1 ?_
   repeat(first|refine tR ?_|refine bR ?_)
   refine C5 J ?_ O
   (rw[msgE,if_neg (by simpa using hc),if_neg (by omega)]; rfl)
theorem Q6 (g : Gl) : Ctr sys 119 [xg g] [] (xb (I8 g.kind)) none []:=by
 refine D1 Tryz.func119 J J J J J J ?_;refine A8 (A6 ?_);refine C3 J (D8 J J J J) ?_;refine A5 J J J (A9 J gU) ?_;refine B0 ?_;refine A8 (A6 ?_);refine A5 J J J (B1 J gU J J) ?_;refine A5 J J J (B2 J gU J J J J) ?_;refine A5 J J J (B7 J J gU gU J) ?_;refine A5 J J J (A7 J gU) ?_;refine A5 J J J (B1 J gU J J) ?_;refine A5 J J J (B2 J (fun hh=>hh) J J J J) ?_;refine A5 J J J (B7 J J (fun hh=>hh) gU J) ?_;refine A5 J J J (E5 J J gU (fun _ hi=>gP J hi)) ?_;refine A5 J J J (A9 J gU) ?_;refine B0 ?_;refine C1 ?_
 repeat(first|refine tR ?_|refine bR ?_)
 refine C5 J ?_ O
 rfl
theorem Yu {f : List UInt8→Bool} {l : List (List UInt8)} {k : Nat} {e : Bool} (h : k < l.length) (hi : (l.drop k).all f=e) : (f (l.getD k [])=false→e=false)∧(f (l.getD k [])=true→(l.drop (k + 1)).all f=e):=by
 rw[Lr (d:=[]) h,List.all_cons] at hi
 refine ⟨fun q=>?_,fun q=>?_⟩
 ·rw[q] at hi; exact hi.symm
 ·rw[q] at hi; exact hi
theorem X3 (l : List (List UInt8)) : Ctr sys 84 [xss l] [] (xb (l.all E4)) none []:=by
 have hrl:=B3 l
 refine D1 Tryz.func84 J J J J J J ?_;refine A8 (A6 ?_);refine A5 J J J (A9 J gU) ?_;refine B0 ?_;refine A8 ?_;refine A8 (A6 ?_);refine A5 J J J (A9 J gU) ?_;refine B0 ?_;refine C4 ?_;refine F3 (ι:=Nat) { t:=[(0,_,_)],bx:=[],ow:=[] } (fun k=>[(3,true,xi (k : Int))]) (fun k=>[]) (fun k=>k≤l.length∧(l.drop k).all E4=l.all E4) (fun k=>l.length - k) (0) (⟨by simp,rfl⟩) (B4 (⟨U J,U J,O⟩) O O) ?_
 intro k hok
 dsimp only [List.cons_append,List.nil_append]
 obtain ⟨hk,hi⟩:=hok
 refine A8 ?_;refine A8 (A6 ?_);refine A5 J J J (A7 J gU) ?_;refine A5 J J J (A7 J gU) ?_;refine D9 J J J J J gU J J ?_ (fun hh=>by simp at hh); intro hlen;refine A5 J J J (B7 J J gU gU J) ?_;refine B0 ?_;refine B9 J (fun hc=>?_) (fun hc=>?_)
 ·try simp only [nn,B3,T.rows_len,Fs.rows_len,Sp.rows_len,Gl.rows_len] at hc
  have hlt : k < l.length:=by omega
  have hd:=Yu hlt hi
  refine C0 ?_;refine A8 ?_;refine C4 ?_;refine A8 (A6 ?_);refine A5 J J J (A7 J gU) ?_;refine A5 J J J (A7 J gU) ?_;refine A5 J J J (C2 J J gU gU J J J (fun hh=>L1 (by first|omega|(simp at hh ⊢; omega)))) ?_;refine A5 J J J (E3 J gU J J J) ?_;refine C8 J J J J J J gU gU (T7 _) J ?_;refine A5 J J J (F8 J gU) ?_;refine B0 ?_;refine B5 (s:=⟨[(0,_,_),(3,_,_),(15,_,_)],[],[],[]⟩) (B4 (⟨U J,U J,U J,O⟩) O O) ?_;refine B9 J (fun hc1=>?_) (fun hc1=>?_)
  ·try simp only [nn,B3,T.rows_len,Fs.rows_len,Sp.rows_len,Gl.rows_len] at hc1
   refine A8 (A6 ?_);refine A5 J J J (A9 J gU) ?_;refine B0 ?_;refine C1 ?_
   repeat(first|refine tR ?_|refine bR ?_)
   refine C5 J ?_ O;exact M0 (hd.1 (by assumption)).symm
  ·try simp only [nn,B3,T.rows_len,Fs.rows_len,Sp.rows_len,Gl.rows_len] at hc1
   refine C0 ?_;refine A6 ?_;refine A5 J J J (A7 J gU) ?_;refine A5 J J J (D0 J J gU gU J (IntWalk.i64_in _ (by omega))) ?_;refine A5 J J J (A9 J gU) ?_;refine B0 ?_;refine ⟨k + 1,?_,?_,B4 (⟨⟨_,rfl,?_⟩,⟨U J,O⟩⟩) O O⟩
   all_goals (first|rfl|omega|exact ⟨by omega,hd.2 (by assumption)⟩)
 ·try simp only [nn,B3,T.rows_len,Fs.rows_len,Sp.rows_len,Gl.rows_len] at hc
  rw[List.drop_of_length_le (by omega)] at hi
  refine E2 ?_
  repeat(first|refine D5 ?_|refine D6 ?_|refine D2 J ?_)
  refine A8 (A6 ?_);refine A5 J J J (A9 J gU) ?_;refine B0 ?_;refine C1 ?_
  repeat(first|refine tR ?_|refine bR ?_)
  refine C5 J ?_ O;exact M0 hi
theorem Mm (n : Nar) : Ctr sys 83 [xn n] [] (xi (cntE n)) none []:=by
 have hr1:=B3 n.roles
 have hr2:=Fs.rows_len n.fresh
 have hr3:=B3 n.tags
 have hr4:=Sp.rows_len n.steps
 have hr5:=Gl.rows_len n.goals
 refine D1 Tryz.func83 J J J J J J ?_;refine A8 (A6 ?_);refine C3 J (D8 J J J J) ?_;refine A5 J J J (A9 J gU) ?_;refine B0 ?_;refine A8 ?_;refine A8 (A6 ?_);refine A5 J J J (B1 J gU J J) ?_;refine A5 J J J (B2 J gU J J J J) ?_;refine D9 J J J J J gU J J ?_ (fun hh=>by simp at hh); intro hlen;refine A5 J J J (B7 J J gU gU J) ?_;refine B0 ?_;refine B5 (s:=⟨[(1,_,_),(6,_,_)],[(.l 1,_)],[],[]⟩) (B4 (⟨U J,U J,O⟩) (⟨U J,O⟩) O) ?_;refine B9 J (fun hc1=>?_) (fun hc1=>?_)
 ·try simp only [nn,B3,T.rows_len,Fs.rows_len,Sp.rows_len,Gl.rows_len] at hc1
  refine A8 (A6 ?_);refine A5 J J J (A9 J gU) ?_;refine B0 ?_;refine C1 ?_
  repeat(first|refine tR ?_|refine bR ?_)
  refine C5 J ?_ O
  (refine H2 ?_; unfold cntE; (repeat' split) <;> omega)
 ·try simp only [nn,B3,T.rows_len,Fs.rows_len,Sp.rows_len,Gl.rows_len] at hc1
  refine C0 ?_;refine A8 ?_;refine A8 (A6 ?_);refine A5 J J J (B1 J gU J J) ?_;refine A5 J J J (B2 J gU J J J J) ?_;refine D9 J J J J J gU J J ?_ (fun hh=>by simp at hh); intro hlen;refine A5 J J J (B7 J J gU gU J) ?_;refine A5 J J J (A7 J gU) ?_;refine A5 J J J (B1 J gU J J) ?_;refine A5 J J J (B2 J (fun hh=>hh) J J J J) ?_;refine A5 J J J (G7 J (fun hh=>hh) J J) ?_;refine A5 J J J (B7 J J (fun hh=>hh) gU J) ?_;refine A5 J J J (E5 J J gU (fun _ hi=>gP J hi)) ?_;refine A5 J J J (A7 J gU) ?_;refine A5 J J J (B1 J gU J J) ?_;refine H3 (s:=⟨[(1,_,_),(17,_,_),(18,_,_)],[(.l 1,_)],[],[]⟩) (B4 (⟨U J,U J,U J,O⟩) (⟨U J,O⟩) O) ?_;refine A5 J J J (B2 J (fun hh=>hh) J J J J) ?_;refine A5 J J J (G7 J (fun hh=>hh) J J) ?_;refine A5 J J J (B7 J J (fun hh=>hh) gU J) ?_;refine A5 J J J (E5 J J gU (fun _ hi=>gP J hi)) ?_;refine B0 ?_;refine B9 J (fun hc2=>?_) (fun hc2=>?_)
  ·try simp only [nn,B3,T.rows_len,Fs.rows_len,Sp.rows_len,Gl.rows_len] at hc2
   refine A8 (A6 ?_);refine A5 J J J (A9 J gU) ?_;refine B0 ?_;refine C1 ?_
   repeat(first|refine tR ?_|refine bR ?_)
   refine C5 J ?_ O
   (refine H2 ?_; unfold cntE; (repeat' split) <;> omega)
  ·try simp only [nn,B3,T.rows_len,Fs.rows_len,Sp.rows_len,Gl.rows_len] at hc2
   refine C0 ?_;refine A8 ?_;refine A8 (A6 ?_);refine A5 J J J (B1 J gU J J) ?_;refine A5 J J J (B2 J gU J J J J) ?_;refine D9 J J J J J gU J J ?_ (fun hh=>by simp at hh); intro hlen;refine A5 J J J (B7 J J gU gU J) ?_;refine B0 ?_;refine B5 (s:=⟨[(1,_,_),(26,_,_)],[(.l 1,_)],[],[]⟩) (B4 (⟨U J,U J,O⟩) (⟨U J,O⟩) O) ?_;refine B9 J (fun hc3=>?_) (fun hc3=>?_)
   ·try simp only [nn,B3,T.rows_len,Fs.rows_len,Sp.rows_len,Gl.rows_len] at hc3
    refine A8 (A6 ?_);refine A5 J J J (A9 J gU) ?_;refine B0 ?_;refine C1 ?_
    repeat(first|refine tR ?_|refine bR ?_)
    refine C5 J ?_ O
    (refine H2 ?_; unfold cntE; (repeat' split) <;> omega)
   ·try simp only [nn,B3,T.rows_len,Fs.rows_len,Sp.rows_len,Gl.rows_len] at hc3
    refine C0 ?_;refine A8 ?_;refine A8 (A6 ?_);refine A5 J J J (B1 J gU J J) ?_;refine A5 J J J (B2 J gU J J J J) ?_;refine D9 J J J J J gU J J ?_ (fun hh=>by simp at hh); intro hlen;refine A5 J J J (B7 J J gU gU J) ?_;refine A5 J J J (A7 J gU) ?_;refine A5 J J J (B1 J gU J J) ?_;refine A5 J J J (B2 J (fun hh=>hh) J J J J) ?_;refine A5 J J J (G7 J (fun hh=>hh) J J) ?_;refine A5 J J J (B7 J J (fun hh=>hh) gU J) ?_;refine A5 J J J (E5 J J gU (fun _ hi=>gP J hi)) ?_;refine B0 ?_;refine B5 (s:=⟨[(36,_,_)],[],[],[]⟩) (B4 (⟨U J,O⟩) O O) ?_;refine B9 J (fun hc4=>?_) (fun hc4=>?_)
    ·try simp only [nn,B3,T.rows_len,Fs.rows_len,Sp.rows_len,Gl.rows_len] at hc4
     refine A8 (A6 ?_);refine A5 J J J (A9 J gU) ?_;refine B0 ?_;refine C1 ?_
     repeat(first|refine tR ?_|refine bR ?_)
     refine C5 J ?_ O
     (refine H2 ?_; unfold cntE; (repeat' split) <;> omega)
    ·try simp only [nn,B3,T.rows_len,Fs.rows_len,Sp.rows_len,Gl.rows_len] at hc4
     refine C0 ?_;refine A8 (A6 ?_);refine A5 J J J (A9 J gU) ?_;refine B0 ?_;refine C1 ?_
     repeat(first|refine tR ?_|refine bR ?_)
     refine C5 J ?_ O
     (refine H2 ?_; unfold cntE; (repeat' split) <;> omega)
theorem To (g : Gl) (hg : T.sizes g.data≤900000) : Ctr sys 86 [xg g] [] (xi (N9 E4 g)) none []:=by
 have hls:=T.len_sizes g.data
 have hrl:=T.rows_len g.data
 refine D1 Tryz.func86 J J J J J J ?_;refine A8 (A6 ?_);refine C3 J (D8 J J J J) ?_;refine A5 J J J (A9 J gU) ?_;refine B0 ?_;refine A8 ?_;refine A8 (A6 ?_);refine A5 J J J (B1 J gU J J) ?_;refine A5 J J J (B2 J gU J J J J) ?_;refine A5 J J J (B7 J J gU gU J) ?_;refine A5 J J J (A7 J gU) ?_;refine A5 J J J (B1 J gU J J) ?_;refine A5 J J J (B2 J (fun hh=>hh) J J J J) ?_;refine A5 J J J (B7 J J (fun hh=>hh) gU J) ?_;refine A5 J J J (E5 J J gU (fun _ hi=>gP J hi)) ?_;refine B0 ?_;refine B5 (s:=⟨[(1,_,_),(12,_,_)],[(.l 1,_)],[],[]⟩) (B4 (⟨U J,U J,O⟩) (⟨U J,O⟩) O) ?_;refine B9 J (fun hc=>?_) (fun hc=>?_)
 ·try simp only [nn,B3,T.rows_len,Fs.rows_len,Sp.rows_len,Gl.rows_len] at hc
  refine A8 (A6 ?_);refine A5 J J J (A9 J gU) ?_;refine B0 ?_;refine C1 ?_
  repeat(first|refine tR ?_|refine bR ?_)
  refine C5 J ?_ O
  (rw[N9,if_pos (by grind)]; rfl)
 ·try simp only [nn,B3,T.rows_len,Fs.rows_len,Sp.rows_len,Gl.rows_len] at hc
  refine C0 ?_;refine A8 ?_;refine A8 (A6 ?_);refine A5 J J J (B1 J gU J J) ?_;refine A5 J J J (B2 J gU J J J J) ?_;refine C8 J J J J J J gU gU (T7 _) J ?_;refine A5 J J J (F8 J gU) ?_;refine A5 J J J (A7 J gU) ?_;refine A5 J J J (B8 J gU J J J J J) ?_;refine C8 J J J J J J gU (fun hh=>gA ((fun hh=>hh) hh) (rfl)) (Q6 _) J ?_;refine A5 J J J (A7 J (fun hh=>hh)) ?_;refine A5 J J J (B1 J gU J J) ?_;refine A5 J J J (B2 J (fun hh=>hh) J J J J) ?_;refine C8 J J J J J J gU (fun hh=>gA ((fun hh=>hh) hh) (rfl)) (T7 _) J ?_;refine A5 J J J (F8 J (fun hh=>hh)) ?_;refine H3 (s:=⟨[(1,_,_),(17,_,_),(20,_,_),(24,_,_)],[(.l 1,_)],[],[]⟩) (B4 (⟨U J,U J,U J,U J,O⟩) (⟨U J,O⟩) O) ?_;refine A5 J J J (E0 J J (fun hh=>hh) (fun hh hi=>gP hh hi)) ?_;refine A5 J J J (E5 J J gU (fun _ hi=>gP J hi)) ?_;refine B0 ?_;refine B9 J (fun hc2=>?_) (fun hc2=>?_)
  ·try simp only [nn,B3,T.rows_len,Fs.rows_len,Sp.rows_len,Gl.rows_len] at hc2
   refine A8 (A6 ?_);refine A5 J J J (A9 J gU) ?_;refine B0 ?_;refine C1 ?_
   repeat(first|refine tR ?_|refine bR ?_)
   refine C5 J ?_ O
   (rw[N9,if_neg (by omega),if_pos (by grind)]; rfl)
  ·try simp only [nn,B3,T.rows_len,Fs.rows_len,Sp.rows_len,Gl.rows_len] at hc2
   refine C0 ?_;refine A8 ?_;refine A8 (A6 ?_);refine A5 J J J (B8 J gU J J J J J) ?_;refine C8 J J J J J J gU gU (Q6 _) J ?_;refine A5 J J J (F8 J gU) ?_;refine A5 J J J (A7 J gU) ?_;refine A5 J J J (B1 J gU J J) ?_;refine A5 J J J (B2 J (fun hh=>hh) J J J J) ?_;refine A5 J J J (G0 J J (fun hh=>hh) gU J) ?_;refine A5 J J J (E0 J J gU (fun _ hi=>gP J hi)) ?_;refine B0 ?_;refine B5 (s:=⟨[(1,_,_),(34,_,_)],[(.l 1,_)],[],[]⟩) (B4 (⟨U J,U J,O⟩) (⟨U J,O⟩) O) ?_;refine B9 J (fun hc3=>?_) (fun hc3=>?_)
   ·try simp only [nn,B3,T.rows_len,Fs.rows_len,Sp.rows_len,Gl.rows_len] at hc3
    refine A8 (A6 ?_);refine A5 J J J (A9 J gU) ?_;refine B0 ?_;refine C1 ?_
    repeat(first|refine tR ?_|refine bR ?_)
    refine C5 J ?_ O
    (rw[N9,if_neg (by omega),if_neg (by grind),if_pos (by grind)]; rfl)
   ·try simp only [nn,B3,T.rows_len,Fs.rows_len,Sp.rows_len,Gl.rows_len] at hc3
    refine C0 ?_;refine A8 ?_;refine A8 (A6 ?_);refine A5 J J J (B1 J gU J J) ?_;refine A5 J J J (B2 J gU J J J J) ?_;refine D9 J J J J J gU J J ?_ (fun hh=>by simp at hh); intro hlen;refine A5 J J J (B7 J J gU gU J) ?_;refine A5 J J J (A7 J gU) ?_;refine A5 J J J (B1 J gU J J) ?_;refine A5 J J J (B2 J (fun hh=>hh) J J J J) ?_;refine A5 J J J (G7 J (fun hh=>hh) J J) ?_;refine A5 J J J (B7 J J (fun hh=>hh) gU J) ?_;refine A5 J J J (E5 J J gU (fun _ hi=>gP J hi)) ?_;refine A5 J J J (A7 J gU) ?_;refine A5 J J J (B8 J gU J J J J J) ?_;refine H3 (s:=⟨[(1,_,_),(45,_,_),(46,_,_)],[(.l 1,_)],[],[]⟩) (B4 (⟨U J,U J,U J,O⟩) (⟨U J,O⟩) O) ?_;refine C8 J J J J J J gU (fun hh=>gA ((fun hh=>hh) hh) (rfl)) (Q6 _) J ?_;refine A5 J J J (F8 J (fun hh=>hh)) ?_;refine A5 J J J (A7 J (fun hh=>hh)) ?_;refine A5 J J J (B1 J gU J J) ?_;refine A5 J J J (B2 J (fun hh=>hh) J J J J) ?_;refine A5 J J J (G7 J (fun hh=>hh) J J) ?_;refine A5 J J J (B7 J J (fun hh=>hh) gU J) ?_
    refine A5 J J J (E0 J J (fun hh=>hh) (fun hh hi=>gP hh hi)) ?_;refine A5 J J J (E5 J J gU (fun _ hi=>gP J hi)) ?_;refine B0 ?_;refine B5 (s:=⟨[(1,_,_),(55,_,_)],[(.l 1,_)],[],[]⟩) (B4 (⟨U J,U J,O⟩) (⟨U J,O⟩) O) ?_;refine B9 J (fun hc4=>?_) (fun hc4=>?_)
    ·try simp only [nn,B3,T.rows_len,Fs.rows_len,Sp.rows_len,Gl.rows_len] at hc4
     refine A8 (A6 ?_);refine A5 J J J (A9 J gU) ?_;refine B0 ?_;refine C1 ?_
     repeat(first|refine tR ?_|refine bR ?_)
     refine C5 J ?_ O
     (rw[N9,if_neg (by omega),if_neg (by grind),if_neg (by grind),if_pos (by cases ha : I8 g.kind <;> simp only [ha,Bool.true_eq_false,Bool.false_eq_true,false_and,true_and,and_true,or_false,false_or,not_true_eq_false,not_false_eq_true,ne_eq,reduceCtorEq,and_false] at hc4 ⊢ <;> omega)]; rfl)
    ·try simp only [nn,B3,T.rows_len,Fs.rows_len,Sp.rows_len,Gl.rows_len] at hc4
     have he : N9 E4 g=errs (msgE E4) g.data:=by
      rw[N9,if_neg (by omega),if_neg (by grind),if_neg (by grind),if_neg (by cases ha : I8 g.kind <;> simp only [ha,Bool.true_eq_false,Bool.false_eq_true,false_and,true_and,and_true,or_false,false_or,not_true_eq_false,not_false_eq_true,ne_eq,reduceCtorEq,and_false] at hc4 ⊢ <;> omega)]
     refine C0 ?_;refine A8 ?_;refine A8 (A6 ?_);refine A5 J J J (A9 J gU) ?_;refine B0 ?_;refine C4 ?_;refine F3 (ι:=Nat) { t:=[(1,_,_)],bx:=[(.l 1,_)],ow:=[] } (fun k=>[(3,true,xi (k : Int))]) (fun k=>[]) (fun k=>k≤g.data.length∧errs (msgE E4) (g.data.drop k)=N9 E4 g) (fun k=>g.data.length - k) (0) (⟨by simp,by rw[he]; rfl⟩) (B4 (⟨U J,U J,O⟩) (⟨U J,O⟩) O) ?_
     intro k hok
     dsimp only [List.cons_append,List.nil_append]
     obtain ⟨hk,hi⟩:=hok
     refine A8 ?_;refine A8 (A6 ?_);refine A5 J J J (A7 J gU) ?_;refine A5 J J J (B1 J gU J J) ?_;refine A5 J J J (B2 J gU J J J J) ?_;refine D9 J J J J J gU J J ?_ (fun hh=>by simp at hh); intro hlen;refine A5 J J J (B7 J J gU gU J) ?_;refine B0 ?_;refine B5 (s:=⟨[(1,_,_),(3,_,_),(60,_,_)],[(.l 1,_)],[],[]⟩) (B4 (⟨U J,U J,U J,O⟩) (⟨U J,O⟩) O) ?_;refine B9 J (fun hc5=>?_) (fun hc5=>?_)
     ·try simp only [nn,B3,T.rows_len,Fs.rows_len,Sp.rows_len,Gl.rows_len] at hc5
      have hlt : k < g.data.length:=by omega
      have h2:=T.getD_size hlt
      have hd:=O7 (d:=default) hlt hi
      refine C0 ?_;refine A8 ?_;refine C4 ?_;refine A8 (A6 ?_);refine A5 J J J (B1 J gU J J) ?_;refine A5 J J J (B2 J gU J J J J) ?_;refine A5 J J J (A7 J gU) ?_;refine A5 J J J (C2 J J gU gU J J J (fun hh=>T.rows_at (by first|omega|(simp at hh ⊢; omega)))) ?_;refine A5 J J J (D4 J gU J J J J) ?_;refine C8 J J J J J J gU gU (Ct _ (by omega)) J ?_;refine A5 J J J (A9 J gU) ?_;refine B0 ?_;refine B5 (s:=⟨[(1,_,_),(3,_,_),(4,_,_)],[(.l 1,_)],[],[]⟩) (B4 (⟨U J,U J,U J,O⟩) (⟨U J,O⟩) O) ?_;refine A8 (A6 ?_);refine A5 J J J (A7 J gU) ?_;refine A5 J J J (B7 J J gU gU J) ?_;refine B0 ?_;refine B9 J (fun hc1=>?_) (fun hc1=>?_)
      ·try simp only [nn,B3,T.rows_len,Fs.rows_len,Sp.rows_len,Gl.rows_len] at hc1
       refine A8 (A6 ?_);refine A5 J J J (A7 J gU) ?_;refine A5 J J J (A9 J gU) ?_;refine B0 ?_;refine C1 ?_
       repeat(first|refine tR ?_|refine bR ?_)
       refine C5 J ?_ O;exact H2 (hd.1 (by assumption)).symm
      ·try simp only [nn,B3,T.rows_len,Fs.rows_len,Sp.rows_len,Gl.rows_len] at hc1
       refine C0 ?_;refine A6 ?_;refine A5 J J J (A7 J gU) ?_;refine A5 J J J (D0 J J gU gU J (IntWalk.i64_in _ (by omega))) ?_;refine A5 J J J (A9 J gU) ?_;refine B0 ?_;refine ⟨k + 1,?_,?_,B4 (⟨⟨_,rfl,?_⟩,⟨U J,O⟩⟩) (⟨U J,O⟩) O⟩
       all_goals (first|rfl|omega|exact ⟨by omega,hd.2 (by assumption)⟩)
     ·try simp only [nn,B3,T.rows_len,Fs.rows_len,Sp.rows_len,Gl.rows_len] at hc5
      refine E2 ?_
      repeat(first|refine D5 ?_|refine D6 ?_|refine D2 J ?_)
      refine A8 (A6 ?_);refine A5 J J J (A9 J gU) ?_;refine B0 ?_;refine C1 ?_
      repeat(first|refine tR ?_|refine bR ?_)
      refine C5 J ?_ O;exact H2 (X1 (by omega) hi).symm
theorem Hn {α : Type} {f : α→Int} {l : List α} {k : Nat} (h : l.length≤k) : errs f (l.drop k)=0:=by rw[List.drop_of_length_le h]; rfl
set_option maxHeartbeats 4000000 in
theorem Fu (n : Nar) (hs : ∀ s ∈ n.steps,s.msg.size≤900000) (hg : ∀ g ∈ n.goals,T.sizes g.data≤900000) : Ctr sys 43 [xn n] [] (xi (narE E4 n)) none []:=by
 have hr1:=B3 n.roles
 have hr2:=Fs.rows_len n.fresh
 have hr3:=B3 n.tags
 have hr4:=Sp.rows_len n.steps
 have hr5:=Gl.rows_len n.goals
 refine D1 Tryz.func43 J J J J J J ?_;refine A8 (A6 ?_);refine C3 J (D8 J J J J) ?_;refine A5 J J J (A9 J gU) ?_;refine B0 ?_;refine A8 ?_;refine A8 (A6 ?_);refine A5 J J J (B1 J gU J J) ?_;refine A5 J J J (B2 J gU J J J J) ?_;refine C8 J J J J J J gU gU (T7 _) J ?_;refine A5 J J J (F8 J gU) ?_;refine B0 ?_;refine B5 (s:=⟨[(1,_,_),(13,_,_)],[(.l 1,_)],[],[]⟩) (B4 (⟨U J,U J,O⟩) (⟨U J,O⟩) O) ?_;refine B9 J (fun hc=>?_) (fun hc=>?_)
 ·try simp only [nn,B3,T.rows_len,Fs.rows_len,Sp.rows_len,Gl.rows_len] at hc
  refine A8 (A6 ?_);refine A5 J J J (A9 J gU) ?_;refine B0 ?_;refine C1 ?_
  repeat(first|refine tR ?_|refine bR ?_)
  refine C5 J ?_ O
  (rw[narE,if_pos (by rw[Z6,if_pos hc]; simp),Z6,if_pos hc]; rfl)
 ·try simp only [nn,B3,T.rows_len,Fs.rows_len,Sp.rows_len,Gl.rows_len] at hc
  refine C0 ?_;refine A8 ?_;refine A8 (A6 ?_);refine A5 J J J (B8 J gU J J J J J) ?_;refine C8 J J J J J J gU gU (Mm _) J ?_;refine A5 J J J (A9 J gU) ?_;refine B0 ?_;refine A8 (A6 ?_);refine A5 J J J (A7 J gU) ?_;refine A5 J J J (B7 J J gU gU J) ?_;refine B0 ?_;refine B5 (s:=⟨[(1,_,_),(3,_,_),(17,_,_)],[(.l 1,_)],[],[]⟩) (B4 (⟨U J,U J,U J,O⟩) (⟨U J,O⟩) O) ?_;refine B9 J (fun hc2=>?_) (fun hc2=>?_)
  ·try simp only [nn,B3,T.rows_len,Fs.rows_len,Sp.rows_len,Gl.rows_len] at hc2
   have hh : Z6 E4 n=cntE n:=by rw[Z6,if_neg (by rw[hc]; simp),if_pos hc2]
   refine A8 (A6 ?_);refine A5 J J J (A7 J gU) ?_;refine A5 J J J (A9 J gU) ?_;refine B0 ?_;refine C1 ?_
   repeat(first|refine tR ?_|refine bR ?_)
   refine C5 J ?_ O
   (rw[narE,if_pos (by rw[hh]; exact hc2),hh]; rfl)
  ·try simp only [nn,B3,T.rows_len,Fs.rows_len,Sp.rows_len,Gl.rows_len] at hc2
   have hh : Z6 E4 n=(if n.roles.all E4=false then 2 else if errs (frE E4) n.fresh≠0 then errs (frE E4) n.fresh else if n.tags.all E4=false then 2 else 0):=by rw[Z6,if_neg (by rw[hc]; simp),if_neg (by rw[hc2]; simp)]
   refine C0 ?_;refine A8 ?_;refine A8 (A6 ?_);refine A5 J J J (B1 J gU J J) ?_;refine A5 J J J (B2 J gU J J J J) ?_;refine C8 J J J J J J gU gU (X3 _) J ?_;refine A5 J J J (F8 J gU) ?_;refine B0 ?_;refine B9 J (fun hc3=>?_) (fun hc3=>?_)
   ·try simp only [nn,B3,T.rows_len,Fs.rows_len,Sp.rows_len,Gl.rows_len] at hc3
    rw[if_pos hc3] at hh
    refine A8 (A6 ?_);refine A5 J J J (A9 J gU) ?_;refine B0 ?_;refine C1 ?_
    repeat(first|refine tR ?_|refine bR ?_)
    refine C5 J ?_ O
    (rw[narE,if_pos (by rw[hh]; simp),hh]; rfl)
   ·try simp only [nn,B3,T.rows_len,Fs.rows_len,Sp.rows_len,Gl.rows_len] at hc3
    rw[if_neg (by rw[hc3]; simp)] at hh
    refine C0 ?_;refine A8 ?_;refine A8 (A6 ?_);refine A5 J J J (A9 J gU) ?_;refine B0 ?_;refine B5 (s:=⟨[(1,_,_),(4,_,_)],[(.l 1,_)],[],[]⟩) (B4 (⟨U J,U J,O⟩) (⟨U J,O⟩) O) ?_;refine C4 ?_;refine F3 (ι:=Nat) { t:=[(1,_,_)],bx:=[(.l 1,_)],ow:=[] } (fun k=>[(4,true,xi (k : Int))]) (fun k=>[]) (fun k=>k≤n.fresh.length∧errs (frE E4) (n.fresh.drop k)=errs (frE E4) n.fresh) (fun k=>n.fresh.length - k) (0) (⟨by simp,rfl⟩) (B4 (⟨U J,U J,O⟩) (⟨U J,O⟩) O) ?_
    intro k hokk
    dsimp only [List.cons_append,List.nil_append]
    obtain ⟨hk,hi⟩:=hokk
    refine A8 ?_;refine A8 (A6 ?_);refine A5 J J J (A7 J gU) ?_;refine A5 J J J (B1 J gU J J) ?_;refine A5 J J J (B2 J gU J J J J) ?_;refine D9 J J J J J gU J J ?_ (fun hh=>by simp at hh); intro hlen;refine A5 J J J (B7 J J gU gU J) ?_;refine B0 ?_;refine B5 (s:=⟨[(1,_,_),(4,_,_),(27,_,_)],[(.l 1,_)],[],[]⟩) (B4 (⟨U J,U J,U J,O⟩) (⟨U J,O⟩) O) ?_;refine B9 J (fun hc4=>?_) (fun hc4=>?_)
    ·try simp only [nn,B3,T.rows_len,Fs.rows_len,Sp.rows_len,Gl.rows_len] at hc4
     have hlt : k < n.fresh.length:=by omega
     have hd:=O7 (d:=default) hlt hi
     have hn2:=X3 [(n.fresh.getD k default).role,(n.fresh.getD k default).name]
     refine C0 ?_;refine A8 ?_;refine C4 ?_;refine A8 (A6 ?_);refine A5 J J J (B1 J gU J J) ?_;refine A5 J J J (B2 J gU J J J J) ?_;refine A5 J J J (A7 J gU) ?_;refine A5 J J J (C2 J J gU gU J J J (fun hh=>Fs.rows_at (by first|omega|(simp at hh ⊢; omega)))) ?_;refine A5 J J J (D4 J gU J J J J) ?_;refine C3 J (E1 J J J) ?_;refine C3 J (C7 J J J J J J J) ?_;refine B0 ?_;refine B5 (s:=⟨[(1,_,_),(4,_,_),(5,_,_)],[(.l 1,_),(.l 5,_)],[],[]⟩) (B4 (⟨U J,U J,U J,O⟩) (⟨U J,U J,O⟩) O) ?_;refine A8 ?_;refine A8 (A6 ?_);refine A5 J J J (B1 J gU J J) ?_;refine A5 J J J (B2 J gU J J J J) ?_;refine A5 J J J (B1 J gU J J) ?_;refine A5 J J J (B2 J gU J J J J) ?_;refine E8 (xs:=[_,_]) J J J J J J J J J gU J ?_;refine C8 J J J J J J gU gU (hn2) J ?_;refine A5 J J J (F8 J gU) ?_;refine B0 ?_;refine B5 (s:=⟨[(1,_,_),(4,_,_),(5,_,_),(41,_,_)],[(.l 1,_),(.l 5,_)],[],[]⟩) (B4 (⟨U J,U J,U J,U J,O⟩) (⟨U J,U J,O⟩) O) ?_
     refine B9 J (fun hc5=>?_) (fun hc5=>?_)
     ·try simp only [nn,B3,T.rows_len,Fs.rows_len,Sp.rows_len,Gl.rows_len] at hc5
      have hf : frE E4 (n.fresh.getD k default)=2:=by rw[frE,if_pos (by simpa [Decidable.or_iff_not_imp_left] using hc5)]
      have he:=hd.1 (by rw[hf]; simp)
      rw[he,hf] at hh
      rw[if_pos (by simp)] at hh
      refine A8 (A6 ?_);refine A5 J J J (A9 J gU) ?_;refine B0 ?_;refine C1 ?_
      repeat(first|refine tR ?_|refine bR ?_)
      refine C5 J ?_ O
      (rw[narE,if_pos (by rw[hh]; simp),hh]; rfl)
     ·try simp only [nn,B3,T.rows_len,Fs.rows_len,Sp.rows_len,Gl.rows_len] at hc5
      have hnn : ¬(E4 (n.fresh.getD k default).role=false∨E4 (n.fresh.getD k default).name=false):=by
       simp at hc5 ⊢; simp [hc5]
      refine C0 ?_;refine A8 (A6 ?_);refine A5 J J J (B1 J gU J J) ?_;refine A5 J J J (B2 J gU J J J J) ?_;refine A5 J J J (B7 J J gU gU J) ?_;refine A5 J J J (A7 J gU) ?_;refine A5 J J J (B1 J gU J J) ?_;refine A5 J J J (B2 J (fun hh=>hh) J J J J) ?_;refine A5 J J J (B7 J J (fun hh=>hh) gU J) ?_;refine A5 J J J (E0 J J gU (fun _ hi=>gP J hi)) ?_;refine A5 J J J (A7 J gU) ?_;refine A5 J J J (B1 J gU J J) ?_;refine A5 J J J (B2 J (fun hh=>hh) J J J J) ?_;refine A5 J J J (B7 J J (fun hh=>hh) gU J) ?_;refine H3 (s:=⟨[(1,_,_),(4,_,_),(50,_,_),(53,_,_)],[(.l 1,_)],[],[]⟩) (B4 (⟨U J,U J,U J,U J,O⟩) (⟨U J,O⟩) O) ?_;refine A5 J J J (E0 J J gU (fun _ hi=>gP J hi)) ?_;refine B0 ?_;refine B9 J (fun hc6=>?_) (fun hc6=>?_)
      ·try simp only [nn,B3,T.rows_len,Fs.rows_len,Sp.rows_len,Gl.rows_len] at hc6
       have hf : frE E4 (n.fresh.getD k default)=10:=by rw[frE,if_neg hnn,if_pos (by omega)]
       have he:=hd.1 (by rw[hf]; simp)
       rw[he,hf] at hh
       rw[if_pos (by simp)] at hh
       refine A8 (A6 ?_);refine A5 J J J (A9 J gU) ?_;refine B0 ?_;refine C1 ?_
       repeat(first|refine tR ?_|refine bR ?_)
       refine C5 J ?_ O
       (rw[narE,if_pos (by rw[hh]; simp),hh]; rfl)
      ·try simp only [nn,B3,T.rows_len,Fs.rows_len,Sp.rows_len,Gl.rows_len] at hc6
       have hf : frE E4 (n.fresh.getD k default)=0:=by rw[frE,if_neg hnn,if_neg (by omega)]
       refine C0 ?_;refine A6 ?_;refine A5 J J J (A7 J gU) ?_;refine A5 J J J (D0 J J gU gU J (IntWalk.i64_in _ (by omega))) ?_;refine A5 J J J (A9 J gU) ?_;refine B0 ?_;refine ⟨k + 1,?_,?_,B4 (⟨⟨_,rfl,?_⟩,⟨U J,O⟩⟩) (⟨U J,O⟩) O⟩
       all_goals first|rfl|omega|exact ⟨by omega,hd.2 hf⟩
    ·try simp only [nn,B3,T.rows_len,Fs.rows_len,Sp.rows_len,Gl.rows_len] at hc4
     rw[Hn (by omega)] at hi
     rw[← hi,if_neg (by simp)] at hh
     refine E2 ?_
     repeat(first|refine D5 ?_|refine D6 ?_|refine D2 J ?_)
     refine A8 ?_;refine A8 (A6 ?_);refine A5 J J J (B1 J gU J J) ?_;refine A5 J J J (B2 J gU J J J J) ?_;refine C8 J J J J J J gU gU (X3 _) J ?_;refine A5 J J J (F8 J gU) ?_;refine B0 ?_;refine B9 J (fun hc5=>?_) (fun hc5=>?_)
     ·try simp only [nn,B3,T.rows_len,Fs.rows_len,Sp.rows_len,Gl.rows_len] at hc5
      rw[if_pos hc5] at hh
      refine A8 (A6 ?_);refine A5 J J J (A9 J gU) ?_;refine B0 ?_;refine C1 ?_
      repeat(first|refine tR ?_|refine bR ?_)
      refine C5 J ?_ O
      (rw[narE,if_pos (by rw[hh]; simp),hh]; rfl)
     ·try simp only [nn,B3,T.rows_len,Fs.rows_len,Sp.rows_len,Gl.rows_len] at hc5
      rw[if_neg (by rw[hc5]; simp)] at hh
      have hN : narE E4 n=(if errs (spE E4) n.steps≠0 then errs (spE E4) n.steps else errs (N9 E4) n.goals):=by rw[narE,if_neg (by rw[hh]; simp)]
      refine C0 ?_;refine A8 ?_;refine A8 (A6 ?_);refine A5 J J J (A9 J gU) ?_;refine B0 ?_;refine B5 (s:=⟨[(1,_,_),(6,_,_)],[(.l 1,_)],[],[]⟩) (B4 (⟨U J,U J,O⟩) (⟨U J,O⟩) O) ?_;refine C4 ?_;refine F3 (ι:=Nat) { t:=[(1,_,_)],bx:=[(.l 1,_)],ow:=[] } (fun j=>[(6,true,xi (j : Int))]) (fun j=>[]) (fun j=>j≤n.steps.length∧errs (spE E4) (n.steps.drop j)=errs (spE E4) n.steps) (fun j=>n.steps.length - j) (0) (⟨by simp,rfl⟩) (B4 (⟨U J,U J,O⟩) (⟨U J,O⟩) O) ?_
      intro j hokj
      dsimp only [List.cons_append,List.nil_append]
      obtain ⟨hj,hij⟩:=hokj
      refine A8 ?_;refine A8 (A6 ?_);refine A5 J J J (A7 J gU) ?_;refine A5 J J J (B1 J gU J J) ?_;refine A5 J J J (B2 J gU J J J J) ?_;refine D9 J J J J J gU J J ?_ (fun hh=>by simp at hh); intro hlen;refine A5 J J J (B7 J J gU gU J) ?_;refine B0 ?_;refine B5 (s:=⟨[(1,_,_),(6,_,_),(63,_,_)],[(.l 1,_)],[],[]⟩) (B4 (⟨U J,U J,U J,O⟩) (⟨U J,O⟩) O) ?_;refine B9 J (fun hc6=>?_) (fun hc6=>?_)
      ·try simp only [nn,B3,T.rows_len,Fs.rows_len,Sp.rows_len,Gl.rows_len] at hc6
       have hlt : j < n.steps.length:=by omega
       have hd:=O7 (d:=default) hlt hij
       have hmem:=hs _ (Em (d:=default) hlt)
       have hn2:=X3 [(n.steps.getD j default).frm,(n.steps.getD j default).dst]
       refine C0 ?_;refine A8 ?_;refine C4 ?_;refine A8 ?_;refine A8 ?_;refine awp_drawn' (by kernel_rfl) ?_;refine B6 J J J J (B1 J gU J J) ?_;refine G5 J J J J J J J gU J J J J ?_;refine B6 J J J J (A7 J gU) ?_;refine B6 J J J J (C2 J J gU gU J J J (fun hh=>Sp.rows_at (by first|omega|(simp at hh ⊢; omega)))) ?_;refine B6 J J J J (F1 J gU J J) ?_;refine B6 J J J J (E3 J gU J J J) ?_;refine B6 J J J J (B1 J gU J J) ?_;refine G5 J J J J J J J gU J J J J ?_;refine B6 J J J J (A7 J gU) ?_;refine B6 J J J J (C2 J J gU gU J J J (fun hh=>Sp.rows_at (by first|omega|(simp at hh ⊢; omega)))) ?_;refine B6 J J J J (F1 J gU J J) ?_;refine B6 J J J J (E3 J gU J J J) ?_;refine U4 (xs:=[_,_]) J J J J J J J J J J gU J ?_;refine E7 J J J J J J J gU gU (hn2) J ?_;refine B6 J J J J (F8 J gU) ?_;refine F9 (by kernel_rfl) ?_;refine B5 (s:=⟨[(1,_,_),(6,_,_),(80,_,_)],[(.l 1,_)],[],[]⟩) (B4 (⟨U J,U J,U J,O⟩) (⟨U J,O⟩) O) ?_;refine B9 J (fun hc7=>?_) (fun hc7=>?_)
       ·try simp only [nn,B3,T.rows_len,Fs.rows_len,Sp.rows_len,Gl.rows_len] at hc7
        have hf : spE E4 (n.steps.getD j default)=2:=by rw[spE,if_pos (by simpa [Decidable.or_iff_not_imp_left] using hc7)]
        have he:=hd.1 (by rw[hf]; simp)
        rw[he,hf,if_pos (by simp)] at hN
        refine A8 (A6 ?_);refine A5 J J J (A9 J gU) ?_;refine B0 ?_;refine C1 ?_
        repeat(first|refine tR ?_|refine bR ?_)
        refine C5 J ?_ O
        (rw[hN]; rfl)
       ·try simp only [nn,B3,T.rows_len,Fs.rows_len,Sp.rows_len,Gl.rows_len] at hc7
        have hnn : ¬(E4 (n.steps.getD j default).frm=false∨E4 (n.steps.getD j default).dst=false):=by
         simp at hc7 ⊢; simp [hc7]
        have hf : spE E4 (n.steps.getD j default)=msgE E4 (n.steps.getD j default).msg:=by rw[spE,if_neg hnn]
        rw[hf] at hd
        refine C0 ?_;refine A8 (A6 ?_);refine A5 J J J (B1 J gU J J) ?_;refine A5 J J J (B2 J gU J J J J) ?_;refine A5 J J J (A7 J gU) ?_;refine A5 J J J (C2 J J gU gU J J J (fun hh=>Sp.rows_at (by first|omega|(simp at hh ⊢; omega)))) ?_;refine A5 J J J (F1 J gU J J) ?_;refine A5 J J J (D4 J gU J J J J) ?_;refine C8 J J J J J J gU gU (Ct _ hmem) J ?_;refine A5 J J J (A9 J gU) ?_;refine B0 ?_;refine B5 (s:=⟨[(1,_,_),(6,_,_),(7,_,_)],[(.l 1,_)],[],[]⟩) (B4 (⟨U J,U J,U J,O⟩) (⟨U J,O⟩) O) ?_;refine A8 (A6 ?_);refine A5 J J J (A7 J gU) ?_;refine A5 J J J (B7 J J gU gU J) ?_;refine B0 ?_;refine B9 J (fun hc8=>?_) (fun hc8=>?_)
        ·try simp only [nn,B3,T.rows_len,Fs.rows_len,Sp.rows_len,Gl.rows_len] at hc8
         have he:=hd.1 hc8
         rw[he,if_pos hc8] at hN
         refine A8 (A6 ?_);refine A5 J J J (A7 J gU) ?_;refine A5 J J J (A9 J gU) ?_;refine B0 ?_;refine C1 ?_
         repeat(first|refine tR ?_|refine bR ?_)
         refine C5 J ?_ O
         (rw[hN]; rfl)
        ·try simp only [nn,B3,T.rows_len,Fs.rows_len,Sp.rows_len,Gl.rows_len] at hc8
         refine C0 ?_;refine A6 ?_;refine A5 J J J (A7 J gU) ?_;refine A5 J J J (D0 J J gU gU J (IntWalk.i64_in _ (by omega))) ?_;refine A5 J J J (A9 J gU) ?_;refine B0 ?_;refine ⟨j + 1,?_,?_,B4 (⟨⟨_,rfl,?_⟩,⟨U J,O⟩⟩) (⟨U J,O⟩) O⟩
         all_goals first|rfl|omega|exact ⟨by omega,hd.2 hc8⟩
      ·try simp only [nn,B3,T.rows_len,Fs.rows_len,Sp.rows_len,Gl.rows_len] at hc6
       rw[Hn (by omega)] at hij
       rw[← hij,if_neg (by simp)] at hN
       refine E2 ?_
       repeat(first|refine D5 ?_|refine D6 ?_|refine D2 J ?_)
       refine A8 ?_;refine A8 (A6 ?_);refine A5 J J J (A9 J gU) ?_;refine B0 ?_;refine C4 ?_;refine F3 (ι:=Nat) { t:=[(1,_,_)],bx:=[(.l 1,_)],ow:=[] } (fun i=>[(8,true,xi (i : Int))]) (fun i=>[]) (fun i=>i≤n.goals.length∧errs (N9 E4) (n.goals.drop i)=errs (N9 E4) n.goals) (fun i=>n.goals.length - i) (0) (⟨by simp,rfl⟩) (B4 (⟨U J,U J,O⟩) (⟨U J,O⟩) O) ?_
       intro i hoki
       dsimp only [List.cons_append,List.nil_append]
       obtain ⟨hi2,hii⟩:=hoki
       refine A8 ?_;refine A8 (A6 ?_);refine A5 J J J (A7 J gU) ?_;refine A5 J J J (B1 J gU J J) ?_;refine A5 J J J (B2 J gU J J J J) ?_;refine D9 J J J J J gU J J ?_ (fun hh=>by simp at hh); intro hlen;refine A5 J J J (B7 J J gU gU J) ?_;refine B0 ?_;refine B5 (s:=⟨[(1,_,_),(8,_,_),(95,_,_)],[(.l 1,_)],[],[]⟩) (B4 (⟨U J,U J,U J,O⟩) (⟨U J,O⟩) O) ?_;refine B9 J (fun hc7=>?_) (fun hc7=>?_)
       ·try simp only [nn,B3,T.rows_len,Fs.rows_len,Sp.rows_len,Gl.rows_len] at hc7
        have hlt : i < n.goals.length:=by omega
        have hd:=O7 (d:=default) hlt hii
        have hmem:=hg _ (Em (d:=default) hlt)
        refine C0 ?_;refine A8 ?_;refine C4 ?_;refine A8 (A6 ?_);refine A5 J J J (B1 J gU J J) ?_;refine A5 J J J (B2 J gU J J J J) ?_;refine A5 J J J (A7 J gU) ?_;refine A5 J J J (C2 J J gU gU J J J (fun hh=>Gl.rows_at (by first|omega|(simp at hh ⊢; omega)))) ?_;refine A5 J J J (D4 J gU J J J J) ?_;refine C8 J J J J J J gU gU (To _ hmem) J ?_;refine A5 J J J (A9 J gU) ?_;refine B0 ?_;refine B5 (s:=⟨[(1,_,_),(8,_,_),(9,_,_)],[(.l 1,_)],[],[]⟩) (B4 (⟨U J,U J,U J,O⟩) (⟨U J,O⟩) O) ?_;refine A8 (A6 ?_);refine A5 J J J (A7 J gU) ?_;refine A5 J J J (B7 J J gU gU J) ?_;refine B0 ?_;refine B9 J (fun hc1=>?_) (fun hc1=>?_)
        ·try simp only [nn,B3,T.rows_len,Fs.rows_len,Sp.rows_len,Gl.rows_len] at hc1
         refine A8 (A6 ?_);refine A5 J J J (A7 J gU) ?_;refine A5 J J J (A9 J gU) ?_;refine B0 ?_;refine C1 ?_
         repeat(first|refine tR ?_|refine bR ?_)
         refine C5 J ?_ O
         (rw[hN,hd.1 (by assumption)]; rfl)
        ·try simp only [nn,B3,T.rows_len,Fs.rows_len,Sp.rows_len,Gl.rows_len] at hc1
         refine C0 ?_;refine A6 ?_;refine A5 J J J (A7 J gU) ?_;refine A5 J J J (D0 J J gU gU J (IntWalk.i64_in _ (by omega))) ?_;refine A5 J J J (A9 J gU) ?_;refine B0 ?_;refine ⟨i + 1,?_,?_,B4 (⟨⟨_,rfl,?_⟩,⟨U J,O⟩⟩) (⟨U J,O⟩) O⟩
         all_goals (first|rfl|omega|exact ⟨by omega,hd.2 (by assumption)⟩)
       ·try simp only [nn,B3,T.rows_len,Fs.rows_len,Sp.rows_len,Gl.rows_len] at hc7
        rw[Hn (by omega)] at hii
        refine E2 ?_
        repeat(first|refine D5 ?_|refine D6 ?_|refine D2 J ?_)
        refine A8 (A6 ?_);refine A5 J J J (A9 J gU) ?_;refine B0 ?_;refine C1 ?_
        repeat(first|refine tR ?_|refine bR ?_)
        refine C5 J ?_ O
        (rw[hN,← hii]; rfl)
theorem Ko {α : Type} {l : List Tk} {f : PS→α × PS} (hf : Fwd l f) : ∀ (n : Nat) (p : PS) (out : List α),(L7 l f n p out).1.length + p.at'≤out.length + (L7 l f n p out).2.at'
 | 0,p,out=>by simp [L7]
 | n + 1,p,out=>by
  rw[L7]
  split
  ·have h1:=(hf p.go).1
   have h2:=Ko hf n (f p.go).2 (out++[(f p.go).1])
   have hg : p.go.at'=p.at' + 1:=rfl
   rw[List.length_append,List.length_singleton] at h2
   omega
  ·simp
theorem Cj {α : Type} {l : List Tk} {f : PS→α × PS} (hf : Fwd l f) (p : PS) : (H1 l f p).1.length + p.at'≤1 + (H1 l f p).2.at':=by
 have h1:=(hf p).1
 have h2:=Ko hf (l.length + 1) (f p).2 [(f p).1]
 unfold H1
 rw[List.length_singleton] at h2
 omega
theorem Ji (l : List Tk) (role : List UInt8) : ∀ (n : Nat) (p : PS) (out : List Fs),(N3 l role n p out).1.length + p.at'≤out.length + 1 + (N3 l role n p out).2.at'
 | 0,p,out=>by simp [N3]
 | n + 1,p,out=>by
  have h1:=(G9 l [] p).1
  have h2:=(G9 l sortW (C9 l [] p).2).1
  rw[N3]
  split
  ·dsimp only; omega
  split
  ·have hg : (C9 l sortW (C9 l [] p).2).2.go.at'=(C9 l sortW (C9 l [] p).2).2.at' + 1:=rfl
   have h4:=Ji l role n (C9 l sortW (C9 l [] p).2).2.go (out++[⟨role,(C9 l [] p).1,2 + I7 sortW (C9 l sortW (C9 l [] p).2).1⟩])
   rw[List.length_append,List.length_singleton] at h4
   omega
  ·simp only [List.length_append,List.length_singleton]; omega
theorem Sz (l : List Tk) (p : PS) (out : List Fs) : (Ag l p out).1.length + p.at'≤out.length + 1 + (Ag l p out).2.at':=by
 have h1:=(G9 l [] p).1
 have h2:=(J4 l [58] (C9 l [] p).2).1
 have h3:=Ji l (C9 l [] p).1 (l.length + 1) (E9 l [58] (C9 l [] p).2) out
 unfold Ag
 omega
structure Nar.Le (n : Nar) (k : Nat) : Prop where
 roles : n.roles.length≤k
 fresh : n.fresh.length≤k
 tags : n.tags.length≤k
 steps : n.steps.length≤k
 goals : n.goals.length≤k
theorem Nar.Le.mono {n : Nar} {k j : Nat} (h : n.Le k) (hj : k≤j) : n.Le j:=⟨Nat.le_trans h.roles hj,Nat.le_trans h.fresh hj,Nat.le_trans h.tags hj,Nat.le_trans h.steps hj,Nat.le_trans h.goals hj⟩
theorem Wa {l : List Tk} {ws : List (List UInt8)} {p : PS} (h : (C9 l ws p).1≠[]) : (C9 l ws p).2.at'=p.at' + 1:=by
 cases hq : namQ l p ws with
 | true=>rw[C9,if_pos hq]; rfl
 | false=>rw[C9,hq] at h; exact absurd J h
theorem uAG {l : List Tk} {n : Nar} {line : Int} {w : List UInt8} {q : PS} {k : Nat} (h : n.Le k) (hk : w≠[]→k + 1≤q.at') (hq : k≤q.at') : (V0 l n line w q).1.Le (V0 l n line w q).2.at':=by
 have hz:=Ia l n line w q
 unfold V0 at hz ⊢
 split
 ·rename_i hw
  rw[if_pos hw] at hz
  have h1 : (J7 l q).1.length + q.at'≤1 + (J7 l q).2.at':=Cj (G9 l []) q
  have h2:=hk (by rw[hw]; decide)
  have h3:=hz.1
  have := h.mono (j := (J7 l q).2.at') (by dsimp only at h3; omega)
  have h4:=h.roles
  exact ⟨by dsimp only; rw[List.length_append]; omega,this.fresh,this.tags,this.steps,this.goals⟩
 rename_i hw1
 rw[if_neg hw1] at hz
 split
 ·rename_i hw
  rw[if_pos hw] at hz
  have h1:=Sz l q n.fresh
  have h2:=hk (by rw[hw]; decide)
  have h3:=hz.1
  have := h.mono (j := (Ag l q n.fresh).2.at') (by dsimp only at h3; omega)
  have h4:=h.fresh
  exact ⟨this.roles,by dsimp only; omega,this.tags,this.steps,this.goals⟩
 rename_i hw2
 rw[if_neg hw2] at hz
 split
 ·rename_i hw
  rw[if_pos hw] at hz
  have h1 : (J7 l q).1.length + q.at'≤1 + (J7 l q).2.at':=Cj (G9 l []) q
  have h2:=hk (by rw[hw]; decide)
  have h3:=hz.1
  have := h.mono (j := (J7 l q).2.at') (by dsimp only at h3; omega)
  have h4:=h.tags
  exact ⟨this.roles,this.fresh,by dsimp only; rw[List.length_append]; omega,this.steps,this.goals⟩
 rename_i hw3
 rw[if_neg hw3] at hz
 split
 ·rename_i hw
  rw[if_pos hw] at hz
  have h2:=hk (by rw[hw]; decide)
  have h3:=hz.1
  have := h.mono (j := (Hb l line q).2.at') (by dsimp only at h3; omega)
  have h4:=h.steps
  exact ⟨this.roles,this.fresh,this.tags,by dsimp only at h3 ⊢; rw[List.length_append,List.length_singleton]; omega,this.goals⟩
 rename_i hw4
 rw[if_neg hw4] at hz
 split
 ·rename_i hw
  rw[if_pos hw] at hz
  have h2:=hk (by rw[hw]; decide)
  have h3:=hz.1
  have := h.mono (j := (Ga l line q).2.at') (by dsimp only at h3; omega)
  have h4:=h.goals
  exact ⟨this.roles,this.fresh,this.tags,this.steps,by dsimp only at h3 ⊢; rw[List.length_append,List.length_singleton]; omega⟩
 exact h.mono hq
theorem Zo {l : List Tk} {n : Nar} {p : PS} (h : n.Le p.at') : (Y9 l n p).1.Le (Y9 l n p).2.at':=by
 have h1:=(G9 l K1 p).1
 have h2:=uAG (l:=l) (line:=P9 l p) (w:=(C9 l K1 p).1) (q:=(C9 l K1 p).2) h (fun hw=>by rw[Wa hw]; exact Nat.le_refl _) h1
 exact h2.mono (J4 l [59] _).1
theorem Iy (t : T) : ∀ l : List T,T.sizes (l++[t])=T.sizes l + t.size
 | []=>by simp [T.sizes]
 | x :: l=>by rw[List.cons_append,T.sizes,T.sizes,Iy t l]; omega
theorem Li : ∀ l : List T,l≠[]→(tupT l).size + 1=T.sizes l + l.length
 | [],h=>absurd J h
 | [t],_=>by simp [tupT,T.sizes]
 | t :: u :: l,_=>by
  have ih:=Li (u :: l) (by simp)
  have e : (uBB t (tupT (u :: l))).size=1 + (t.size + (tupT (u :: l)).size):=by rw[T.size_eq]; show 1 + T.sizes [t,tupT (u :: l)]=_; simp [T.sizes]
  rw[tupT,e,T.sizes,List.length_cons (a:=t)]
  omega
def Szd (f : PS→T × PS) : Prop:=∀ p : PS,(f p).1.size + 2 * p.at'≤2 * (f p).2.at' + 1
theorem Hk {l : List Tk} {f : PS→T × PS} (hs : Szd f) : ∀ (n : Nat) (p : PS) (out : List T),T.sizes (L7 l f n p out).1 + (L7 l f n p out).1.length + 2 * p.at'≤T.sizes out + out.length + 2 * (L7 l f n p out).2.at'
 | 0,p,out=>by simp [L7]
 | n + 1,p,out=>by
  rw[L7]
  split
  ·have h1:=hs p.go
   have h2:=Hk (l:=l) hs n (f p.go).2 (out++[(f p.go).1])
   have hg : p.go.at'=p.at' + 1:=rfl
   rw[List.length_append,List.length_singleton,Iy] at h2
   omega
  ·simp
theorem Db {l : List Tk} {f : PS→T × PS} (hs : Szd f) (p : PS) : T.sizes (H1 l f p).1 + (H1 l f p).1.length + 2 * p.at'≤2 + 2 * (H1 l f p).2.at':=by
 have h1:=hs p
 have h2:=Hk (l:=l) hs (l.length + 1) (f p).2 [(f p).1]
 unfold H1
 rw[List.length_singleton,T.sizes,T.sizes] at h2
 omega
theorem Ug {α : Type} {l : List Tk} {f : PS→α × PS} : ∀ (n : Nat) (p : PS) (out : List α),out≠[]→(L7 l f n p out).1≠[]
 | 0,p,out,h=>h
 | n + 1,p,out,h=>by
  rw[L7]
  split
  ·exact Ug n _ _ (by simp)
  ·exact h
theorem Di (l : List Tk) : ∀ n : Nat,Szd (J2 l n)
 | 0,p=>by
  have : (default : T).size=1:=by rw[T.size_eq]; rfl
  show (default : T).size + _≤_
  rw[this]; show 1 + 2 * p.at'≤2 * p.at' + 1; omega
 | n + 1,p=>by
  have ih:=Di l n
  have hf:=Ba l n
  rw[J2]
  split
  ·have hg : p.go.at'=p.at' + 1:=rfl
   have h1:=ih p.go
   have h2:=(J4 l [44] (J2 l n p.go).2).1
   have h3:=Db (l:=l) ih (E9 l [44] (J2 l n p.go).2)
   have h4:=(J4 l [62] (H1 l (J2 l n) (E9 l [44] (J2 l n p.go).2)).2).1
   have h5:=Li ((J2 l n p.go).1 :: (H1 l (J2 l n) (E9 l [44] (J2 l n p.go).2)).1) (by simp)
   rw[T.sizes,List.length_cons] at h5
   dsimp only
   omega
  ·have h1:=(G9 l [] p).1
   split
   ·have hg : (C9 l [] p).2.go.at'=(C9 l [] p).2.at' + 1:=rfl
    split
    ·have hg2 : (C9 l [] p).2.go.go.at'=(C9 l [] p).2.at' + 2:=rfl
     have : (⟨3,(C9 l [] p).1,0,[]⟩ : T).size=1:=by rw[T.size_eq]; rfl
     dsimp only; omega
    ·have h3:=Db (l:=l) ih (C9 l [] p).2.go
     have h4:=(J4 l [41] (H1 l (J2 l n) (C9 l [] p).2.go).2).1
     have h5 : (H1 l (J2 l n) (C9 l [] p).2.go).1≠[]:=Ug _ _ _ (by simp)
     have h6:=List.length_pos_iff.2 h5
     have : (⟨3,(C9 l [] p).1,0,(H1 l (J2 l n) (C9 l [] p).2.go).1⟩ : T).size=1 + T.sizes (H1 l (J2 l n) (C9 l [] p).2.go).1:=by rw[T.size_eq]; rfl
     dsimp only; omega
   ·have : (⟨2,(C9 l [] p).1,0,[]⟩ : T).size=1:=by rw[T.size_eq]; rfl
    dsimp only; omega
structure Nar.Sm (n : Nar) (M : Nat) : Prop where
 steps : ∀ s ∈ n.steps,s.msg.size≤M
 goals : ∀ g ∈ n.goals,T.sizes g.data≤M
theorem Rv {l : List Tk} (line : Int) {p : PS} (hp : p.at'≤l.length) : (Hb l line p).1.msg.size≤2 * l.length + 2:=by
 have h:=(Ie l line p).2 hp
 have := Di l (l.length + 1) (E9 l [58] (C9 l [] (E9 l [62] (E9 l [45] (C9 l [] p).2))).2)
 have h2 : (J2 l (l.length + 1) (E9 l [58] (C9 l [] (E9 l [62] (E9 l [45] (C9 l [] p).2))).2)).2.at'≤l.length:=h
 show (J2 l (l.length + 1) (E9 l [58] (C9 l [] (E9 l [62] (E9 l [45] (C9 l [] p).2))).2)).1.size≤_
 omega
theorem Tf {l : List Tk} (line : Int) {p : PS} (hp : p.at'≤l.length) : T.sizes (Ga l line p).1.data≤2 * l.length + 2:=by
 have h:=(Hf l line p).2 hp
 have := Db (l := l) (Di l (l.length + 1)) (E9 l [58] (if I8 (1 + I7 kindW (C9 l kindW p).1)=true then C9 l [] (C9 l [] (C9 l kindW p).2).2 else ([],(C9 l [] (C9 l kindW p).2).2)).2)
 have h2 : (H1 l (J2 l (l.length + 1)) (E9 l [58] (if I8 (1 + I7 kindW (C9 l kindW p).1)=true then C9 l [] (C9 l [] (C9 l kindW p).2).2 else ([],(C9 l [] (C9 l kindW p).2).2)).2)).2.at'≤l.length:=h
 show T.sizes (H1 l (J2 l (l.length + 1)) (E9 l [58] (if I8 (1 + I7 kindW (C9 l kindW p).1)=true then C9 l [] (C9 l [] (C9 l kindW p).2).2 else ([],(C9 l [] (C9 l kindW p).2).2)).2)).1≤_
 omega
theorem Zk {l : List Tk} {n : Nar} {p : PS} (h : n.Sm (2 * l.length + 2)) (hp : p.at'≤l.length) : (Y9 l n p).1.Sm (2 * l.length + 2):=by
 have hq:=(G9 l K1 p).2 hp
 show (V0 l n (P9 l p) (C9 l K1 p).1 (C9 l K1 p).2).1.Sm _
 unfold V0
 repeat' split
 ·exact ⟨h.steps,h.goals⟩
 ·exact ⟨h.steps,h.goals⟩
 ·exact ⟨h.steps,h.goals⟩
 ·refine ⟨fun s hs=>?_,h.goals⟩
  rcases List.mem_append.1 hs with q | q
  ·exact h.steps s q
  ·simp at q; subst q; exact Rv _ hq
 ·refine ⟨h.steps,fun g hg=>?_⟩
  rcases List.mem_append.1 hg with q | q
  ·exact h.goals g q
  ·simp at q; subst q; exact Tf _ hq
 ·exact h
end Go.Proofs.YteidahabkfgfjaaGreat
namespace Go.Proofs.YteidahabkfgfjaaGreat
open Go Go.Proofs Go.RowKit Go.Shelf
attribute [local go_sem] Oper.semAt_some
def KeepB (n₀ Bo : Nat) (W W' : World) : Prop:=∀ b,b < n₀→b≠Bo→W'.heap[b]? = W.heap[b]?
theorem KeepB.refl (n₀ Bo : Nat) (W : World) : KeepB n₀ Bo W W:=fun _ _ _=>rfl
theorem KeepB.trans {n₀ Bo : Nat} {A B C : World} (h : KeepB n₀ Bo A B) (k : KeepB n₀ Bo B C) : KeepB n₀ Bo A C:=fun b h1 h2=>(k b h1 h2).trans (h b h1 h2)
theorem KeepB.cell {n₀ Bo : Nat} {A B : World} (h : KeepB n₀ Bo A B) {b : Nat} (o : Nat) (h1 : b < n₀) (h2 : b≠Bo) : B.cell? ⟨b,o,none⟩=A.cell? ⟨b,o,none⟩:=by
 unfold World.cell?; dsimp only; rw[h b h1 h2]
theorem KeepB.alloc {n₀ Bo : Nat} (W : World) (ob : Obj) (h : n₀≤W.heap.size) : KeepB n₀ Bo W (W.alloc ob):=fun b h1 _=>Below.heap_alloc W ob b (by omega)
abbrev tStr (l : List UInt8) : Value:=.string ⟨l.toArray⟩
end Go.Proofs.YteidahabkfgfjaaGreat
namespace Go.Proofs.YteidahabkfgfjaaGreat
open Go Go.Abs
theorem map_take {α β : Type} (f : α→β) {l : List α} {d : α} {k : Nat} (h : k < l.length) : (l.take (k + 1)).map f=(l.take k).map f++[f (l.getD k d)]:=by rw[I0 (d:=d) h,List.map_append]; rfl
def Nar.lk (n : Nar) (k : Nat) : List (List UInt8):=[Py n,(Itm.roles n.roles).text]++(frI n.fresh k).map Itm.text
def Nar.rest (n : Nar) (j k : Nat) : List (List UInt8):=n.lk n.fresh.length++((if n.tags=[] then [] else [(Itm.tags n.tags).text])++((n.steps.take j).map (fun s=>(Itm.step s).text)++(n.goals.take k).map fun g=>(Itm.goal g).text))
theorem Qk (t : T) (s : List UInt8) : Ctr sys 163 [xm t,xs s] [] (xb (decide (t.kind=3) && decide (t.name=s))) none []:=by
 refine D1 Tryz.func163 J J J J J J ?_;refine A8 (A6 ?_);refine C3 J (D8 J J J J) ?_;refine A5 J J J (A9 J gU) ?_;refine B0 ?_;refine A8 (A6 ?_);refine A5 J J J (B1 J gU J J) ?_;refine A5 J J J (B2 J gU J J J J) ?_;refine A5 J J J (B7 J J gU gU J) ?_;refine A5 J J J (A7 J gU) ?_;refine A5 J J J (B1 J gU J J) ?_;refine A5 J J J (B2 J (fun hh=>hh) J J J J) ?_;refine A5 J J J (A7 J gU) ?_;refine A5 J J J (G0 J J (fun hh=>hh) (fun hh=>hh) J) ?_;refine A5 J J J (E0 J J gU (fun _ hi=>gP J hi)) ?_;refine A5 J J J (A9 J gU) ?_;refine B0 ?_;refine C1 ?_
 repeat(first|refine tR ?_|refine bR ?_)
 refine C5 J ?_ O;refine M0 ?_
 rw[Bool.eq_iff_iff]; simp
theorem Tp : Ctr sys 154 [] [] (xss K3) none []:=by
 refine D1 Tryz.func154 J J J J J J ?_;refine A8 (A6 ?_);refine A5 J J J (A9 J gU) ?_;refine B0 ?_;refine A8 (A6 ?_);refine E8 (xs:=[_,_,_,_,_,_]) J J J J J J J J J gU J ?_;refine A5 J J J (A9 J gU) ?_;refine B0 ?_;refine C1 ?_
 repeat(first|refine tR ?_|refine bR ?_)
 refine C5 J ?_ O
 rfl
theorem Fy : Ctr sys 152 [] [] (xss J0) none []:=by
 refine D1 Tryz.func152 J J J J J J ?_;refine A8 (A6 ?_);refine A5 J J J (A9 J gU) ?_;refine B0 ?_;refine A8 (A6 ?_);refine E8 (xs:=[_,_,_,_,_]) J J J J J J J J J gU J ?_;refine A5 J J J (A9 J gU) ?_;refine B0 ?_;refine C1 ?_
 repeat(first|refine tR ?_|refine bR ?_)
 refine C5 J ?_ O
 rfl
def ixS (l : List (List UInt8)) (s : List UInt8) : Int:=idxF (fun x=>decide (s=x)) l
theorem V6 (l : List (List UInt8)) (s : List UInt8) : ixS l s < 0 ↔ l.contains s=false:=by
 have h:=(Z0 (fun x=>decide (s=x)) l).trans (R7 s l)
 rw[← h,ixS]; simp
theorem Cd (l : List (List UInt8)) (s : List UInt8) : 0≤ixS l s ↔ l.contains s=true:=by
 have h:=(Z0 (fun x=>decide (s=x)) l).trans (R7 s l)
 rw[← h,ixS]; simp
theorem R4 (l : List (List UInt8)) (s : List UInt8) : Ctr sys 52 [xss l,xs s] [] (xi (ixS l s)) none []:=by
 have hrl:=B3 l
 refine D1 Tryz.func52 J J J J J J ?_;refine A8 (A6 ?_);refine A5 J J J (A9 J gU) ?_;refine B0 ?_;refine A8 ?_;refine A8 (A6 ?_);refine A5 J J J (A9 J gU) ?_;refine B0 ?_;refine C4 ?_;refine F3 (ι:=Nat) { t:=[(0,_,_),(1,_,_)],bx:=[],ow:=[] } (fun k=>[(5,true,xi (k : Int))]) (fun k=>[]) (fun k=>k≤l.length∧(if idxF (fun x=>decide (s=x)) (l.drop k) < 0 then -1 else idxF (fun x=>decide (s=x)) (l.drop k) + k)=idxF (fun x=>decide (s=x)) l) (fun k=>l.length - k) (0) (⟨by simp,(Dh _ _).trans (Fl _ _)⟩) (B4 (⟨U J,U J,U J,O⟩) O O) ?_
 intro k hok
 dsimp only [List.cons_append,List.nil_append]
 obtain ⟨hk,hi⟩:=hok
 refine A8 ?_;refine A8 (A6 ?_);refine A5 J J J (A7 J gU) ?_;refine A5 J J J (A7 J gU) ?_;refine D9 J J J J J gU J J ?_ (fun hh=>by simp at hh); intro hlen;refine A5 J J J (B7 J J gU gU J) ?_;refine B0 ?_;refine B9 J (fun hc=>?_) (fun hc=>?_)
 ·try simp only [nn,B3,D3,nq] at hc
  have hd:=Ev (k:=k) (l:=l) (by omega) hi
  refine C0 ?_;refine A8 ?_;refine C4 ?_;refine A8 (A6 ?_);refine A5 J J J (A7 J gU) ?_;refine A5 J J J (A7 J gU) ?_;refine A5 J J J (C2 J J gU gU J J J (fun hh=>L1 (by first|omega|(simp at hh ⊢; omega)|(simp [isT] at hh ⊢; omega)))) ?_;refine A5 J J J (E3 J gU J J J) ?_;refine A5 J J J (A7 J gU) ?_;refine A5 J J J (G0 J J gU gU J) ?_;refine B0 ?_;refine B5 (s:=⟨[(0,_,_),(1,_,_),(5,_,_),(17,_,_)],[],[],[]⟩) (B4 (⟨U J,U J,U J,U J,O⟩) O O) ?_;refine B9 J (fun hc2=>?_) (fun hc2=>?_)
  ·try simp only [nn,B3,D3,nq] at hc2
   refine A8 (A6 ?_);refine A5 J J J (A7 J gU) ?_;refine A5 J J J (A9 J gU) ?_;refine B0 ?_;refine C1 ?_
   repeat(first|refine tR ?_|refine bR ?_)
   refine C5 J ?_ O;exact H2 (hd.1 (decide_eq_true hc2.symm)).symm
  ·try simp only [nn,B3,D3,nq] at hc2
   refine C0 ?_;refine A6 ?_;refine A5 J J J (A7 J gU) ?_;refine A5 J J J (D0 J J gU gU J (IntWalk.i64_in _ (by omega))) ?_;refine A5 J J J (A9 J gU) ?_;refine B0 ?_;refine ⟨k + 1,?_,?_,B4 (⟨⟨_,rfl,?_⟩,⟨U J,U J,O⟩⟩) O O⟩
   all_goals (first|rfl|omega|exact ⟨by omega,hd.2 (decide_eq_false fun q=>hc2 q.symm)⟩)
 ·try simp only [nn,B3,D3,nq] at hc
  refine E2 ?_
  repeat(first|refine D5 ?_|refine D6 ?_|refine D2 J ?_)
  refine A8 (A6 ?_);refine A5 J J J (A9 J gU) ?_;refine B0 ?_;refine C1 ?_
  repeat(first|refine tR ?_|refine bR ?_)
  refine C5 J ?_ O;exact H2 (Hp (by omega) hi).symm
def srtL (n : Nar) : List Int:=(nmsL n).map (·.2)
abbrev x2l (a : List (List UInt8)) (b : List Int) : X:=.tup [.c (.sl 1 (strR a)), .c (.sl 1 (intR b))]
theorem Eg (n : Nar) : H0 n=n.roles++(n.fresh.map Fs.name++n.tags):=by
 rw[H0,nmsL]
 simp [List.map_append,List.map_map,Function.comp_def]
theorem uAN (n : Nar) : srtL n=n.roles.map (fun _=>(1 : Int))++(n.fresh.map Fs.sort++n.tags.map fun _=>(5 : Int)):=by
 rw[srtL,nmsL]
 simp [List.map_append,List.map_map,Function.comp_def]
theorem Bs (n : Nar) (h1 : n.roles.length≤900000) (h2 : n.fresh.length≤900000) (h3 : n.tags.length≤900000) : Ctr sys 51 [xn n] [] (x2l (H0 n) (srtL n)) none []:=by
 have l1:=B3 n.roles
 have l2:=Fs.rows_len n.fresh
 have l3:=B3 n.tags
 rw[Eg,uAN]
 refine D1 Tryz.func51 J J J J J J ?_;refine A8 (A6 ?_);refine C3 J (D8 J J J J) ?_;refine C3 J (H4 (.inr J) J J) ?_;refine C3 J (H4 (.inr J) J J) ?_;refine B0 ?_;refine A8 (A6 ?_);refine C3 J (H4 (.inr J) J J) ?_;refine B0 ?_;refine A8 (A6 ?_);refine C3 J (H4 (.inr J) J J) ?_;refine B0 ?_;refine B5 (s:=⟨[(1,_,_),(4,_,_),(5,_,_)],[(.l 1,_)],[(.t 4,_),(.t 5,_)],[]⟩) (B4 (⟨U J,U J,U J,O⟩) (⟨U J,O⟩) (⟨rfl,rfl,O⟩)) ?_;refine A8 ?_;refine A8 (A6 ?_);refine A5 J J J (A9 J gU) ?_;refine B0 ?_;refine C4 ?_;refine F3 (ι:=Nat) { t:=[(1,_,_)],bx:=[(.l 1,_)],ow:=[(.t 4,_),(.t 5,_)] } (fun k=>[(6,true,xi (k : Int)),(4,true,xss (n.roles.take k)),(5,true,xis ((n.roles.take k).map fun _=>(1 : Int)))]) (fun k=>[]) (fun k=>k≤n.roles.length) (fun k=>n.roles.length - k) (0) (by simp) (B4 (⟨U J,U J,U J,U J,O⟩) (⟨U J,O⟩) (⟨rfl,rfl,O⟩)) ?_
 intro k hoka
 dsimp only [List.cons_append,List.nil_append]
 refine A8 ?_;refine A8 (A6 ?_);refine A5 J J J (A7 J gU) ?_;refine A5 J J J (B1 J gU J J) ?_;refine A5 J J J (B2 J gU J J J J) ?_;refine D9 J J J J J gU J J ?_ (fun hh=>by simp at hh); intro hlen;refine A5 J J J (B7 J J gU gU J) ?_;refine B0 ?_;refine B5 (s:=⟨[(1,_,_),(4,_,_),(5,_,_),(6,_,_),(13,_,_)],[(.l 1,_)],[(.t 4,_),(.t 5,_)],[]⟩) (B4 (⟨U J,U J,U J,U J,U J,O⟩) (⟨U J,O⟩) (⟨rfl,rfl,O⟩)) ?_;refine B9 J (fun hc=>?_) (fun hc=>?_)
 ·try simp only [nn,B3,D3,nq] at hc
  have hT:=I0 (l:=n.roles) (d:=[]) (k:=k) (by omega)
  refine C0 ?_;refine A8 ?_;refine C4 ?_;refine A6 ?_;refine C3 J (F2 (.inl J) J J J) ?_;refine A5 J J J (B1 J gU J J) ?_;refine A5 J J J (B2 J gU J J J J) ?_;refine A5 J J J (A7 J gU) ?_;refine A5 J J J (C2 J J gU gU J J J (fun hh=>L1 (by first|omega|(simp at hh ⊢; omega)|(simp [isT] at hh ⊢; omega)))) ?_;refine A5 J J J (E3 J gU J J J) ?_;refine E8 (xs:=[_]) J J J J J J J J J gU J ?_;refine C3 J (F7 J J J J J J J (by first|omega|(simp only [List.length_append,List.length_singleton,B3,D3,List.length_map,List.length_take]; omega)) (by first|omega|(simp only [List.length_append,List.length_singleton,B3,D3,List.length_map,List.length_take]; omega))) ?_;refine C3 J (F2 (.inl J) J J J) ?_;refine E8 (xs:=[_]) J J J J J J J J J gU J ?_;refine C3 J (F7 J J J J J J J (by first|omega|(simp only [List.length_append,List.length_singleton,B3,D3,List.length_map,List.length_take]; omega)) (by first|omega|(simp only [List.length_append,List.length_singleton,B3,D3,List.length_map,List.length_take]; omega))) ?_;refine C3 J (F2 (.inr J) J J J) ?_;refine H3 (s:=⟨[(1,_,_),(4,_,_),(6,_,_),(26,_,_)],[(.l 1,_)],[(.t 26,_),(.t 4,_)],[]⟩) (B4 (⟨U J,U J,U J,U J,O⟩) (⟨U J,O⟩) (⟨rfl,rfl,O⟩)) ?_
  refine C3 J (F2 (.inr J) J J J) ?_;refine B0 ?_;refine A6 ?_;refine A5 J J J (A7 J gU) ?_;refine A5 J J J (D0 J J gU gU J (IntWalk.i64_in _ (by omega))) ?_;refine A5 J J J (A9 J gU) ?_;refine B0 ?_;refine ⟨k + 1,?_,?_,B4 (⟨⟨_,rfl,?_⟩,⟨⟨_,rfl,?_⟩,⟨⟨_,rfl,?_⟩,⟨U J,O⟩⟩⟩⟩) (⟨U J,O⟩) (⟨rfl,rfl,O⟩)⟩
  all_goals (first|rfl|omega|exact tx ((Y8 _ _).trans (by rw[hT]))|exact tx ((Z5 _ _).trans (by rw[hT,List.map_append]; rfl)))
 ·try simp only [nn,B3,D3,nq] at hc
  have hk : k=n.roles.length:=by omega
  subst hk
  rw[List.take_length]
  refine E2 ?_
  repeat(first|refine D5 ?_|refine D6 ?_|refine D2 J ?_)
  refine A8 ?_;refine A8 (A6 ?_);refine A5 J J J (A9 J gU) ?_;refine B0 ?_;refine C4 ?_;refine F3 (ι:=Nat) { t:=[(1,_,_)],bx:=[(.l 1,_)],ow:=[(.t 4,_),(.t 5,_)] } (fun j=>[(7,true,xi (j : Int)),(4,true,xss (n.roles++(n.fresh.take j).map Fs.name)),(5,true,xis (n.roles.map (fun _=>(1 : Int))++(n.fresh.take j).map Fs.sort))]) (fun j=>[]) (fun j=>j≤n.fresh.length) (fun j=>n.fresh.length - j) (0) (by simp) (B4 (⟨U J,⟨⟨_,rfl,by simp⟩,⟨⟨_,rfl,by simp⟩,⟨U J,O⟩⟩⟩⟩) (⟨U J,O⟩) (⟨rfl,rfl,O⟩)) ?_
  intro j hokb
  dsimp only [List.cons_append,List.nil_append]
  refine A8 ?_;refine A8 (A6 ?_);refine A5 J J J (A7 J gU) ?_;refine A5 J J J (B1 J gU J J) ?_;refine A5 J J J (B2 J gU J J J J) ?_;refine D9 J J J J J gU J J ?_ (fun hh=>by simp at hh); intro hlen;refine A5 J J J (B7 J J gU gU J) ?_;refine B0 ?_;refine B5 (s:=⟨[(1,_,_),(4,_,_),(5,_,_),(7,_,_),(31,_,_)],[(.l 1,_)],[(.t 4,_),(.t 5,_)],[]⟩) (B4 (⟨U J,U J,U J,U J,U J,O⟩) (⟨U J,O⟩) (⟨rfl,rfl,O⟩)) ?_;refine B9 J (fun hc2=>?_) (fun hc2=>?_)
  ·try simp only [nn,B3,D3,nq] at hc2
   have hT:=I0 (l:=n.fresh) (d:=default) (k:=j) (by omega)
   refine C0 ?_;refine A8 ?_;refine C4 ?_;refine awp_drawn' (by kernel_rfl) ?_;refine Q5 J (.inl J) J J J J J ?_;refine B6 J J J J (B1 J gU J J) ?_;refine G5 J J J J J J J gU J J J J ?_;refine B6 J J J J (A7 J gU) ?_;refine B6 J J J J (C2 J J gU gU J J J (fun hh=>Fs.rows_at (by first|omega|(simp at hh ⊢; omega)|(simp [isT] at hh ⊢; omega)))) ?_;refine B6 J J J J (F1 J gU J J) ?_;refine B6 J J J J (E3 J gU J J J) ?_;refine U4 (xs:=[_]) J J J J J J J J J J gU J ?_;refine W1 J J J J J (rko (ak2 J (ak J (ak J (ak J (ak J (ak J (ak J (rfl))))))))) J J J J J (by first|omega|(simp only [List.length_append,List.length_singleton,B3,D3,List.length_map,List.length_take]; omega)) (by first|omega|(simp only [List.length_append,List.length_singleton,B3,D3,List.length_map,List.length_take]; omega)) ?_;refine Q5 J (.inl J) J J J J J ?_;refine B6 J J J J (B1 J gU J J) ?_;refine G5 J J J J J J J gU J J J J ?_;refine B6 J J J J (A7 J gU) ?_;refine B6 J J J J (C2 J J gU gU J J J (fun hh=>Fs.rows_at (by first|omega|(simp at hh ⊢; omega)|(simp [isT] at hh ⊢; omega)))) ?_
   refine B6 J J J J (F1 J gU J J) ?_;refine B6 J J J J (E3 J gU J J J) ?_;refine U4 (xs:=[_]) J J J J J J J J J J gU J ?_;refine W1 J J J J J (rko (ak2 J (ak J (ak J (ak J (ak J (ak J (ak J (rfl))))))))) J J J J J (by first|omega|(simp only [List.length_append,List.length_singleton,B3,D3,List.length_map,List.length_take]; omega)) (by first|omega|(simp only [List.length_append,List.length_singleton,B3,D3,List.length_map,List.length_take]; omega)) ?_;refine Q5 J (.inr J) J J J J J ?_;refine Q5 J (.inr J) J J J J J ?_;refine F9 (by kernel_rfl) ?_;refine B5 (s:=⟨[(1,_,_),(4,_,_),(5,_,_),(7,_,_)],[(.l 1,_)],[(.t 4,_),(.t 5,_)],[]⟩) (B4 (⟨U J,U J,U J,U J,O⟩) (⟨U J,O⟩) (⟨rfl,rfl,O⟩)) ?_;refine A6 ?_;refine A5 J J J (A7 J gU) ?_;refine A5 J J J (D0 J J gU gU J (IntWalk.i64_in _ (by omega))) ?_;refine A5 J J J (A9 J gU) ?_;refine B0 ?_;refine ⟨j + 1,?_,?_,B4 (⟨⟨_,rfl,?_⟩,⟨⟨_,rfl,?_⟩,⟨⟨_,rfl,?_⟩,⟨U J,O⟩⟩⟩⟩) (⟨U J,O⟩) (⟨rfl,rfl,O⟩)⟩
   all_goals (first|rfl|omega|exact tx ((Y8 _ _).trans (by rw[hT,List.map_append,List.append_assoc]; rfl))|exact tx ((Z5 _ _).trans (by rw[hT,List.map_append,List.append_assoc]; rfl)))
  ·try simp only [nn,B3,D3,nq] at hc2
   have hj : j=n.fresh.length:=by omega
   subst hj
   rw[List.take_length]
   refine E2 ?_
   repeat(first|refine D5 ?_|refine D6 ?_|refine D2 J ?_)
   refine A8 ?_;refine A8 (A6 ?_);refine A5 J J J (A9 J gU) ?_;refine B0 ?_;refine C4 ?_;refine F3 (ι:=Nat) { t:=[(1,_,_)],bx:=[(.l 1,_)],ow:=[(.t 4,_),(.t 5,_)] } (fun i=>[(8,true,xi (i : Int)),(4,true,xss (n.roles++(n.fresh.map Fs.name++n.tags.take i))),(5,true,xis (n.roles.map (fun _=>(1 : Int))++(n.fresh.map Fs.sort++(n.tags.take i).map fun _=>(5 : Int))))]) (fun i=>[]) (fun i=>i≤n.tags.length) (fun i=>n.tags.length - i) (0) (by simp) (B4 (⟨U J,⟨⟨_,rfl,by simp⟩,⟨⟨_,rfl,by simp⟩,⟨U J,O⟩⟩⟩⟩) (⟨U J,O⟩) (⟨rfl,rfl,O⟩)) ?_
   intro i hokc
   dsimp only [List.cons_append,List.nil_append]
   refine A8 ?_;refine A8 (A6 ?_);refine A5 J J J (A7 J gU) ?_;refine A5 J J J (B1 J gU J J) ?_;refine A5 J J J (B2 J gU J J J J) ?_;refine D9 J J J J J gU J J ?_ (fun hh=>by simp at hh); intro hlen;refine A5 J J J (B7 J J gU gU J) ?_;refine B0 ?_;refine B5 (s:=⟨[(1,_,_),(4,_,_),(5,_,_),(8,_,_),(56,_,_)],[(.l 1,_)],[(.t 4,_),(.t 5,_)],[]⟩) (B4 (⟨U J,U J,U J,U J,U J,O⟩) (⟨U J,O⟩) (⟨rfl,rfl,O⟩)) ?_;refine B9 J (fun hc3=>?_) (fun hc3=>?_)
   ·try simp only [nn,B3,D3,nq] at hc3
    have hT:=I0 (l:=n.tags) (d:=[]) (k:=i) (by omega)
    refine C0 ?_;refine A8 ?_;refine C4 ?_;refine A6 ?_;refine C3 J (F2 (.inl J) J J J) ?_;refine A5 J J J (B1 J gU J J) ?_;refine A5 J J J (B2 J gU J J J J) ?_;refine A5 J J J (A7 J gU) ?_;refine A5 J J J (C2 J J gU gU J J J (fun hh=>L1 (by first|omega|(simp at hh ⊢; omega)|(simp [isT] at hh ⊢; omega)))) ?_;refine A5 J J J (E3 J gU J J J) ?_;refine E8 (xs:=[_]) J J J J J J J J J gU J ?_;refine C3 J (F7 J J J J J J J (by first|omega|(simp only [List.length_append,List.length_singleton,B3,D3,List.length_map,List.length_take]; omega)) (by first|omega|(simp only [List.length_append,List.length_singleton,B3,D3,List.length_map,List.length_take]; omega))) ?_;refine C3 J (F2 (.inl J) J J J) ?_;refine E8 (xs:=[_]) J J J J J J J J J gU J ?_;refine C3 J (F7 J J J J J J J (by first|omega|(simp only [List.length_append,List.length_singleton,B3,D3,List.length_map,List.length_take]; omega)) (by first|omega|(simp only [List.length_append,List.length_singleton,B3,D3,List.length_map,List.length_take]; omega))) ?_;refine C3 J (F2 (.inr J) J J J) ?_;refine H3 (s:=⟨[(1,_,_),(4,_,_),(8,_,_),(69,_,_)],[(.l 1,_)],[(.t 4,_),(.t 69,_)],[]⟩) (B4 (⟨U J,U J,U J,U J,O⟩) (⟨U J,O⟩) (⟨rfl,rfl,O⟩)) ?_
    refine C3 J (F2 (.inr J) J J J) ?_;refine B0 ?_;refine A6 ?_;refine A5 J J J (A7 J gU) ?_;refine A5 J J J (D0 J J gU gU J (IntWalk.i64_in _ (by omega))) ?_;refine A5 J J J (A9 J gU) ?_;refine B0 ?_;refine ⟨i + 1,?_,?_,B4 (⟨⟨_,rfl,?_⟩,⟨⟨_,rfl,?_⟩,⟨⟨_,rfl,?_⟩,⟨U J,O⟩⟩⟩⟩) (⟨U J,O⟩) (⟨rfl,rfl,O⟩)⟩
    all_goals (first|rfl|omega|exact tx ((Y8 _ _).trans (by rw[hT,List.append_assoc,List.append_assoc]))|exact tx ((Z5 _ _).trans (by rw[hT,List.map_append,List.append_assoc,List.append_assoc]; rfl)))
   ·try simp only [nn,B3,D3,nq] at hc3
    have hi : i=n.tags.length:=by omega
    subst hi
    rw[List.take_length]
    refine E2 ?_
    repeat(first|refine D5 ?_|refine D6 ?_|refine D2 J ?_)
    refine A8 (A6 ?_);refine C3 J (F2 (.inl J) J J J) ?_;refine C3 J (F2 (.inl J) J J J) ?_;refine C3 J (F2 (.inr J) J J J) ?_;refine C3 J (F2 (.inr J) J J J) ?_;refine B0 ?_;refine C1 ?_
    repeat(first|refine tR ?_|refine bR ?_)
    refine C5 J ?_ O
    rfl
theorem Da (n : Nar) (t : T) : Ctr sys 147 [xn n,xm t] [] (xb (Bk n.roles t)) none []:=by
 refine D1 Tryz.func147 J J J J J J ?_;refine A8 (A6 ?_);refine C3 J (D8 J J J J) ?_;refine C3 J (D8 J J J J) ?_;refine A5 J J J (A9 J gU) ?_;refine B0 ?_;refine A8 (A6 ?_);refine A5 J J J (B1 J gU J J) ?_;refine A5 J J J (B2 J gU J J J J) ?_;refine A5 J J J (B7 J J gU gU J) ?_;refine A5 J J J (A7 J gU) ?_;refine A5 J J J (B1 J gU J J) ?_;refine A5 J J J (B2 J (fun hh=>hh) J J J J) ?_;refine A5 J J J (B1 J gU J J) ?_;refine A5 J J J (B2 J (fun hh=>hh) J J J J) ?_;refine C8 J J J J J J gU (fun hh=>gA ((fun hh=>hh) hh) (gA ((fun hh=>hh) hh) (rfl))) (R4 _ _) J ?_;refine H3 (s:=⟨[(8,_,_),(13,_,_)],[],[],[]⟩) (B4 (⟨U J,U J,O⟩) O O) ?_;refine A5 J J J (B7 J J (fun hh=>hh) gU J) ?_;refine A5 J J J (E0 J J gU (fun _ hi=>gP J hi)) ?_;refine A5 J J J (A9 J gU) ?_;refine B0 ?_;refine C1 ?_
 repeat(first|refine tR ?_|refine bR ?_)
 refine C5 J ?_ O;refine M0 ?_
 rw[Bk,← (Z0 _ n.roles).trans (R7 t.name n.roles)]
 rw[Bool.eq_iff_iff]
 simp [ixS]
 intro _; exact decide_eq_true_iff
theorem It (n : Nar) (t : T) : Ctr sys 146 [xn n,xm t] [] (xb (Aa n.roles t)) none []:=by
 have hr:=T.rows_len t.kids
 refine D1 Tryz.func146 J J J J J J ?_;refine A8 (A6 ?_);refine C3 J (D8 J J J J) ?_;refine C3 J (D8 J J J J) ?_;refine A5 J J J (A9 J gU) ?_;refine B0 ?_;refine A8 ?_;refine awp_drawn' (by kernel_rfl) ?_;refine D7 J J J J J J J gU J J J J J ?_;refine E7 J J J J J J J gU gU (Qk _ _) J ?_;refine B6 J J J J (A7 J gU) ?_;refine B6 J J J J (B1 J gU J J) ?_;refine G5 J J J J J J J (fun hh=>hh) J J J J ?_;refine B6 J J J J (G7 J (fun hh=>hh) J J) ?_;refine B6 J J J J (B7 J J (fun hh=>hh) gU J) ?_;refine B6 J J J J (E0 J J gU (fun _ hi=>gP J hi)) ?_;refine B6 J J J J (A7 J gU) ?_;refine D7 J J J J J J J gU J J J J J ?_;refine B6 J J J J (B1 J gU J J) ?_;refine G5 J J J J J J J (fun hh=>hh) J J J J ?_;refine B6 J J J J (C2 (j:=0) J J (fun hh=>hh) gU J J (by first|omega|(simp at hh ⊢; omega)|(simp [isT] at hh ⊢; omega)) (fun hh=>T.rows_at (by first|omega|(simp at hh ⊢; omega)|(simp [isT] at hh ⊢; omega)))) ?_;refine B6 J J J J (D4 J (fun hh=>hh) J J J J) ?_;refine E7 J J J J J J J gU (fun hh=>gA ((fun hh=>hh) hh) (gA ((fun hh=>hh) hh) (rfl))) (Da _ _) J ?_
 refine B6 J J J J (E0 J J gU (fun _ hi=>gP J hi)) ?_;refine B6 J J J J (A9 J gU) ?_;refine F9 (by kernel_rfl) ?_;refine C1 ?_
 repeat(first|refine tR ?_|refine bR ?_)
 refine C5 J ?_ O;refine M0 ?_
 rw[Aa,isT,kid,Bool.eq_iff_iff]
 simp [and_assoc]
 intro _; rw[hr]; exact Iff.rfl
theorem Kb (n : Nar) (t : T) : Ctr sys 145 [xn n,xm t] [] (xb (pubT n.roles t)) none []:=by
 have hr:=T.rows_len t.kids
 refine D1 Tryz.func145 J J J J J J ?_;refine A8 (A6 ?_);refine C3 J (D8 J J J J) ?_;refine C3 J (D8 J J J J) ?_;refine A5 J J J (A9 J gU) ?_;refine B0 ?_;refine A8 ?_;refine awp_drawn' (by kernel_rfl) ?_;refine D7 J J J J J J J gU J J J J J ?_;refine E7 J J J J J J J gU gU (Qk _ _) J ?_;refine B6 J J J J (A7 J gU) ?_;refine B6 J J J J (B1 J gU J J) ?_;refine G5 J J J J J J J (fun hh=>hh) J J J J ?_;refine B6 J J J J (G7 J (fun hh=>hh) J J) ?_;refine B6 J J J J (B7 J J (fun hh=>hh) gU J) ?_;refine B6 J J J J (E0 J J gU (fun _ hi=>gP J hi)) ?_;refine B6 J J J J (A7 J gU) ?_;refine D7 J J J J J J J gU J J J J J ?_;refine B6 J J J J (B1 J gU J J) ?_;refine G5 J J J J J J J (fun hh=>hh) J J J J ?_;refine B6 J J J J (C2 (j:=0) J J (fun hh=>hh) gU J J (by first|omega|(simp at hh ⊢; omega)|(simp [isT] at hh ⊢; omega)) (fun hh=>T.rows_at (by first|omega|(simp at hh ⊢; omega)|(simp [isT] at hh ⊢; omega)))) ?_;refine B6 J J J J (D4 J (fun hh=>hh) J J J J) ?_;refine E7 J J J J J J J gU (fun hh=>gA ((fun hh=>hh) hh) (gA ((fun hh=>hh) hh) (rfl))) (It _ _) J ?_
 refine B6 J J J J (E0 J J gU (fun _ hi=>gP J hi)) ?_;refine B6 J J J J (A9 J gU) ?_;refine F9 (by kernel_rfl) ?_;refine C1 ?_
 repeat(first|refine tR ?_|refine bR ?_)
 refine C5 J ?_ O;refine M0 ?_
 rw[pubT,isT,kid,Bool.eq_iff_iff]
 simp [and_assoc]
 intro _; rw[hr]; exact Iff.rfl
def lkI (R : List (List UInt8)) (t : T) : Int:=match J1 R t with
 | none=>-1
 | some k=>(k : Int)
theorem Q4 {t : T} (h3 : t.kind=3) (w : List UInt8) (k : Int) : isT t w k=true ↔ t.name=w∧(t.kids.length : Int)=k:=by simp [isT,h3]
theorem shkT_iff {R : List (List UInt8)} {t : T} : shkT R t=true ↔ ((isT t wShk 2=true∧Bk R (kid t 0)=true)∧Bk R (kid t 1)=true) ∧ ¬ (kid t 0).name=(kid t 1).name:=by simp [shkT]
theorem Te (n : Nar) (t : T) (h3 : t.kind=3) : Ctr sys 120 [xn n,xm t] [] (xi (lkI n.roles t)) none []:=by
 have hr:=T.rows_len t.kids
 refine D1 Tryz.func120 J J J J J J ?_;refine A8 (A6 ?_);refine C3 J (D8 J J J J) ?_;refine C3 J (D8 J J J J) ?_;refine A5 J J J (A9 J gU) ?_;refine B0 ?_;refine A8 (A6 ?_);refine A5 J J J (B1 J gU J J) ?_;refine A5 J J J (B2 J gU J J J J) ?_;refine D9 J J J J J gU J J ?_ (fun hh=>by simp at hh); intro hlen;refine A5 J J J (A9 J gU) ?_;refine B0 ?_;refine B5 (s:=⟨[(2,_,_),(3,_,_),(5,_,_)],[(.l 2,_),(.l 3,_)],[],[]⟩) (B4 (⟨U J,U J,U J,O⟩) (⟨U J,U J,O⟩) O) ?_;refine A8 ?_;refine C4 ?_;refine A8 (A6 ?_);refine A5 J J J (B1 J gU J J) ?_;refine A5 J J J (B2 J gU J J J J) ?_;refine A5 J J J (G0 J J gU gU J) ?_;refine A5 J J J (A7 J gU) ?_;refine A5 J J J (A7 J gU) ?_;refine A5 J J J (B7 J J (fun hh=>hh) gU J) ?_;refine A5 J J J (E0 J J gU (fun _ hi=>gP J hi)) ?_;refine A5 J J J (A7 J gU) ?_;refine A5 J J J (B1 J gU J J) ?_;refine A5 J J J (B2 J (fun hh=>hh) J J J J) ?_;refine A5 J J J (G0 J J (fun hh=>hh) gU J) ?_
 refine A5 J J J (A7 J (fun hh=>hh)) ?_;refine H3 (s:=⟨[(2,_,_),(3,_,_),(5,_,_),(17,_,_),(21,_,_)],[(.l 2,_),(.l 3,_)],[],[]⟩) (B4 (⟨U J,U J,U J,U J,U J,O⟩) (⟨U J,U J,O⟩) O) ?_;refine A5 J J J (A7 J gU) ?_;refine A5 J J J (B7 J J (fun hh=>hh) gU J) ?_;refine A5 J J J (E0 J J (fun hh=>hh) (fun hh hi=>gP hh hi)) ?_;refine A5 J J J (E5 J J gU (fun _ hi=>gP J hi)) ?_;refine A5 J J J (A9 J gU) ?_;refine B0 ?_;refine B5 (s:=⟨[(2,_,_),(3,_,_),(5,_,_),(9,_,_)],[(.l 2,_),(.l 3,_)],[],[]⟩) (B4 (⟨U J,U J,U J,U J,O⟩) (⟨U J,U J,O⟩) O) ?_;refine B9 J (fun hc=>?_) (fun hc=>?_)
 ·try simp only [nn,B3,D3,nq] at hc
  have h1 : isT t Fx 2=true∨isT t wEnc 2=true:=by rw[Q4 h3,Q4 h3]; first|exact hc|(rw[hr] at hc; exact hc)|omega
  have hk : J1 n.roles t=some 2:=by rw[J1,if_pos h1]
  refine A8 (A6 ?_);refine A5 J J J (A9 J gU) ?_;refine B0 ?_;refine C1 ?_
  repeat(first|refine tR ?_|refine bR ?_)
  refine C5 J ?_ O
  (rw[lkI,hk]; rfl)
 ·try simp only [nn,B3,D3,nq] at hc
  have h1 : ¬(isT t Fx 2=true∨isT t wEnc 2=true):=by rw[Q4 h3,Q4 h3]; exact fun q=>q.elim (fun q=>hc.1.elim (fun z=>z q.1) fun z=>z q.2) (fun q=>hc.2.elim (fun z=>z q.1) fun z=>z q.2)
  refine A8 (A6 ?_);refine A5 J J J (B1 J gU J J) ?_;refine A5 J J J (B2 J gU J J J J) ?_;refine A5 J J J (G0 J J gU gU J) ?_;refine A5 J J J (A7 J gU) ?_;refine A5 J J J (A7 J gU) ?_;refine A5 J J J (B7 J J (fun hh=>hh) gU J) ?_;refine A5 J J J (E0 J J gU (fun _ hi=>gP J hi)) ?_;refine A5 J J J (A9 J gU) ?_;refine B0 ?_;refine B5 (s:=⟨[(2,_,_),(3,_,_),(5,_,_),(26,_,_)],[(.l 2,_),(.l 3,_)],[],[]⟩) (B4 (⟨U J,U J,U J,U J,O⟩) (⟨U J,U J,O⟩) O) ?_;refine B9 J (fun hc2=>?_) (fun hc2=>?_)
  ·try simp only [nn,B3,D3,nq] at hc2
   have h2 : isT t Ob 1=true:=by rw[Q4 h3]; first|exact hc2|(rw[hr] at hc2; exact hc2)|omega
   have hk : J1 n.roles t=some 1:=by rw[J1,if_neg h1,if_pos h2]
   refine A8 (A6 ?_);refine A5 J J J (A9 J gU) ?_;refine B0 ?_;refine C1 ?_
   repeat(first|refine tR ?_|refine bR ?_)
   refine C5 J ?_ O
   (rw[lkI,hk]; rfl)
  ·try simp only [nn,B3,D3,nq] at hc2
   have h2 : ¬ isT t Ob 1=true:=by rw[Q4 h3]; exact fun q=>hc2.elim (fun z=>z q.1) fun z=>z q.2
   refine A8 ?_;refine awp_drawn' (by kernel_rfl) ?_;refine B6 J J J J (B1 J gU J J) ?_;refine G5 J J J J J J J gU J J J J ?_;refine B6 J J J J (G0 J J gU gU J) ?_;refine B6 J J J J (A7 J gU) ?_;refine B6 J J J J (A7 J gU) ?_;refine B6 J J J J (B7 J J (fun hh=>hh) gU J) ?_;refine B6 J J J J (E0 J J gU (fun _ hi=>gP J hi)) ?_;refine B6 J J J J (A7 J gU) ?_;refine D7 J J J J J J J gU J J J J J ?_;refine B6 J J J J (B1 J gU J J) ?_;refine G5 J J J J J J J (fun hh=>hh) J J J J ?_;refine B6 J J J J (C2 (j:=1) J J (fun hh=>hh) gU J J (by first|omega|(simp at hh ⊢; omega)|(simp [isT] at hh ⊢; omega)) (fun hh=>T.rows_at (by first|omega|(simp at hh ⊢; omega)|(simp [isT] at hh ⊢; omega)))) ?_;refine B6 J J J J (D4 J (fun hh=>hh) J J J J) ?_;refine E7 J J J J J J J gU (fun hh=>gA ((fun hh=>hh) hh) (gA ((fun hh=>hh) hh) (rfl))) (Kb _ _) J ?_;refine B6 J J J J (E0 J J gU (fun _ hi=>gP J hi)) ?_;refine B6 J J J J (A9 J gU) ?_;refine F9 (by kernel_rfl) ?_;refine B5 (s:=⟨[(2,_,_),(3,_,_),(5,_,_),(34,_,_)],[(.l 2,_),(.l 3,_)],[],[]⟩) (B4 (⟨U J,U J,U J,U J,O⟩) (⟨U J,U J,O⟩) O) ?_
   refine B9 J (fun hc3=>?_) (fun hc3=>?_)
   ·try simp only [nn,B3,D3,nq] at hc3
    have a1 : isT t Ic 2=true∧pubT n.roles (kid t 1)=true:=by rw[Q4 h3]; first|exact hc3|(rw[hr] at hc3; exact hc3)|omega
    have hk : J1 n.roles t=some 1:=by rw[J1,if_neg h1,if_neg h2,if_pos (.inl a1)]
    refine A8 (A6 ?_);refine A5 J J J (A9 J gU) ?_;refine B0 ?_;refine C1 ?_
    repeat(first|refine tR ?_|refine bR ?_)
    refine C5 J ?_ O
    (rw[lkI,hk]; rfl)
   ·try simp only [nn,B3,D3,nq] at hc3
    have a1 : ¬(isT t Ic 2=true∧pubT n.roles (kid t 1)=true):=by rw[Q4 h3]; exact fun q=>hc3.elim (fun z=>z.elim (fun z=>z q.1.1) fun z=>z q.1.2) fun z=>Bool.noConfusion (q.2.symm.trans z)
    refine A8 ?_;refine awp_drawn' (by kernel_rfl) ?_;refine B6 J J J J (B1 J gU J J) ?_;refine G5 J J J J J J J gU J J J J ?_;refine B6 J J J J (G0 J J gU gU J) ?_;refine B6 J J J J (A7 J gU) ?_;refine B6 J J J J (A7 J gU) ?_;refine B6 J J J J (B7 J J (fun hh=>hh) gU J) ?_;refine B6 J J J J (E0 J J gU (fun _ hi=>gP J hi)) ?_;refine B6 J J J J (A7 J gU) ?_;refine D7 J J J J J J J gU J J J J J ?_;refine B6 J J J J (B1 J gU J J) ?_;refine G5 J J J J J J J (fun hh=>hh) J J J J ?_;refine B6 J J J J (C2 (j:=1) J J (fun hh=>hh) gU J J (by first|omega|(simp at hh ⊢; omega)|(simp [isT] at hh ⊢; omega)) (fun hh=>T.rows_at (by first|omega|(simp at hh ⊢; omega)|(simp [isT] at hh ⊢; omega)))) ?_;refine B6 J J J J (D4 J (fun hh=>hh) J J J J) ?_;refine E7 J J J J J J J gU (fun hh=>gA ((fun hh=>hh) hh) (gA ((fun hh=>hh) hh) (rfl))) (It _ _) J ?_;refine B6 J J J J (E0 J J gU (fun _ hi=>gP J hi)) ?_;refine B6 J J J J (A9 J gU) ?_;refine F9 (by kernel_rfl) ?_;refine B5 (s:=⟨[(2,_,_),(3,_,_),(5,_,_),(50,_,_)],[(.l 2,_),(.l 3,_)],[],[]⟩) (B4 (⟨U J,U J,U J,U J,O⟩) (⟨U J,U J,O⟩) O) ?_
    refine B9 J (fun hc4=>?_) (fun hc4=>?_)
    ·try simp only [nn,B3,D3,nq] at hc4
     have a2 : isT t Hc 2=true∧Aa n.roles (kid t 1)=true:=by rw[Q4 h3]; first|exact hc4|(rw[hr] at hc4; exact hc4)|omega
     have hk : J1 n.roles t=some 1:=by rw[J1,if_neg h1,if_neg h2,if_pos (.inr a2)]
     refine A8 (A6 ?_);refine A5 J J J (A9 J gU) ?_;refine B0 ?_;refine C1 ?_
     repeat(first|refine tR ?_|refine bR ?_)
     refine C5 J ?_ O
     (rw[lkI,hk]; rfl)
    ·try simp only [nn,B3,D3,nq] at hc4
     have a2 : ¬(isT t Hc 2=true∧Aa n.roles (kid t 1)=true):=by rw[Q4 h3]; exact fun q=>hc4.elim (fun z=>z.elim (fun z=>z q.1.1) fun z=>z q.1.2) fun z=>Bool.noConfusion (q.2.symm.trans z)
     have a3 : ¬((isT t Ic 2=true∧pubT n.roles (kid t 1)=true)∨(isT t Hc 2=true∧Aa n.roles (kid t 1)=true)):=fun q=>q.elim a1 a2
     refine A8 (A6 ?_);refine A5 J J J (B8 J gU J J J J J) ?_;refine A5 J J J (B8 J gU J J J J J) ?_;refine C8 J J J J J J gU gU (Kb _ _) J ?_;refine A5 J J J (A9 J gU) ?_;refine B0 ?_;refine B9 J (fun hc5=>?_) (fun hc5=>?_)
     ·try simp only [nn,B3,D3,nq] at hc5
      have hk : J1 n.roles t=some 0:=by rw[J1,if_neg h1,if_neg h2,if_neg a3,if_pos (.inl hc5)]
      refine A8 (A6 ?_);refine A5 J J J (A9 J gU) ?_;refine B0 ?_;refine C1 ?_
      repeat(first|refine tR ?_|refine bR ?_)
      refine C5 J ?_ O
      (rw[lkI,hk]; rfl)
     ·try simp only [nn,B3,D3,nq] at hc5
      have a4 : ¬ pubT n.roles t=true:=by rw[Bool.not_eq_true]; exact hc5
      refine A8 ?_;refine awp_drawn' (by kernel_rfl) ?_;refine B6 J J J J (B1 J gU J J) ?_;refine G5 J J J J J J J gU J J J J ?_;refine B6 J J J J (G0 J J gU gU J) ?_;refine B6 J J J J (A7 J gU) ?_;refine B6 J J J J (A7 J gU) ?_;refine B6 J J J J (B7 J J (fun hh=>hh) gU J) ?_;refine B6 J J J J (E0 J J gU (fun _ hi=>gP J hi)) ?_;refine B6 J J J J (A7 J gU) ?_;refine D7 J J J J J J J gU J J J J J ?_;refine B6 J J J J (B1 J gU J J) ?_;refine G5 J J J J J J J (fun hh=>hh) J J J J ?_;refine B6 J J J J (C2 (j:=0) J J (fun hh=>hh) gU J J (by first|omega|(simp at hh ⊢; omega)|(simp [isT] at hh ⊢; omega)) (fun hh=>T.rows_at (by first|omega|(simp at hh ⊢; omega)|(simp [isT] at hh ⊢; omega)))) ?_;refine B6 J J J J (D4 J (fun hh=>hh) J J J J) ?_;refine E7 J J J J J J J gU (fun hh=>gA ((fun hh=>hh) hh) (gA ((fun hh=>hh) hh) (rfl))) (Da _ _) J ?_;refine B6 J J J J (E0 J J gU (fun _ hi=>gP J hi)) ?_;refine B6 J J J J (A7 J gU) ?_;refine D7 J J J J J J J gU J J J J J ?_;refine B6 J J J J (B1 J gU J J) ?_
      refine G5 J J J J J J J (fun hh=>hh) J J J J ?_;refine B6 J J J J (C2 (j:=1) J J (fun hh=>hh) gU J J (by first|omega|(simp at hh ⊢; omega)|(simp [isT] at hh ⊢; omega)) (fun hh=>T.rows_at (by first|omega|(simp at hh ⊢; omega)|(simp [isT] at hh ⊢; omega)))) ?_;refine B6 J J J J (D4 J (fun hh=>hh) J J J J) ?_;refine E7 J J J J J J J gU (fun hh=>gA ((fun hh=>hh) hh) (gA ((fun hh=>hh) hh) (rfl))) (Da _ _) J ?_;refine B6 J J J J (E0 J J gU (fun _ hi=>gP J hi)) ?_;refine B6 J J J J (A7 J gU) ?_;refine B6 J J J J (B1 J gU J J) ?_;refine G5 J J J J J J J (fun hh=>hh) J J J J ?_;refine B6 J J J J (C2 (j:=0) J J (fun hh=>hh) gU J J (by first|omega|(simp at hh ⊢; omega)|(simp [isT] at hh ⊢; omega)) (fun hh=>T.rows_at (by first|omega|(simp at hh ⊢; omega)|(simp [isT] at hh ⊢; omega)))) ?_;refine B6 J J J J (F1 J (fun hh=>hh) J J) ?_;refine B6 J J J J (E3 J (fun hh=>hh) J J J) ?_;refine B6 J J J J (B1 J gU J J) ?_;refine G5 J J J J J J J (fun hh=>hh) J J J J ?_;refine B6 J J J J (C2 (j:=1) J J (fun hh=>hh) gU J J (by first|omega|(simp at hh ⊢; omega)|(simp [isT] at hh ⊢; omega)) (fun hh=>T.rows_at (by first|omega|(simp at hh ⊢; omega)|(simp [isT] at hh ⊢; omega)))) ?_
      refine B6 J J J J (F1 J (fun hh=>hh) J J) ?_;refine B6 J J J J (E3 J (fun hh=>hh) J J J) ?_;refine B6 J J J J (G0 J J (fun hh=>hh) (fun hh=>hh) J) ?_;refine B6 J J J J (E0 J J gU (fun _ hi=>gP J hi)) ?_;refine B6 J J J J (A9 J gU) ?_;refine F9 (by kernel_rfl) ?_;refine B5 (s:=⟨[(70,_,_)],[],[],[]⟩) (B4 (⟨U J,O⟩) O O) ?_;refine B9 J (fun hc6=>?_) (fun hc6=>?_)
      ·try simp only [nn,B3,D3,nq] at hc6
       have a5 : shkT n.roles t=true:=by rw[shkT_iff,Q4 h3]; exact ⟨⟨⟨hc6.1.1.1,hc6.1.1.2⟩,hc6.1.2⟩,hc6.2⟩
       have hk : J1 n.roles t=some 0:=by rw[J1,if_neg h1,if_neg h2,if_neg a3,if_pos (.inr a5)]
       refine A8 (A6 ?_);refine A5 J J J (A9 J gU) ?_;refine B0 ?_;refine C1 ?_
       repeat(first|refine tR ?_|refine bR ?_)
       refine C5 J ?_ O
       (rw[lkI,hk]; rfl)
      ·try simp only [nn,B3,D3,nq] at hc6
       have a5 : ¬ shkT n.roles t=true:=by rw[shkT_iff,Q4 h3]; exact fun q=>hc6.elim (fun z=>z.elim (fun z=>z.elim (fun z=>z.elim (fun z=>z q.1.1.1.1) fun z=>z q.1.1.1.2) fun z=>Bool.noConfusion (q.1.1.2.symm.trans z)) fun z=>Bool.noConfusion (q.1.2.symm.trans z)) fun z=>q.2 z
       have hk : J1 n.roles t=none:=by rw[J1,if_neg h1,if_neg h2,if_neg a3,if_neg (fun q=>q.elim a4 a5)]
       refine C0 ?_;refine A8 (A6 ?_);refine A5 J J J (A9 J gU) ?_;refine B0 ?_;refine C1 ?_
       repeat(first|refine tR ?_|refine bR ?_)
       refine C5 J ?_ O
       (rw[lkI,hk]; rfl)
theorem uAO {R : List (List UInt8)} {t : T} {k : Nat} (h : J1 R t=some k) : k≤t.kids.length:=by
 unfold J1 at h
 split at h
 ·rename_i q
  have : 2=k:=Option.some.inj h
  simp [isT] at q; omega
 split at h
 ·rename_i q
  have : 1=k:=Option.some.inj h
  simp [isT] at q; omega
 split at h
 ·rename_i q
  have : 1=k:=Option.some.inj h
  simp [isT] at q; omega
 split at h
 ·have : 0=k:=Option.some.inj h
  omega
 ·cases h
theorem uAY {R : List (List UInt8)} {t : T} (h : lkI R t < 0) : J1 R t=none:=by
 unfold lkI at h
 split at h
 ·assumption
 ·omega
theorem uBs {R : List (List UInt8)} {t : T} (h : ¬ lkI R t < 0) : ∃ k,J1 R t=some k∧lkI R t=(k : Int):=by
 unfold lkI at h ⊢
 split at h
 ·omega
 ·rename_i k hk; exact ⟨k,hk,rfl⟩
theorem Oy {α : Type} {l : List α} {d : α} {k j : Nat} (h : j < k) : (l.take k).getD j d=l.getD j d:=by
 simp only [List.getD_eq_getElem?_getD,List.getElem?_take_of_lt h]
theorem An (n : Nar) (h1 : n.roles.length≤900000) (h2 : n.fresh.length≤900000) (h4 : n.tags.length≤900000) : ∀ (m : Nat) (t : T),t.size≤m→m≤900000→Ctr sys 87 [xn n,xm t] [] (xi (O1 n.roles (H0 n) t)) none []:=by
 intro m
 induction m with
 | zero=>intro t h; have := t.size_pos; omega
 | succ m ih =>
  intro t ht hm
  have hr:=T.rows_len t.kids
  have hls:=T.len_sizes t.kids
  have hse:=t.size_eq
  refine D1 Tryz.func87 J J J J J J ?_;refine A8 (A6 ?_);refine C3 J (D8 J J J J) ?_;refine C3 J (D8 J J J J) ?_;refine A5 J J J (A9 J gU) ?_;refine B0 ?_;refine A8 ?_;refine A8 (A6 ?_);refine A5 J J J (B1 J gU J J) ?_;refine A5 J J J (B2 J gU J J J J) ?_;refine A5 J J J (B7 J J gU gU J) ?_;refine B0 ?_;refine B5 (s:=⟨[(2,_,_),(3,_,_),(12,_,_)],[(.l 2,_),(.l 3,_)],[],[]⟩) (B4 (⟨U J,U J,U J,O⟩) (⟨U J,U J,O⟩) O) ?_;refine B9 J (fun hc=>?_) (fun hc=>?_)
  ·try simp only [nn,B3,D3,nq] at hc
   refine A8 (A6 ?_);refine A5 J J J (B8 J gU J J J J J) ?_;refine C8 J J J J J J gU gU (Bs n h1 h2 h4) J ?_;refine A5 J J J (A7 J gU) ?_;refine A5 J J J (C6 J gU J) ?_;refine A5 J J J (C6 J gU J) ?_;refine A5 J J J (A9 J gU) ?_;refine A5 J J J (A9 J gU) ?_;refine B0 ?_;refine B5 (s:=⟨[(3,_,_),(5,_,_)],[(.l 3,_)],[],[]⟩) (B4 (⟨U J,U J,O⟩) (⟨U J,O⟩) O) ?_;refine A8 ?_;refine A8 (A6 ?_);refine A5 J J J (A7 J gU) ?_;refine A5 J J J (B1 J gU J J) ?_;refine A5 J J J (B2 J gU J J J J) ?_;refine C8 J J J J J J gU gU (R4 _ _) J ?_;refine A5 J J J (B7 J J gU gU J) ?_;refine B0 ?_;refine B5 (s:=⟨[(22,_,_)],[],[],[]⟩) (B4 (⟨U J,O⟩) O O) ?_;refine B9 J (fun hc2=>?_) (fun hc2=>?_)
   ·try simp only [nn,B3,D3,nq] at hc2
    have hx:=(V6 _ _).1 hc2
    refine A8 (A6 ?_);refine A5 J J J (A9 J gU) ?_;refine B0 ?_;refine C1 ?_
    repeat(first|refine tR ?_|refine bR ?_)
    refine C5 J ?_ O
    (rw[R6,if_pos hc,if_neg (by rw[hx]; simp)]; rfl)
   ·try simp only [nn,B3,D3,nq] at hc2
    have hx:=(Cd (H0 n) t.name).1 (by omega)
    refine C0 ?_;refine A8 (A6 ?_);refine A5 J J J (A9 J gU) ?_;refine B0 ?_;refine C1 ?_
    repeat(first|refine tR ?_|refine bR ?_)
    refine C5 J ?_ O
    (rw[R6,if_pos hc,if_pos hx]; rfl)
  ·try simp only [nn,B3,D3,nq] at hc
   have h3 : t.kind=3:=by omega
   refine C0 ?_;refine A8 (A6 ?_);refine A5 J J J (B8 J gU J J J J J) ?_;refine A5 J J J (B8 J gU J J J J J) ?_;refine C8 J J J J J J gU gU (Te n t h3) J ?_;refine A5 J J J (A9 J gU) ?_;refine B0 ?_;refine A8 ?_;refine A8 (A6 ?_);refine A5 J J J (A7 J gU) ?_;refine A5 J J J (B7 J J gU gU J) ?_;refine B0 ?_;refine B5 (s:=⟨[(2,_,_),(3,_,_),(7,_,_),(27,_,_)],[(.l 2,_),(.l 3,_)],[],[]⟩) (B4 (⟨U J,U J,U J,U J,O⟩) (⟨U J,U J,O⟩) O) ?_;refine B9 J (fun hc2=>?_) (fun hc2=>?_)
   ·try simp only [nn,B3,D3,nq] at hc2
    have hk:=uAY hc2
    refine A8 (A6 ?_);refine A5 J J J (A9 J gU) ?_;refine B0 ?_;refine C1 ?_
    repeat(first|refine tR ?_|refine bR ?_)
    refine C5 J ?_ O
    (rw[R6,if_neg (by omega),hk]; rfl)
   ·try simp only [nn,B3,D3,nq] at hc2
    obtain ⟨k,hk,hk2⟩:=uBs (R:=n.roles) (t:=t) (by omega)
    have hle:=uAO hk
    rw[hk2]
    have hE : O1 n.roles (H0 n) t=errs (O1 n.roles (H0 n)) (t.kids.take k):=by rw[R6,if_neg (by omega),hk]
    rw[hE]
    refine C0 ?_;refine A8 ?_;refine A8 (A6 ?_);refine A5 J J J (A9 J gU) ?_;refine B0 ?_;refine C4 ?_;refine F3 (ι:=Nat) { t:=[(2,_,_),(3,_,_),(7,_,_)],bx:=[(.l 2,_),(.l 3,_)],ow:=[] } (fun j=>[(8,true,xi (j : Int))]) (fun j=>[]) (fun j=>j≤k ∧ ∀ i,i < j→O1 n.roles (H0 n) ((t.kids.take k).getD i default)=0) (fun j=>k - j) (0) (⟨by omega,fun j hj=>by omega⟩) (B4 (⟨U J,U J,U J,U J,O⟩) (⟨U J,U J,O⟩) O) ?_
    intro j hok
    dsimp only [List.cons_append,List.nil_append]
    obtain ⟨hj,hi⟩:=hok
    refine A8 ?_;refine A8 (A6 ?_);refine A5 J J J (A7 J gU) ?_;refine A5 J J J (A7 J gU) ?_;refine A5 J J J (B7 J J gU gU J) ?_;refine B0 ?_;refine B9 J (fun hc3=>?_) (fun hc3=>?_)
    ·try simp only [nn,B3,D3,nq] at hc3
     have hlt : j < k:=by omega
     have hg : (t.kids.take k).getD j default=t.kids.getD j default:=Oy hlt
     have hlen : (t.kids.take k).length=k:=by rw[List.length_take]; omega
     have hks:=M5 (J5 (d:=default) (l:=t.kids) (k:=j) (by omega))
     refine C0 ?_;refine A8 ?_;refine C4 ?_;refine A8 ?_;refine awp_drawn' (by kernel_rfl) ?_;refine D7 J J J J J J J gU J J J J J ?_;refine B6 J J J J (B1 J gU J J) ?_;refine G5 J J J J J J J gU J J J J ?_;refine B6 J J J J (A7 J gU) ?_;refine B6 J J J J (C2 J J gU gU J J J (fun hh=>T.rows_at (by first|omega|(simp at hh ⊢; omega)|(simp [isT] at hh ⊢; omega)))) ?_;refine B6 J J J J (D4 J gU J J J J) ?_;refine E7 J J J J J J J gU gU (ih (t.kids.getD j default) (by omega) (by omega)) J ?_;refine B6 J J J J (A9 J gU) ?_;refine F9 (by kernel_rfl) ?_;refine B5 (s:=⟨[(2,_,_),(3,_,_),(7,_,_),(8,_,_),(9,_,_)],[(.l 2,_),(.l 3,_)],[],[]⟩) (B4 (⟨U J,U J,U J,U J,U J,O⟩) (⟨U J,U J,O⟩) O) ?_;refine A8 (A6 ?_);refine A5 J J J (A7 J gU) ?_;refine A5 J J J (B7 J J gU gU J) ?_;refine B0 ?_;refine B9 J (fun hc4=>?_) (fun hc4=>?_)
     ·try simp only [nn,B3,D3,nq] at hc4
      have he:=Z3 (d:=default) (by omega) hi (by rw[hg]; exact hc4)
      rw[hg] at he
      refine A8 (A6 ?_);refine A5 J J J (A7 J gU) ?_;refine A5 J J J (A9 J gU) ?_;refine B0 ?_;refine C1 ?_
      repeat(first|refine tR ?_|refine bR ?_)
      refine C5 J ?_ O
      (rw[he]; rfl)
     ·try simp only [nn,B3,D3,nq] at hc4
      refine C0 ?_;refine A6 ?_;refine A5 J J J (A7 J gU) ?_;refine A5 J J J (D0 J J gU gU J (IntWalk.i64_in _ (by omega))) ?_;refine A5 J J J (A9 J gU) ?_;refine B0 ?_;refine ⟨j + 1,?_,?_,B4 (⟨⟨_,rfl,?_⟩,⟨U J,U J,U J,O⟩⟩) (⟨U J,U J,O⟩) O⟩
      all_goals (first|rfl|omega|exact ⟨by omega,Q2 hi (by rw[hg]; exact hc4)⟩)
    ·try simp only [nn,B3,D3,nq] at hc3
     have hlen : (t.kids.take k).length=k:=by rw[List.length_take]; omega
     refine E2 ?_
     repeat(first|refine D5 ?_|refine D6 ?_|refine D2 J ?_)
     refine A8 (A6 ?_);refine A5 J J J (A9 J gU) ?_;refine B0 ?_;refine C1 ?_
     repeat(first|refine tR ?_|refine bR ?_)
     refine C5 J ?_ O
     (rw[V9 (d:=default) (fun i q=>hi i (by omega))]; rfl)
theorem Mo (n : Nar) (s : Sp) (h1 : n.roles.length≤900000) (h2 : n.fresh.length≤900000) (h4 : n.tags.length≤900000) (hs : s.msg.size≤900000) : Ctr sys 45 [xn n,xsp s] [] (xi (T9 n s)) none []:=by
 refine D1 Tryz.func45 J J J J J J ?_;refine A8 (A6 ?_);refine C3 J (D8 J J J J) ?_;refine C3 J (D8 J J J J) ?_;refine A5 J J J (A9 J gU) ?_;refine B0 ?_;refine A8 ?_;refine A8 (A6 ?_);refine A5 J J J (B1 J gU J J) ?_;refine A5 J J J (B2 J gU J J J J) ?_;refine A5 J J J (B1 J gU J J) ?_;refine A5 J J J (B2 J gU J J J J) ?_;refine C8 J J J J J J gU gU (R4 _ _) J ?_;refine A5 J J J (B7 J J gU gU J) ?_;refine A5 J J J (A7 J gU) ?_;refine A5 J J J (B1 J gU J J) ?_;refine A5 J J J (B2 J (fun hh=>hh) J J J J) ?_;refine H3 (s:=⟨[(2,_,_),(3,_,_),(11,_,_),(13,_,_)],[(.l 2,_),(.l 3,_)],[],[]⟩) (B4 (⟨U J,U J,U J,U J,O⟩) (⟨U J,U J,O⟩) O) ?_;refine A5 J J J (B1 J gU J J) ?_;refine A5 J J J (B2 J (fun hh=>hh) J J J J) ?_;refine C8 J J J J J J gU (fun hh=>gA ((fun hh=>hh) hh) (gA ((fun hh=>hh) hh) (rfl))) (R4 _ _) J ?_;refine A5 J J J (B7 J J (fun hh=>hh) gU J) ?_;refine A5 J J J (E5 J J gU (fun _ hi=>gP J hi)) ?_
 refine B0 ?_;refine B5 (s:=⟨[(2,_,_),(3,_,_),(18,_,_)],[(.l 2,_),(.l 3,_)],[],[]⟩) (B4 (⟨U J,U J,U J,O⟩) (⟨U J,U J,O⟩) O) ?_;refine B9 J (fun hc=>?_) (fun hc=>?_)
 ·try simp only [nn,B3,D3,nq] at hc
  have h : n.roles.contains s.frm=false∨n.roles.contains s.dst=false:=by rw[← V6,← V6]; exact hc
  have ht : twoE n.roles s.frm s.dst=13:=by rw[twoE,if_pos h]
  refine A8 (A6 ?_);refine A5 J J J (A9 J gU) ?_;refine B0 ?_;refine C1 ?_
  repeat(first|refine tR ?_|refine bR ?_)
  refine C5 J ?_ O
  (rw[T9,ht]; rfl)
 ·try simp only [nn,B3,D3,nq] at hc
  have h : ¬(n.roles.contains s.frm=false∨n.roles.contains s.dst=false):=by rw[← V6,← V6]; omega
  refine C0 ?_;refine A8 ?_;refine A8 (A6 ?_);refine A5 J J J (B1 J gU J J) ?_;refine A5 J J J (B2 J gU J J J J) ?_;refine A5 J J J (B1 J gU J J) ?_;refine A5 J J J (B2 J gU J J J J) ?_;refine A5 J J J (G0 J J gU gU J) ?_;refine B0 ?_;refine B5 (s:=⟨[(2,_,_),(3,_,_),(23,_,_)],[(.l 2,_),(.l 3,_)],[],[]⟩) (B4 (⟨U J,U J,U J,O⟩) (⟨U J,U J,O⟩) O) ?_;refine B9 J (fun hc2=>?_) (fun hc2=>?_)
  ·try simp only [nn,B3,D3,nq] at hc2
   have ht : twoE n.roles s.frm s.dst=1:=by rw[twoE,if_neg h,if_pos hc2]
   refine A8 (A6 ?_);refine A5 J J J (A9 J gU) ?_;refine B0 ?_;refine C1 ?_
   repeat(first|refine tR ?_|refine bR ?_)
   refine C5 J ?_ O
   (rw[T9,ht]; rfl)
  ·try simp only [nn,B3,D3,nq] at hc2
   have ht : twoE n.roles s.frm s.dst=0:=by rw[twoE,if_neg h,if_neg hc2]
   refine C0 ?_;refine A8 (A6 ?_);refine A5 J J J (B8 J gU J J J J J) ?_;refine A5 J J J (B1 J gU J J) ?_;refine A5 J J J (B8 J gU J J J J J) ?_;refine C8 J J J J J J gU gU (An n h1 h2 h4 _ _ (Nat.le_refl _) hs) J ?_;refine A5 J J J (A9 J gU) ?_;refine B0 ?_;refine C1 ?_
   repeat(first|refine tR ?_|refine bR ?_)
   refine C5 J ?_ O
   (rw[T9,ht]; rfl)
theorem Nf (n : Nar) (g : Gl) (h1 : n.roles.length≤900000) (h2 : n.fresh.length≤900000) (h4 : n.tags.length≤900000) (hg : T.sizes g.data≤900000) : Ctr sys 46 [xn n,xg g] [] (xi (P6 n g)) none []:=by
 have hr:=T.rows_len g.data
 have hls:=T.len_sizes g.data
 refine D1 Tryz.func46 J J J J J J ?_;refine A8 (A6 ?_);refine C3 J (D8 J J J J) ?_;refine C3 J (D8 J J J J) ?_;refine A5 J J J (A9 J gU) ?_;refine B0 ?_;refine A8 ?_;refine A8 (A6 ?_);refine A5 J J J (B1 J gU J J) ?_;refine A5 J J J (B2 J gU J J J J) ?_;refine A5 J J J (B1 J gU J J) ?_;refine A5 J J J (B2 J gU J J J J) ?_;refine C8 J J J J J J gU gU (R4 _ _) J ?_;refine A5 J J J (B7 J J gU gU J) ?_;refine B0 ?_;refine B5 (s:=⟨[(2,_,_),(3,_,_),(12,_,_)],[(.l 2,_),(.l 3,_)],[],[]⟩) (B4 (⟨U J,U J,U J,O⟩) (⟨U J,U J,O⟩) O) ?_;refine B9 J (fun hc=>?_) (fun hc=>?_)
 ·try simp only [nn,B3,D3,nq] at hc
  have h:=(V6 _ _).1 hc
  refine A8 (A6 ?_);refine A5 J J J (A9 J gU) ?_;refine B0 ?_;refine C1 ?_
  repeat(first|refine tR ?_|refine bR ?_)
  refine C5 J ?_ O
  (rw[P6,if_pos h]; rfl)
 ·try simp only [nn,B3,D3,nq] at hc
  have hc':=(Cd n.roles g.role).1 (by omega)
  have c1 : ¬ n.roles.contains g.role=false:=by rw[hc']; simp
  refine C0 ?_;refine A8 ?_;refine A8 (A6 ?_);refine A5 J J J (B1 J gU J J) ?_;refine A5 J J J (B2 J gU J J J J) ?_;refine A5 J J J (B7 J J gU gU J) ?_;refine A5 J J J (A7 J gU) ?_;refine A5 J J J (B1 J gU J J) ?_;refine A5 J J J (B2 J (fun hh=>hh) J J J J) ?_;refine A5 J J J (B7 J J (fun hh=>hh) gU J) ?_;refine A5 J J J (E5 J J gU (fun _ hi=>gP J hi)) ?_;refine B0 ?_;refine B5 (s:=⟨[(2,_,_),(3,_,_),(20,_,_)],[(.l 2,_),(.l 3,_)],[],[]⟩) (B4 (⟨U J,U J,U J,O⟩) (⟨U J,U J,O⟩) O) ?_;refine B9 J (fun hc2=>?_) (fun hc2=>?_)
  ·try simp only [nn,B3,D3,nq] at hc2
   have ha : I8 g.kind=true:=sagree_iff.2 hc2
   refine A8 ?_;refine A8 (A6 ?_);refine A5 J J J (B1 J gU J J) ?_;refine A5 J J J (B2 J gU J J J J) ?_;refine A5 J J J (B1 J gU J J) ?_;refine A5 J J J (B2 J gU J J J J) ?_;refine C8 J J J J J J gU gU (R4 _ _) J ?_;refine A5 J J J (B7 J J gU gU J) ?_;refine B0 ?_;refine B5 (s:=⟨[(2,_,_),(3,_,_),(26,_,_)],[(.l 2,_),(.l 3,_)],[],[]⟩) (B4 (⟨U J,U J,U J,O⟩) (⟨U J,U J,O⟩) O) ?_;refine B9 J (fun hc3=>?_) (fun hc3=>?_)
   ·try simp only [nn,B3,D3,nq] at hc3
    have h:=(V6 _ _).1 hc3
    have ht : twoE n.roles g.role g.wth=13:=by rw[twoE,if_pos (.inr h)]
    refine A8 (A6 ?_);refine A5 J J J (A9 J gU) ?_;refine B0 ?_;refine C1 ?_
    repeat(first|refine tR ?_|refine bR ?_)
    refine C5 J ?_ O
    (rw[P6,if_neg c1,if_pos ⟨ha,by rw[ht]; simp⟩,ht]; rfl)
   ·try simp only [nn,B3,D3,nq] at hc3
    have h:=(Cd n.roles g.wth).1 (by omega)
    have hn : ¬(n.roles.contains g.role=false∨n.roles.contains g.wth=false):=by rw[hc',h]; simp
    refine C0 ?_;refine A8 (A6 ?_);refine A5 J J J (B1 J gU J J) ?_;refine A5 J J J (B2 J gU J J J J) ?_;refine A5 J J J (B1 J gU J J) ?_;refine A5 J J J (B2 J gU J J J J) ?_;refine A5 J J J (G0 J J gU gU J) ?_;refine B0 ?_;refine B5 (s:=⟨[(2,_,_),(3,_,_),(31,_,_)],[(.l 2,_),(.l 3,_)],[],[]⟩) (B4 (⟨U J,U J,U J,O⟩) (⟨U J,U J,O⟩) O) ?_;refine B9 J (fun hc4=>?_) (fun hc4=>?_)
    ·try simp only [nn,B3,D3,nq] at hc4
     have ht : twoE n.roles g.role g.wth=1:=by rw[twoE,if_neg hn,if_pos hc4.symm]
     refine A8 (A6 ?_);refine A5 J J J (A9 J gU) ?_;refine B0 ?_;refine C1 ?_
     repeat(first|refine tR ?_|refine bR ?_)
     refine C5 J ?_ O
     (rw[P6,if_neg c1,if_pos ⟨ha,by rw[ht]; simp⟩,ht]; rfl)
    ·try simp only [nn,B3,D3,nq] at hc4
     have ht : twoE n.roles g.role g.wth=0:=by rw[twoE,if_neg hn,if_neg (fun q=>hc4 q.symm)]
     have hE : P6 n g=errs (O1 n.roles (H0 n)) g.data:=by rw[P6,if_neg c1,if_neg (fun q=>q.2 ht)]
     rw[hE]
     refine C0 ?_;refine A8 ?_;refine A8 (A6 ?_);refine A5 J J J (A9 J gU) ?_;refine B0 ?_;refine C4 ?_;refine F3 (ι:=Nat) { t:=[(2,_,_),(3,_,_)],bx:=[(.l 2,_),(.l 3,_)],ow:=[] } (fun k=>[(5,true,xi (k : Int))]) (fun k=>[]) (fun k=>k≤g.data.length ∧ ∀ j,j < k→O1 n.roles (H0 n) (g.data.getD j default)=0) (fun k=>g.data.length - k) (0) (⟨by omega,fun j hj=>by omega⟩) (B4 (⟨U J,U J,U J,O⟩) (⟨U J,U J,O⟩) O) ?_
     intro k hoka
     dsimp only [List.cons_append,List.nil_append]
     obtain ⟨hk,hi⟩:=hoka
     refine A8 ?_;refine A8 (A6 ?_);refine A5 J J J (A7 J gU) ?_;refine A5 J J J (B1 J gU J J) ?_;refine A5 J J J (B2 J gU J J J J) ?_;refine D9 J J J J J gU J J ?_ (fun hh=>by simp at hh); intro hlen;refine A5 J J J (B7 J J gU gU J) ?_;refine B0 ?_;refine B5 (s:=⟨[(2,_,_),(3,_,_),(5,_,_),(36,_,_)],[(.l 2,_),(.l 3,_)],[],[]⟩) (B4 (⟨U J,U J,U J,U J,O⟩) (⟨U J,U J,O⟩) O) ?_;refine B9 J (fun hc5=>?_) (fun hc5=>?_)
     ·try simp only [nn,B3,D3,nq] at hc5
      have hlt : k < g.data.length:=by omega
      have hks:=T.getD_size hlt
      have hts:=T.sizes_take_le g.data k
      refine C0 ?_;refine A8 ?_;refine C4 ?_;refine A8 ?_;refine awp_drawn' (by kernel_rfl) ?_;refine D7 J J J J J J J gU J J J J J ?_;refine B6 J J J J (B1 J gU J J) ?_;refine G5 J J J J J J J gU J J J J ?_;refine B6 J J J J (A7 J gU) ?_;refine B6 J J J J (C2 J J gU gU J J J (fun hh=>T.rows_at (by first|omega|(simp at hh ⊢; omega)|(simp [isT] at hh ⊢; omega)))) ?_;refine B6 J J J J (D4 J gU J J J J) ?_;refine E7 J J J J J J J gU gU (An n h1 h2 h4 _ (g.data.getD k default) (Nat.le_refl _) (by omega)) J ?_;refine B6 J J J J (A9 J gU) ?_;refine F9 (by kernel_rfl) ?_;refine B5 (s:=⟨[(2,_,_),(3,_,_),(5,_,_),(6,_,_)],[(.l 2,_),(.l 3,_)],[],[]⟩) (B4 (⟨U J,U J,U J,U J,O⟩) (⟨U J,U J,O⟩) O) ?_;refine A8 (A6 ?_);refine A5 J J J (A7 J gU) ?_;refine A5 J J J (B7 J J gU gU J) ?_;refine B0 ?_;refine B9 J (fun hc6=>?_) (fun hc6=>?_)
      ·try simp only [nn,B3,D3,nq] at hc6
       refine A8 (A6 ?_);refine A5 J J J (A7 J gU) ?_;refine A5 J J J (A9 J gU) ?_;refine B0 ?_;refine C1 ?_
       repeat(first|refine tR ?_|refine bR ?_)
       refine C5 J ?_ O
       (rw[Z3 hlt hi hc6]; rfl)
      ·try simp only [nn,B3,D3,nq] at hc6
       refine C0 ?_;refine A6 ?_;refine A5 J J J (A7 J gU) ?_;refine A5 J J J (D0 J J gU gU J (IntWalk.i64_in _ (by omega))) ?_;refine A5 J J J (A9 J gU) ?_;refine B0 ?_;refine ⟨k + 1,?_,?_,B4 (⟨⟨_,rfl,?_⟩,⟨U J,U J,O⟩⟩) (⟨U J,U J,O⟩) O⟩
       all_goals (first|rfl|omega|exact ⟨by omega,Q2 hi hc6⟩)
     ·try simp only [nn,B3,D3,nq] at hc5
      have hke : k=g.data.length:=by omega
      subst hke
      refine E2 ?_
      repeat(first|refine D5 ?_|refine D6 ?_|refine D2 J ?_)
      refine A8 (A6 ?_);refine A5 J J J (A9 J gU) ?_;refine B0 ?_;refine C1 ?_
      repeat(first|refine tR ?_|refine bR ?_)
      refine C5 J ?_ O
      (rw[V9 hi]; rfl)
  ·try simp only [nn,B3,D3,nq] at hc2
   have ha : ¬ I8 g.kind=true := fun q=>by have := sagree_iff.1 q; omega
   have hE : P6 n g=errs (O1 n.roles (H0 n)) g.data:=by rw[P6,if_neg c1,if_neg (fun q=>ha q.1)]
   rw[hE]
   refine C0 ?_;refine A8 ?_;refine A8 (A6 ?_);refine A5 J J J (A9 J gU) ?_;refine B0 ?_;refine C4 ?_;refine F3 (ι:=Nat) { t:=[(2,_,_),(3,_,_)],bx:=[(.l 2,_),(.l 3,_)],ow:=[] } (fun k=>[(5,true,xi (k : Int))]) (fun k=>[]) (fun k=>k≤g.data.length ∧ ∀ j,j < k→O1 n.roles (H0 n) (g.data.getD j default)=0) (fun k=>g.data.length - k) (0) (⟨by omega,fun j hj=>by omega⟩) (B4 (⟨U J,U J,U J,O⟩) (⟨U J,U J,O⟩) O) ?_
   intro k hokb
   dsimp only [List.cons_append,List.nil_append]
   obtain ⟨hk,hi⟩:=hokb
   refine A8 ?_;refine A8 (A6 ?_);refine A5 J J J (A7 J gU) ?_;refine A5 J J J (B1 J gU J J) ?_;refine A5 J J J (B2 J gU J J J J) ?_;refine D9 J J J J J gU J J ?_ (fun hh=>by simp at hh); intro hlen;refine A5 J J J (B7 J J gU gU J) ?_;refine B0 ?_;refine B5 (s:=⟨[(2,_,_),(3,_,_),(5,_,_),(36,_,_)],[(.l 2,_),(.l 3,_)],[],[]⟩) (B4 (⟨U J,U J,U J,U J,O⟩) (⟨U J,U J,O⟩) O) ?_;refine B9 J (fun hc3=>?_) (fun hc3=>?_)
   ·try simp only [nn,B3,D3,nq] at hc3
    have hlt : k < g.data.length:=by omega
    have hks:=T.getD_size hlt
    have hts:=T.sizes_take_le g.data k
    refine C0 ?_;refine A8 ?_;refine C4 ?_;refine A8 ?_;refine awp_drawn' (by kernel_rfl) ?_;refine D7 J J J J J J J gU J J J J J ?_;refine B6 J J J J (B1 J gU J J) ?_;refine G5 J J J J J J J gU J J J J ?_;refine B6 J J J J (A7 J gU) ?_;refine B6 J J J J (C2 J J gU gU J J J (fun hh=>T.rows_at (by first|omega|(simp at hh ⊢; omega)|(simp [isT] at hh ⊢; omega)))) ?_;refine B6 J J J J (D4 J gU J J J J) ?_;refine E7 J J J J J J J gU gU (An n h1 h2 h4 _ (g.data.getD k default) (Nat.le_refl _) (by omega)) J ?_;refine B6 J J J J (A9 J gU) ?_;refine F9 (by kernel_rfl) ?_;refine B5 (s:=⟨[(2,_,_),(3,_,_),(5,_,_),(6,_,_)],[(.l 2,_),(.l 3,_)],[],[]⟩) (B4 (⟨U J,U J,U J,U J,O⟩) (⟨U J,U J,O⟩) O) ?_;refine A8 (A6 ?_);refine A5 J J J (A7 J gU) ?_;refine A5 J J J (B7 J J gU gU J) ?_;refine B0 ?_;refine B9 J (fun hc4=>?_) (fun hc4=>?_)
    ·try simp only [nn,B3,D3,nq] at hc4
     refine A8 (A6 ?_);refine A5 J J J (A7 J gU) ?_;refine A5 J J J (A9 J gU) ?_;refine B0 ?_;refine C1 ?_
     repeat(first|refine tR ?_|refine bR ?_)
     refine C5 J ?_ O
     (rw[Z3 hlt hi hc4]; rfl)
    ·try simp only [nn,B3,D3,nq] at hc4
     refine C0 ?_;refine A6 ?_;refine A5 J J J (A7 J gU) ?_;refine A5 J J J (D0 J J gU gU J (IntWalk.i64_in _ (by omega))) ?_;refine A5 J J J (A9 J gU) ?_;refine B0 ?_;refine ⟨k + 1,?_,?_,B4 (⟨⟨_,rfl,?_⟩,⟨U J,U J,O⟩⟩) (⟨U J,U J,O⟩) O⟩
     all_goals (first|rfl|omega|exact ⟨by omega,Q2 hi hc4⟩)
   ·try simp only [nn,B3,D3,nq] at hc3
    have hke : k=g.data.length:=by omega
    subst hke
    refine E2 ?_
    repeat(first|refine D5 ?_|refine D6 ?_|refine D2 J ?_)
    refine A8 (A6 ?_);refine A5 J J J (A9 J gU) ?_;refine B0 ?_;refine C1 ?_
    repeat(first|refine tR ?_|refine bR ?_)
    refine C5 J ?_ O
    (rw[V9 hi]; rfl)
theorem Wt (l : List (List UInt8)) (rs : List (List C)) (s : List UInt8) (h : rs=strR l) : Ctr sys 52 [.v (.c (.sl 1 rs)),xs s] [] (xi (ixS l s)) none []:=by
 subst h; exact R4 l s
theorem Pz (n : Nar) : (H0 n).length=n.roles.length + (n.fresh.length + n.tags.length):=by rw[Eg]; simp
theorem Hx (n : Nar) : (dclL n).map (·.1)=H0 n:=by
 rw[dclL,Eg]
 simp [List.map_append,List.map_map,Function.comp_def]
theorem uB4 {n : Nar} {i : Nat} (h : i < (H0 n).length) : ∃ o,(dclL n)[i]? = some ((H0 n).getD i [],o)∧(if n.roles.length≤i∧i < n.roles.length + n.fresh.length then o=some (n.fresh.getD (i - n.roles.length) default).role else o=none):=by
 have hl:=Pz n
 have hk : (H0 n)[i]? = ((dclL n)[i]?).map (·.1):=by rw[← Hx,List.getElem?_map]
 by_cases h1 : i < n.roles.length
 ·have := Qt h1
  refine ⟨none,?_,by rw[if_neg (by omega)]⟩
  rw[List.getD_eq_getElem?_getD,hk,this]; rfl
 ·by_cases h2 : i < n.roles.length + n.fresh.length
  ·have := Kz (n := n) (k := i - n.roles.length) (by omega)
   rw[show n.roles.length + (i - n.roles.length)=i by omega] at this
   refine ⟨_,?_,by rw[if_pos (by omega)]⟩
   rw[List.getD_eq_getElem?_getD,hk,this]; rfl
  ·have := Va (n := n) (k := i - n.roles.length - n.fresh.length) (by omega)
   rw[show n.roles.length + (n.fresh.length + (i - n.roles.length - n.fresh.length))=i by omega] at this
   refine ⟨none,?_,by rw[if_neg (by omega)]⟩
   rw[List.getD_eq_getElem?_getD,hk,this]; rfl
theorem uBI {l : List UInt8} {c : UInt8} (h : ∀ j,j < l.length → ¬ (((l.getD j 0).toNat : Nat) : Int)=(c.toNat : Nat)) : l.contains c=false:=by
 rw[Bool.eq_false_iff]
 intro q
 obtain ⟨j,hj,e⟩:=List.mem_iff_getElem.1 (List.contains_iff_mem.1 q)
 exact h j hj (by rw[List.getD_eq_getElem?_getD,List.getElem?_eq_getElem hj,Option.getD_some,e])
theorem uBY {l : List UInt8} {c : UInt8} {j : Nat} (hj : j < l.length) (h : (((l.getD j 0).toNat : Nat) : Int)=(c.toNat : Nat)) : l.contains c=true:=by
 have e : l.getD j 0=c:=UInt8.toNat.inj (by omega)
 rw[List.contains_iff_mem,← e]; exact J5 hj
theorem Iw (n : Nar) (h1 : n.roles.length≤900000) (h2 : n.fresh.length≤900000) (h4 : n.tags.length≤900000) : Ctr sys 44 [xn n] [] (xi (decE n)) none []:=by
 have l1:=B3 n.roles
 have l2:=Fs.rows_len n.fresh
 have l3:=B3 n.tags
 have lk:=B3 (H0 n)
 have hl:=Pz n
 refine D1 Tryz.func44 J J J J J J ?_;refine A8 (A6 ?_);refine C3 J (D8 J J J J) ?_;refine A5 J J J (A9 J gU) ?_;refine B0 ?_;refine A8 (A6 ?_);refine A5 J J J (B8 J gU J J J J J) ?_;refine C8 J J J J J J gU gU (Bs n h1 h2 h4) J ?_;refine A5 J J J (A7 J gU) ?_;refine A5 J J J (C6 J gU J) ?_;refine A5 J J J (C6 J gU J) ?_;refine A5 J J J (A9 J gU) ?_;refine A5 J J J (A9 J gU) ?_;refine B0 ?_;refine B5 (s:=⟨[(1,_,_),(3,_,_)],[(.l 1,_)],[],[]⟩) (B4 (⟨U J,U J,O⟩) (⟨U J,O⟩) O) ?_;refine A8 ?_;refine A8 (A6 ?_);refine A5 J J J (A9 J gU) ?_;refine B0 ?_;refine C4 ?_;refine F3 (ι:=Nat) { t:=[(1,_,_),(3,_,_)],bx:=[(.l 1,_)],ow:=[] } (fun i=>[(5,true,xi (i : Int))]) (fun i=>[]) (fun i=>i≤(H0 n).length∧decA n.roles ((H0 n).take i) ((dclL n).drop i)=decE n) (fun i=>(H0 n).length - i) (0) (⟨by omega,by simp [decE]⟩) (B4 (⟨U J,U J,U J,O⟩) (⟨U J,O⟩) O) ?_
 intro i hoka
 dsimp only [List.cons_append,List.nil_append]
 obtain ⟨hi,hd⟩:=hoka
 refine A8 ?_;refine A8 (A6 ?_);refine A5 J J J (A7 J gU) ?_;refine A5 J J J (A7 J gU) ?_;refine D9 J J J J J gU J J ?_ (fun hh=>by simp at hh); intro hlen;refine A5 J J J (B7 J J gU gU J) ?_;refine B0 ?_;refine B9 J (fun hc=>?_) (fun hc=>?_)
 ·try simp only [nn,B3,D3,nq] at hc
  have hlt : i < (H0 n).length:=by omega
  obtain ⟨o,hx,ho⟩:=uB4 hlt
  have hF : o.isSome=true ↔ (n.roles.length≤i∧i < n.roles.length + n.fresh.length):=by
   split at ho
   ·rename_i q; rw[ho]; exact ⟨fun _=>q,fun _=>rfl⟩
   ·rename_i q; rw[ho]; exact ⟨fun z=>by simp at z,fun z=>absurd z q⟩
  refine C0 ?_;refine A8 ?_;refine C4 ?_;refine A8 (A6 ?_);refine A5 J J J (A7 J gU) ?_;refine A5 J J J (B1 J gU J J) ?_;refine A5 J J J (B2 J gU J J J J) ?_;refine D9 J J J J J gU J J ?_ (fun hh=>by simp at hh); intro hlen;refine A5 J J J (B7 J J gU gU J) ?_;refine A5 J J J (A7 J gU) ?_;refine A5 J J J (A7 J gU) ?_;refine A5 J J J (B1 J gU J J) ?_;refine H3 (s:=⟨[(1,_,_),(3,_,_),(5,_,_),(24,_,_),(25,_,_),(26,_,_)],[(.l 1,_)],[],[]⟩) (B4 (⟨U J,U J,U J,U J,U J,U J,O⟩) (⟨U J,O⟩) O) ?_;refine A5 J J J (B2 J (fun hh=>hh) J J J J) ?_;refine A5 J J J (G7 J (fun hh=>hh) J J) ?_;refine A5 J J J (B1 J gU J J) ?_;refine A5 J J J (B2 J (fun hh=>hh) J J J J) ?_;refine A5 J J J (G7 J (fun hh=>hh) J J) ?_;refine A5 J J J (D0 J J (fun hh=>hh) (fun hh=>hh) J (IntWalk.i64_in _ (by omega))) ?_;refine A5 J J J (B7 J J (fun hh=>hh) (fun hh=>hh) J) ?_;refine A5 J J J (E0 J J gU (fun _ hi=>gP J hi)) ?_;refine A5 J J J (A9 J gU) ?_;refine B0 ?_
  refine B5 (s:=⟨[(1,_,_),(3,_,_),(5,_,_),(6,_,_)],[(.l 1,_)],[],[]⟩) (B4 (⟨U J,U J,U J,U J,O⟩) (⟨U J,O⟩) O) ?_;refine A8 ?_;refine A8 (A6 ?_);refine A5 J J J (A9 J gU) ?_;refine B0 ?_;refine C4 ?_;refine F3 (ι:=Nat) { t:=[(1,_,_),(3,_,_),(5,_,_),(6,_,_)],bx:=[(.l 1,_)],ow:=[] } (fun k=>[(7,true,xi (k : Int))]) (fun k=>[]) (fun k=>k≤((H0 n).getD i []).length ∧ ∀ j,j < k → ¬ (((((H0 n).getD i []).getD j 0).toNat : Nat) : Int)=35) (fun k=>((H0 n).getD i []).length - k) (0) (⟨by omega,fun j hj=>by omega⟩) (B4 (⟨U J,U J,U J,U J,U J,O⟩) (⟨U J,O⟩) O) ?_
  intro k hokb
  dsimp only [List.cons_append,List.nil_append]
  obtain ⟨hk,hj⟩:=hokb
  refine A8 ?_;refine A8 (A6 ?_);refine A5 J J J (A7 J gU) ?_;refine A5 J J J (A7 J gU) ?_;refine A5 J J J (A7 J gU) ?_;refine A5 J J J (C2 J J gU gU J J J (fun hh=>L1 (by first|omega|(simp at hh ⊢; omega)))) ?_;refine A5 J J J (E3 J gU J J J) ?_;refine L4 J J J J J gU (Tryz.underlying9) ?_ (fun hh=>by simp at hh); intro hlen;refine A5 J J J (B7 J J gU gU J) ?_;refine B0 ?_;refine B5 (s:=⟨[(1,_,_),(3,_,_),(5,_,_),(6,_,_),(7,_,_),(41,_,_)],[(.l 1,_)],[],[]⟩) (B4 (⟨U J,U J,U J,U J,U J,U J,O⟩) (⟨U J,O⟩) O) ?_;refine B9 J (fun hc2=>?_) (fun hc2=>?_)
  ·try simp only [nn,B3,D3,nq] at hc2
   refine C0 ?_;refine A8 ?_;refine C4 ?_;refine A8 (A6 ?_);refine A5 J J J (A7 J gU) ?_;refine A5 J J J (A7 J gU) ?_;refine A5 J J J (C2 J J gU gU J J J (fun hh=>L1 (by first|omega|(simp at hh ⊢; omega)))) ?_;refine A5 J J J (E3 J gU J J J) ?_;refine A5 J J J (A7 J gU) ?_;refine A5 J J J (E6 J J gU gU Tryz.underlying9 J (fun hh=>by first|omega|(simp at hh ⊢; omega))) ?_;refine A5 J J J (B7 J J gU gU J) ?_;refine B0 ?_;refine B5 (s:=⟨[(1,_,_),(3,_,_),(5,_,_),(6,_,_),(7,_,_),(50,_,_)],[(.l 1,_)],[],[]⟩) (B4 (⟨U J,U J,U J,U J,U J,U J,O⟩) (⟨U J,O⟩) O) ?_;refine B9 J (fun hc3=>?_) (fun hc3=>?_)
   ·try simp only [nn,B3,D3,nq] at hc3
    have he : dclE n.roles ((H0 n).take i) ((H0 n).getD i [],o)=2:=by rw[dclE,if_pos (uBY (c:=35) (l:=(H0 n).getD i []) (j:=k) (by omega) hc3)]
    have hh:=U3 hx (by rw[he]; simp)
    rw[hd,he] at hh
    refine A8 (A6 ?_);refine A5 J J J (A9 J gU) ?_;refine B0 ?_;refine C1 ?_
    repeat(first|refine tR ?_|refine bR ?_)
    refine C5 J ?_ O
    (rw[hh]; rfl)
   ·try simp only [nn,B3,D3,nq] at hc3
    refine C0 ?_;refine A6 ?_;refine A5 J J J (A7 J gU) ?_;refine A5 J J J (D0 J J gU gU J (IntWalk.i64_in _ (by omega))) ?_;refine A5 J J J (A9 J gU) ?_;refine B0 ?_;refine ⟨k + 1,?_,?_,B4 (⟨⟨_,rfl,?_⟩,⟨U J,U J,U J,U J,O⟩⟩) (⟨U J,O⟩) O⟩
    all_goals (first|rfl|omega|exact ⟨by omega,fun j q=>by by_cases e : j=k; subst e; exact hc3; exact hj j (by omega)⟩)
  ·try simp only [nn,B3,D3,nq] at hc2
   have hno : ((H0 n).getD i []).contains 35=false:=uBI (fun j q=>hj j (by omega))
   refine E2 ?_
   repeat(first|refine D5 ?_|refine D6 ?_|refine D2 J ?_)
   refine A8 ?_;refine A8 (A6 ?_);refine A5 J J J (A7 J gU) ?_;refine A5 J J J (A7 J gU) ?_;refine A5 J J J (A7 J gU) ?_;refine A5 J J J (A7 J gU) ?_;refine A5 J J J (C2 J J (fun hh=>hh) (fun hh=>hh) J J J (fun hh=>L1 (by first|omega|(simp at hh ⊢; omega)))) ?_;refine A5 J J J (E3 J (fun hh=>hh) J J J) ?_;refine A5 J J J (G0 J J (fun hh=>hh) gU J) ?_;refine A5 J J J (A7 J (fun hh=>hh)) ?_;refine A5 J J J (A7 J gU) ?_;refine A5 J J J (A7 J gU) ?_;refine A5 J J J (C2 J J (fun hh=>hh) (fun hh=>hh) J J J (fun hh=>L1 (by first|omega|(simp at hh ⊢; omega)))) ?_;refine A5 J J J (E3 J (fun hh=>hh) J J J) ?_;refine H3 (s:=⟨[(1,_,_),(3,_,_),(5,_,_),(6,_,_),(52,_,_),(58,_,_),(62,_,_)],[(.l 1,_)],[],[]⟩) (B4 (⟨U J,U J,U J,U J,U J,U J,U J,O⟩) (⟨U J,O⟩) O) ?_;refine A5 J J J (G0 J J (fun hh=>hh) gU J) ?_;refine A5 J J J (E5 J J (fun hh=>hh) (fun hh hi=>gP hh hi)) ?_;refine A5 J J J (E0 J J gU (fun _ hi=>gP J hi)) ?_;refine B0 ?_
   have n1 : ¬((H0 n).getD i []).contains 35=true:=by rw[hno]; simp
   refine B9 J (fun hc3=>?_) (fun hc3=>?_)
   ·try simp only [nn,B3,D3,nq] at hc3
    have he : dclE n.roles ((H0 n).take i) ((H0 n).getD i [],o)=1:=by rw[dclE,if_neg n1,if_pos ⟨hF.2 (by omega),hc3.2⟩]
    have hh:=U3 hx (by rw[he]; simp)
    rw[hd,he] at hh
    refine A8 (A6 ?_);refine A5 J J J (A9 J gU) ?_;refine B0 ?_;refine C1 ?_
    repeat(first|refine tR ?_|refine bR ?_)
    refine C5 J ?_ O
    (rw[hh]; rfl)
   ·try simp only [nn,B3,D3,nq] at hc3
    have n2 : ¬(o.isSome=true∧((H0 n).getD i []=[101]∨(H0 n).getD i []=[103])):=by
     rintro ⟨q1,q2⟩
     have := hF.1 q1
     rcases hc3 with z | z
     ·omega
     ·exact q2.elim z.1 z.2
    refine C0 ?_;refine A8 ?_;refine A8 ?_;refine awp_drawn' (by kernel_rfl) ?_;refine B6 J J J J (A7 J gU) ?_;refine B6 J J J J (A7 J gU) ?_;refine B6 J J J J (Am J gU J J (fun _=>rfl) (fun _=>⟨_,_,_,rfl,gU,rfl⟩) (fun hh=>by first|omega|(simp at hh ⊢; omega)) (fun hh=>by first|omega|(simp at hh ⊢; omega))) ?_;refine B6 J J J J (A7 J gU) ?_;refine B6 J J J J (A7 J gU) ?_;refine B6 J J J J (C2 J J gU gU J J J (fun hh=>L1 (by first|omega|(simp at hh ⊢; omega)))) ?_;refine B6 J J J J (E3 J gU J J J) ?_;refine E7 J J J J J J J gU gU (Wt _ _ _ (Wn _ _)) J ?_;refine B6 J J J J (B7 J J gU gU J) ?_;refine F9 (by kernel_rfl) ?_;refine B5 (s:=⟨[(1,_,_),(3,_,_),(5,_,_),(6,_,_),(74,_,_)],[(.l 1,_)],[],[]⟩) (B4 (⟨U J,U J,U J,U J,U J,O⟩) (⟨U J,O⟩) O) ?_;refine B9 J (fun hc4=>?_) (fun hc4=>?_)
    ·try simp only [nn,B3,D3,nq] at hc4
     have h5:=(Cd _ _).1 hc4
     have he : dclE n.roles ((H0 n).take i) ((H0 n).getD i [],o)=5:=by rw[dclE,if_neg n1,if_neg n2,if_pos h5]
     have hh:=U3 hx (by rw[he]; simp)
     rw[hd,he] at hh
     refine A8 (A6 ?_);refine A5 J J J (A9 J gU) ?_;refine B0 ?_;refine C1 ?_
     repeat(first|refine tR ?_|refine bR ?_)
     refine C5 J ?_ O
     (rw[hh]; rfl)
    ·try simp only [nn,B3,D3,nq] at hc4
     have h5:=(V6 ((H0 n).take i) ((H0 n).getD i [])).1 (by omega)
     have n3 : ¬((H0 n).take i).contains ((H0 n).getD i [])=true:=by rw[h5]; simp
     refine C0 ?_;refine A8 ?_;refine awp_drawn' (by kernel_rfl) ?_;refine B6 J J J J (A7 J gU) ?_;refine B6 J J J J (A7 J gU) ?_;refine B6 J J J J (B1 J gU J J) ?_;refine G5 J J J J J J J (fun hh=>hh) J J J J ?_;refine B6 J J J J (B1 J gU J J) ?_;refine G5 J J J J J J J (fun hh=>hh) J J J J ?_;refine B6 J J J J (A7 J gU) ?_;refine B6 J J J J (B1 J gU J J) ?_;refine G5 J J J J J J J (fun hh=>hh) J J J J ?_;refine B6 J J J J (G7 J (fun hh=>hh) J J) ?_;refine B6 J J J J (D0 J J (fun hh=>hh) (fun hh=>hh) J (IntWalk.i64_in _ (by omega))) ?_;refine B6 J J J J (Gj (j:=i - n.roles.length) J J (by first|exact fun hh=>hh|exact fun _=>rfl|exact fun hh=>gL hh|exact fun hh=>gL (gL hh)|(intro hh; simp_all)) (by first|exact fun hh=>hh|exact fun _=>rfl|exact fun hh=>gL hh|exact fun hh=>gL (gL hh)|(intro hh; simp_all)) J J (fun hh=>by simp at hh; omega) (fun hh=>Fs.rows_at (by simp at hh; omega))) ?_;refine B6 J J J J (F1 J (fun hh=>hh) J J) ?_;refine B6 J J J J (E3 J (fun hh=>hh) J J J) ?_;refine E7 J J J J J J J gU (fun hh=>gA ((fun hh=>hh) hh) (gA ((fun hh=>hh) hh) (rfl))) (R4 _ _) J ?_
     refine B6 J J J J (B7 J J (fun hh=>hh) gU J) ?_;refine B6 J J J J (E0 J J gU (fun _ hi=>gP J hi)) ?_;refine F9 (by kernel_rfl) ?_;refine B5 (s:=⟨[(1,_,_),(3,_,_),(5,_,_),(91,_,_)],[(.l 1,_)],[],[]⟩) (B4 (⟨U J,U J,U J,U J,O⟩) (⟨U J,O⟩) O) ?_;refine B9 J (fun hc5=>?_) (fun hc5=>?_)
     ·try simp only [nn,B3,D3,nq] at hc5
      have hr:=(V6 _ _).1 hc5.2
      rw[if_pos (by omega)] at ho
      have he : dclE n.roles ((H0 n).take i) ((H0 n).getD i [],o)=13:=by rw[dclE,if_neg n1,if_neg n2,if_neg n3,ho]; exact if_neg (by rw[hr]; simp)
      have hh:=U3 hx (by rw[he]; simp)
      rw[hd,he] at hh
      refine A8 (A6 ?_);refine A5 J J J (A9 J gU) ?_;refine B0 ?_;refine C1 ?_
      repeat(first|refine tR ?_|refine bR ?_)
      refine C5 J ?_ O
      (rw[hh]; rfl)
     ·try simp only [nn,B3,D3,nq] at hc5
      have he : dclE n.roles ((H0 n).take i) ((H0 n).getD i [],o)=0:=by
       rw[dclE,if_neg n1,if_neg n2,if_neg n3]
       split at ho
       ·rename_i q
        have hr:=(Cd n.roles (n.fresh.getD (i - n.roles.length) default).role).1 (by omega)
        rw[ho]; exact if_pos hr
       ·rw[ho]
      have hh:=Gv hx he
      rw[hd] at hh
      refine C0 ?_;refine A6 ?_;refine A5 J J J (A7 J gU) ?_;refine A5 J J J (D0 J J gU gU J (IntWalk.i64_in _ (by omega))) ?_;refine A5 J J J (A9 J gU) ?_;refine B0 ?_;refine ⟨i + 1,?_,?_,B4 (⟨⟨_,rfl,?_⟩,⟨U J,U J,O⟩⟩) (⟨U J,O⟩) O⟩
      all_goals (first|rfl|omega|exact ⟨by omega,by rw[I0 (d:=[]) hlt]; exact hh.symm⟩)
 ·try simp only [nn,B3,D3,nq] at hc
  rw[List.drop_of_length_le (by have := congrArg List.length (Hx n); rw[List.length_map] at this; omega)] at hd
  refine E2 ?_
  repeat(first|refine D5 ?_|refine D6 ?_|refine D2 J ?_)
  refine A8 (A6 ?_);refine A5 J J J (A9 J gU) ?_;refine B0 ?_;refine C1 ?_
  repeat(first|refine tR ?_|refine bR ?_)
  refine C5 J ?_ O
  (rw[← hd]; rfl)
set_option maxHeartbeats 4000000 in
theorem Qd (n : Nar) (hs : ∀ s ∈ n.steps,s.msg.size≤900000) (hg : ∀ g ∈ n.goals,T.sizes g.data≤900000) : Ctr sys 14 [xn n] [] (xii (chkE E4 n)) none []:=by
 have l5:=Sp.rows_len n.steps
 have l6:=Gl.rows_len n.goals
 refine D1 Tryz.func14 J J J J J J ?_;refine A8 (A6 ?_);refine C3 J (D8 J J J J) ?_;refine A5 J J J (A9 J gU) ?_;refine A5 J J J (A9 J gU) ?_;refine B0 ?_;refine A8 ?_;refine A8 (A6 ?_);refine A5 J J J (B8 J gU J J J J J) ?_;refine C8 J J J J J J gU gU (Fu _ hs hg) J ?_;refine A5 J J J (A9 J gU) ?_;refine B0 ?_;refine B5 (s:=⟨[(1,_,_),(4,_,_)],[(.l 1,_)],[],[]⟩) (B4 (⟨U J,U J,O⟩) (⟨U J,O⟩) O) ?_;refine A8 (A6 ?_);refine A5 J J J (A7 J gU) ?_;refine A5 J J J (B7 J J gU gU J) ?_;refine B0 ?_;refine B9 J (fun hc=>?_) (fun hc=>?_)
 ·try simp only [nn,B3,D3,nq] at hc
  refine A8 (A6 ?_);refine A5 J J J (A7 J gU) ?_;refine A5 J J J (A9 J gU) ?_;refine A5 J J J (A9 J gU) ?_;refine B0 ?_;refine C1 ?_
  repeat(first|refine tR ?_|refine bR ?_)
  refine C5 J ?_ O
  (rw[chkE,if_pos hc]; rfl)
 ·try simp only [nn,B3,D3,nq] at hc
  have hok:=Mh (n:=n) hc
  have b1 : n.roles.length≤900000 := by have := hok.r2; omega
  have b2 : n.fresh.length≤900000 := by have := hok.f2; omega
  have b3 : n.tags.length≤900000 := by have := hok.t2; omega
  have e1 : chkE E4 n=if decE n≠0 then (0,decE n) else useE n:=by rw[chkE,if_neg (by simpa using hc)]
  rw[e1]
  refine C0 ?_;refine A8 ?_;refine A8 (A6 ?_);refine A5 J J J (B8 J gU J J J J J) ?_;refine C8 J J J J J J gU gU (Iw n b1 b2 b3) J ?_;refine A5 J J J (A9 J gU) ?_;refine B0 ?_;refine B5 (s:=⟨[(1,_,_),(5,_,_)],[(.l 1,_)],[],[]⟩) (B4 (⟨U J,U J,O⟩) (⟨U J,O⟩) O) ?_;refine A8 (A6 ?_);refine A5 J J J (A7 J gU) ?_;refine A5 J J J (B7 J J gU gU J) ?_;refine B0 ?_;refine B9 J (fun hc2=>?_) (fun hc2=>?_)
  ·try simp only [nn,B3,D3,nq] at hc2
   refine A8 (A6 ?_);refine A5 J J J (A7 J gU) ?_;refine A5 J J J (A9 J gU) ?_;refine A5 J J J (A9 J gU) ?_;refine B0 ?_;refine C1 ?_
   repeat(first|refine tR ?_|refine bR ?_)
   refine C5 J ?_ O
   (rw[if_pos hc2]; rfl)
  ·try simp only [nn,B3,D3,nq] at hc2
   rw[if_neg (by simpa using hc2)]
   refine C0 ?_;refine A8 ?_;refine A8 (A6 ?_);refine A5 J J J (A9 J gU) ?_;refine B0 ?_;refine C4 ?_;refine F3 (ι:=Nat) { t:=[(1,_,_)],bx:=[(.l 1,_)],ow:=[] } (fun k=>[(6,true,xi (k : Int))]) (fun k=>[]) (fun k=>k≤n.steps.length ∧ ∀ j,j < k→T9 n (n.steps.getD j default)=0) (fun k=>n.steps.length - k) (0) (⟨by omega,fun j hj=>by omega⟩) (B4 (⟨U J,U J,O⟩) (⟨U J,O⟩) O) ?_
   intro k hoka
   dsimp only [List.cons_append,List.nil_append]
   obtain ⟨hk,hi⟩:=hoka
   refine A8 ?_;refine A8 (A6 ?_);refine A5 J J J (A7 J gU) ?_;refine A5 J J J (B1 J gU J J) ?_;refine A5 J J J (B2 J gU J J J J) ?_;refine D9 J J J J J gU J J ?_ (fun hh=>by simp at hh); intro hlen;refine A5 J J J (B7 J J gU gU J) ?_;refine B0 ?_;refine B5 (s:=⟨[(1,_,_),(6,_,_),(24,_,_)],[(.l 1,_)],[],[]⟩) (B4 (⟨U J,U J,U J,O⟩) (⟨U J,O⟩) O) ?_;refine B9 J (fun hc3=>?_) (fun hc3=>?_)
   ·try simp only [nn,B3,D3,nq] at hc3
    have hlt : k < n.steps.length:=by omega
    have hks:=hs _ (J5 (d:=default) hlt)
    refine C0 ?_;refine A8 ?_;refine C4 ?_;refine A8 ?_;refine awp_drawn' (by kernel_rfl) ?_;refine D7 J J J J J J J gU J J J J J ?_;refine B6 J J J J (B1 J gU J J) ?_;refine G5 J J J J J J J gU J J J J ?_;refine B6 J J J J (A7 J gU) ?_;refine B6 J J J J (C2 J J gU gU J J J (fun hh=>Sp.rows_at (by first|omega|(simp at hh ⊢; omega)))) ?_;refine B6 J J J J (D4 J gU J J J J) ?_;refine E7 J J J J J J J gU gU (Mo n (n.steps.getD k default) b1 b2 b3 hks) J ?_;refine B6 J J J J (A9 J gU) ?_;refine F9 (by kernel_rfl) ?_;refine B5 (s:=⟨[(1,_,_),(6,_,_),(7,_,_)],[(.l 1,_)],[],[]⟩) (B4 (⟨U J,U J,U J,O⟩) (⟨U J,O⟩) O) ?_;refine A8 (A6 ?_);refine A5 J J J (A7 J gU) ?_;refine A5 J J J (B7 J J gU gU J) ?_;refine B0 ?_;refine B9 J (fun hc4=>?_) (fun hc4=>?_)
    ·try simp only [nn,B3,D3,nq] at hc4
     have hh:=Gr (ln:=Sp.line) hlt hi hc4
     have hu : useE n=((n.steps.getD k default).line,T9 n (n.steps.getD k default)):=by rw[useE,if_pos (by rw[hh]; exact hc4),hh]
     rw[hu]
     refine A8 (A6 ?_);refine A5 J J J (B1 J gU J J) ?_;refine A5 J J J (B2 J gU J J J J) ?_;refine A5 J J J (A7 J gU) ?_;refine A5 J J J (C2 J J gU gU J J J (fun hh=>Sp.rows_at (by first|omega|(simp at hh ⊢; omega)))) ?_;refine A5 J J J (F1 J gU J J) ?_;refine A5 J J J (E3 J gU J J J) ?_;refine A5 J J J (A7 J gU) ?_;refine A5 J J J (A9 J gU) ?_;refine A5 J J J (A9 J gU) ?_;refine B0 ?_;refine C1 ?_
     repeat(first|refine tR ?_|refine bR ?_)
     refine C5 J ?_ O
     rfl
    ·try simp only [nn,B3,D3,nq] at hc4
     refine C0 ?_;refine A6 ?_;refine A5 J J J (A7 J gU) ?_;refine A5 J J J (D0 J J gU gU J (IntWalk.i64_in _ (by omega))) ?_;refine A5 J J J (A9 J gU) ?_;refine B0 ?_;refine ⟨k + 1,?_,?_,B4 (⟨⟨_,rfl,?_⟩,⟨U J,O⟩⟩) (⟨U J,O⟩) O⟩
     all_goals (first|rfl|omega|exact ⟨by omega,Q2 hi hc4⟩)
   ·try simp only [nn,B3,D3,nq] at hc3
    have hke : k=n.steps.length:=by omega
    subst hke
    have hus : useE n=lnE (P6 n) Gl.line n.goals:=by rw[useE,if_neg (by rw[Dp (ln:=Sp.line) hi]; simp)]
    rw[hus]
    refine E2 ?_
    repeat(first|refine D5 ?_|refine D6 ?_|refine D2 J ?_)
    refine A8 ?_;refine A8 (A6 ?_);refine A5 J J J (A9 J gU) ?_;refine B0 ?_;refine C4 ?_;refine F3 (ι:=Nat) { t:=[(1,_,_)],bx:=[(.l 1,_)],ow:=[] } (fun j=>[(8,true,xi (j : Int))]) (fun j=>[]) (fun j=>j≤n.goals.length ∧ ∀ i,i < j→P6 n (n.goals.getD i default)=0) (fun j=>n.goals.length - j) (0) (⟨by omega,fun j hj=>by omega⟩) (B4 (⟨U J,U J,O⟩) (⟨U J,O⟩) O) ?_
    intro j hokb
    dsimp only [List.cons_append,List.nil_append]
    obtain ⟨hj,hi2⟩:=hokb
    refine A8 ?_;refine A8 (A6 ?_);refine A5 J J J (A7 J gU) ?_;refine A5 J J J (B1 J gU J J) ?_;refine A5 J J J (B2 J gU J J J J) ?_;refine D9 J J J J J gU J J ?_ (fun hh=>by simp at hh); intro hlen;refine A5 J J J (B7 J J gU gU J) ?_;refine B0 ?_;refine B5 (s:=⟨[(1,_,_),(8,_,_),(47,_,_)],[(.l 1,_)],[],[]⟩) (B4 (⟨U J,U J,U J,O⟩) (⟨U J,O⟩) O) ?_;refine B9 J (fun hc4=>?_) (fun hc4=>?_)
    ·try simp only [nn,B3,D3,nq] at hc4
     have hlt : j < n.goals.length:=by omega
     have hks:=hg _ (J5 (d:=default) hlt)
     refine C0 ?_;refine A8 ?_;refine C4 ?_;refine A8 ?_;refine awp_drawn' (by kernel_rfl) ?_;refine D7 J J J J J J J gU J J J J J ?_;refine B6 J J J J (B1 J gU J J) ?_;refine G5 J J J J J J J gU J J J J ?_;refine B6 J J J J (A7 J gU) ?_;refine B6 J J J J (C2 J J gU gU J J J (fun hh=>Gl.rows_at (by first|omega|(simp at hh ⊢; omega)))) ?_;refine B6 J J J J (D4 J gU J J J J) ?_;refine E7 J J J J J J J gU gU (Nf n (n.goals.getD j default) b1 b2 b3 hks) J ?_;refine B6 J J J J (A9 J gU) ?_;refine F9 (by kernel_rfl) ?_;refine B5 (s:=⟨[(1,_,_),(8,_,_),(9,_,_)],[(.l 1,_)],[],[]⟩) (B4 (⟨U J,U J,U J,O⟩) (⟨U J,O⟩) O) ?_;refine A8 (A6 ?_);refine A5 J J J (A7 J gU) ?_;refine A5 J J J (B7 J J gU gU J) ?_;refine B0 ?_;refine B9 J (fun hc5=>?_) (fun hc5=>?_)
     ·try simp only [nn,B3,D3,nq] at hc5
      rw[Gr (ln:=Gl.line) hlt hi2 hc5]
      refine A8 (A6 ?_);refine A5 J J J (B1 J gU J J) ?_;refine A5 J J J (B2 J gU J J J J) ?_;refine A5 J J J (A7 J gU) ?_;refine A5 J J J (C2 J J gU gU J J J (fun hh=>Gl.rows_at (by first|omega|(simp at hh ⊢; omega)))) ?_;refine A5 J J J (F1 J gU J J) ?_;refine A5 J J J (E3 J gU J J J) ?_;refine A5 J J J (A7 J gU) ?_;refine A5 J J J (A9 J gU) ?_;refine A5 J J J (A9 J gU) ?_;refine B0 ?_;refine C1 ?_
      repeat(first|refine tR ?_|refine bR ?_)
      refine C5 J ?_ O
      rfl
     ·try simp only [nn,B3,D3,nq] at hc5
      refine C0 ?_;refine A6 ?_;refine A5 J J J (A7 J gU) ?_;refine A5 J J J (D0 J J gU gU J (IntWalk.i64_in _ (by omega))) ?_;refine A5 J J J (A9 J gU) ?_;refine B0 ?_;refine ⟨j + 1,?_,?_,B4 (⟨⟨_,rfl,?_⟩,⟨U J,O⟩⟩) (⟨U J,O⟩) O⟩
      all_goals (first|rfl|omega|exact ⟨by omega,Q2 hi2 hc5⟩)
    ·try simp only [nn,B3,D3,nq] at hc4
     have hje : j=n.goals.length:=by omega
     subst hje
     rw[Dp (ln:=Gl.line) hi2]
     refine E2 ?_
     repeat(first|refine D5 ?_|refine D6 ?_|refine D2 J ?_)
     refine A8 (A6 ?_);refine A5 J J J (A9 J gU) ?_;refine A5 J J J (A9 J gU) ?_;refine B0 ?_;refine C1 ?_
     repeat(first|refine tR ?_|refine bR ?_)
     refine C5 J ?_ O
     rfl
namespace T
def cmp0 (a b : T) : Int :=
 if M1 a.size b.size≠0 then M1 a.size b.size else if M1 a.kind b.kind≠0 then M1 a.kind b.kind
 else if Op.bytesLess a.name b.name=true then -1 else if (!(Op.bytesLess a.name b.name || a.name == b.name))=true then 1
 else if M1 a.sort b.sort≠0 then M1 a.sort b.sort else M1 a.kids.length b.kids.length
mutual
def cmp : T→T→Int
 | mk k n s ks,b=>if cmp0 (mk k n s ks) b≠0 then cmp0 (mk k n s ks) b else cmps ks b.kids
def cmps : List T→List T→Int
 | [],_=>0
 | _ :: _,[]=>0
 | x :: xs,y :: ys=>if cmp x y≠0 then cmp x y else cmps xs ys
end
theorem cmp_eq (a b : T) : a.cmp b=if cmp0 a b≠0 then cmp0 a b else cmps a.kids b.kids:=by cases a; rw[cmp]; rfl
theorem cmps_hit : ∀ (a b : List T) (k : Nat) (x y : T),a[k]? = some x→b[k]? = some y→cmps (a.take k) (b.take k)=0→x.cmp y≠0→cmps a b=x.cmp y
 | [],b,k,x,y,h,_,_,_=>by simp at h
 | _ :: _,[],k,x,y,_,h,_,_=>by simp at h
 | a :: ar,b :: br,0,x,y,h,h',_,hx=>by simp at h h'; subst h; subst h'; rw[cmps,if_pos hx]
 | a :: ar,b :: br,k + 1,x,y,h,h',h0,hx=>by
  rw[List.take_succ_cons,List.take_succ_cons,cmps] at h0
  rw[cmps]
  by_cases ht : a.cmp b=0
  ·rw[if_neg (by simpa using ht)] at h0
   rw[if_neg (by simpa using ht)]
   exact cmps_hit ar br k x y (by simpa using h) (by simpa using h') h0 hx
  ·rw[if_pos ht] at h0; exact absurd h0 ht
theorem cmps_step : ∀ (a b : List T) (k : Nat) (x y : T),a[k]? = some x→b[k]? = some y→cmps (a.take k) (b.take k)=0→x.cmp y=0→cmps (a.take (k + 1)) (b.take (k + 1))=0
 | [],b,k,x,y,h,_,_,_=>by simp at h
 | _ :: _,[],k,x,y,_,h,_,_=>by simp at h
 | a :: ar,b :: br,0,x,y,h,h',_,hx=>by simp at h h'; subst h; subst h'; simp [cmps,hx]
 | a :: ar,b :: br,k + 1,x,y,h,h',h0,hx=>by
  rw[List.take_succ_cons,List.take_succ_cons,cmps] at h0
  rw[List.take_succ_cons,List.take_succ_cons,cmps]
  by_cases ht : a.cmp b=0
  ·rw[if_neg (by simpa using ht)] at h0
   rw[if_neg (by simpa using ht)]
   exact cmps_step ar br k x y (by simpa using h) (by simpa using h') h0 hx
  ·rw[if_pos ht] at h0; exact absurd h0 ht
end T
theorem Pf {a b : Int} (h : M1 a b=0) : a=b:=by
 unfold M1 at h; split at h
 ·omega
 ·split at h <;> omega
def uCa (a b : T) (k : Nat) : St:={ t:=[(2,true, .v (.ptr (.l 2) 0)),(3,true, .v (.ptr (.l 3) 0)),(9,true,xi k)],bx:=[(.l 2,a.cells),(.l 3,b.cells)],ow:=[] }
theorem Nb : ∀ (n : Nat) (a b : T),a.size≤n→n≤2000000→b.size≤2000000→Ctr sys 89 [xm a,xm b] [] (xi (a.cmp b)) none []:=by
 intro n
 induction n with
 | zero=>intro t _ h; have := t.size_pos; omega
 | succ n ih =>
  intro a b ha hn hb
  have hls:=T.len_sizes a.kids
  have hse:=a.size_eq
  refine D1 Tryz.func89 J J J J J J ?_;refine A8 (A6 ?_);refine C3 J (D8 J J J J) ?_;refine C3 J (D8 J J J J) ?_;refine A5 J J J (A9 J gU) ?_;refine B0 ?_;refine A8 ?_;refine A8 ?_;refine awp_drawn' (by kernel_rfl) ?_;refine D7 J J J J J J J gU J J J J J ?_;refine E7 J J J J J J J gU gU (Ci _ a (Nat.le_refl _) (by omega)) J ?_;refine D7 J J J J J J J gU J J J J J ?_;refine E7 J J J J J J J gU gU (Ci _ b (Nat.le_refl _) hb) J ?_;refine E7 J J J J J J J gU gU (Cc _ _) J ?_;refine B6 J J J J (A9 J gU) ?_;refine F9 (by kernel_rfl) ?_;refine B5 (s:=⟨[(2,_,_),(3,_,_),(5,_,_)],[(.l 2,_),(.l 3,_)],[],[]⟩) (B4 (⟨U J,U J,U J,O⟩) (⟨U J,U J,O⟩) O) ?_;refine A8 (A6 ?_);refine A5 J J J (A7 J gU) ?_;refine A5 J J J (B7 J J gU gU J) ?_;refine B0 ?_;refine B9 J (fun hc=>?_) (fun hc=>?_)
  ·refine A8 (A6 ?_)
   refine A5 J J J (A7 J gU) ?_;refine A5 J J J (A9 J gU) ?_;refine B0 ?_;refine C1 ?_
   repeat(first|refine tR ?_|refine bR ?_)
   refine C5 J ?_ O;refine H2 ?_
   rw[T.cmp_eq]
   have h0 : T.cmp0 a b=M1 a.size b.size:=by rw[T.cmp0,if_pos (by simpa using hc)]
   rw[h0,if_pos (by simpa using hc)]
  ·have e1 : ¬ M1 (a.size : Int) (b.size : Int)≠0:=by simpa using hc
   refine C0 ?_;refine A8 ?_;refine A8 (A6 ?_);refine A5 J J J (B1 J gU J J) ?_;refine A5 J J J (B2 J gU J J J J) ?_;refine A5 J J J (B1 J gU J J) ?_;refine A5 J J J (B2 J gU J J J J) ?_;refine C8 J J J J J J gU gU (Cc _ _) J ?_;refine A5 J J J (A9 J gU) ?_;refine B0 ?_;refine B5 (s:=⟨[(2,_,_),(3,_,_),(6,_,_)],[(.l 2,_),(.l 3,_)],[],[]⟩) (B4 (⟨U J,U J,U J,O⟩) (⟨U J,U J,O⟩) O) ?_;refine A8 (A6 ?_);refine A5 J J J (A7 J gU) ?_;refine A5 J J J (B7 J J gU gU J) ?_;refine B0 ?_;refine B9 J (fun hc2=>?_) (fun hc2=>?_)
   ·refine A8 (A6 ?_)
    refine A5 J J J (A7 J gU) ?_;refine A5 J J J (A9 J gU) ?_;refine B0 ?_;refine C1 ?_
    repeat(first|refine tR ?_|refine bR ?_)
    refine C5 J ?_ O;refine H2 ?_
    have h0 : T.cmp0 a b=M1 a.kind b.kind:=by rw[T.cmp0,if_neg e1,if_pos (by simpa using hc2)]
    rw[T.cmp_eq,h0,if_pos (by simpa using hc2)]
   ·have e2 : ¬ M1 a.kind b.kind≠0:=by simpa using hc2
    refine C0 ?_;refine A8 ?_;refine A8 (A6 ?_);refine A5 J J J (B1 J gU J J) ?_;refine A5 J J J (B2 J gU J J J J) ?_;refine A5 J J J (B1 J gU J J) ?_;refine A5 J J J (B2 J gU J J J J) ?_;refine A5 J J J (G0 J J gU gU J) ?_;refine B0 ?_;refine B5 (s:=⟨[(2,_,_),(3,_,_),(31,_,_)],[(.l 2,_),(.l 3,_)],[],[]⟩) (B4 (⟨U J,U J,U J,O⟩) (⟨U J,U J,O⟩) O) ?_;refine B9 J (fun hc3=>?_) (fun hc3=>?_)
    ·refine A8 (A6 ?_)
     refine A5 J J J (A9 J gU) ?_;refine B0 ?_;refine C1 ?_
     repeat(first|refine tR ?_|refine bR ?_)
     refine C5 J ?_ O;refine H2 ?_
     have h0 : T.cmp0 a b = -1:=by rw[T.cmp0,if_neg e1,if_neg e2,if_pos hc3]
     rw[T.cmp_eq,h0]; rfl
    ·refine C0 ?_
     refine A8 ?_;refine A8 (A6 ?_);refine A5 J J J (B1 J gU J J) ?_;refine A5 J J J (B2 J gU J J J J) ?_;refine A5 J J J (B1 J gU J J) ?_;refine A5 J J J (B2 J gU J J J J) ?_;refine A5 J J J (G0 J J gU gU J) ?_;refine B0 ?_;refine B5 (s:=⟨[(2,_,_),(3,_,_),(36,_,_)],[(.l 2,_),(.l 3,_)],[],[]⟩) (B4 (⟨U J,U J,U J,O⟩) (⟨U J,U J,O⟩) O) ?_;refine B9 J (fun hc4=>?_) (fun hc4=>?_)
     ·refine A8 (A6 ?_)
      refine A5 J J J (A9 J gU) ?_;refine B0 ?_;refine C1 ?_
      repeat(first|refine tR ?_|refine bR ?_)
      refine C5 J ?_ O;refine H2 ?_
      have h0 : T.cmp0 a b=1:=by rw[T.cmp0,if_neg e1,if_neg e2,if_neg (by rw[hc3]; simp),if_pos hc4]
      rw[T.cmp_eq,h0]; rfl
     ·refine C0 ?_
      refine A8 ?_;refine A8 (A6 ?_);refine A5 J J J (B1 J gU J J) ?_;refine A5 J J J (B2 J gU J J J J) ?_;refine A5 J J J (B1 J gU J J) ?_;refine A5 J J J (B2 J gU J J J J) ?_;refine C8 J J J J J J gU gU (Cc _ _) J ?_;refine A5 J J J (A9 J gU) ?_;refine B0 ?_;refine B5 (s:=⟨[(2,_,_),(3,_,_),(7,_,_)],[(.l 2,_),(.l 3,_)],[],[]⟩) (B4 (⟨U J,U J,U J,O⟩) (⟨U J,U J,O⟩) O) ?_;refine A8 (A6 ?_);refine A5 J J J (A7 J gU) ?_;refine A5 J J J (B7 J J gU gU J) ?_;refine B0 ?_;refine B9 J (fun hc5=>?_) (fun hc5=>?_)
      ·refine A8 (A6 ?_)
       refine A5 J J J (A7 J gU) ?_;refine A5 J J J (A9 J gU) ?_;refine B0 ?_;refine C1 ?_
       repeat(first|refine tR ?_|refine bR ?_)
       refine C5 J ?_ O;refine H2 ?_
       have h0 : T.cmp0 a b=M1 a.sort b.sort:=by rw[T.cmp0,if_neg e1,if_neg e2,if_neg (by rw[hc3]; simp),if_neg (by rw[hc4]; simp),if_pos (by simpa using hc5)]
       rw[T.cmp_eq,h0,if_pos (by simpa using hc5)]
      ·have e5 : ¬ M1 a.sort b.sort≠0:=by simpa using hc5
       have h0 : T.cmp0 a b=M1 a.kids.length b.kids.length:=by rw[T.cmp0,if_neg e1,if_neg e2,if_neg (by rw[hc3]; simp),if_neg (by rw[hc4]; simp),if_neg e5]
       refine C0 ?_;refine A8 ?_;refine A8 (A6 ?_);refine A5 J J J (B1 J gU J J) ?_;refine A5 J J J (B2 J gU J J J J) ?_;refine D9 J J J J J gU J J ?_ (fun hh=>by simp at hh); intro hlen;refine A5 J J J (B1 J gU J J) ?_;refine A5 J J J (B2 J gU J J J J) ?_;refine D9 J J J J J gU J J ?_ (fun hh=>by simp at hh); intro hlen;refine C8 J J J J J J gU gU (Cc _ _) J ?_;refine A5 J J J (A9 J gU) ?_;refine B0 ?_;refine B5 (s:=⟨[(2,_,_),(3,_,_),(8,_,_)],[(.l 2,_),(.l 3,_)],[],[]⟩) (B4 (⟨U J,U J,U J,O⟩) (⟨U J,U J,O⟩) O) ?_;refine A8 (A6 ?_);refine A5 J J J (A7 J gU) ?_;refine A5 J J J (B7 J J gU gU J) ?_;refine B0 ?_;refine B9 J (fun hc6=>?_) (fun hc6=>?_)
       ·refine A8 (A6 ?_)
        refine A5 J J J (A7 J gU) ?_;refine A5 J J J (A9 J gU) ?_;refine B0 ?_;refine C1 ?_
        repeat(first|refine tR ?_|refine bR ?_)
        refine C5 J ?_ O;refine H2 ?_
        simp only [T.rows_len] at hc6 ⊢
        rw[T.cmp_eq,h0,if_pos (by simpa using hc6)]
       ·simp only [T.rows_len] at hc6
        have e6 : M1 (a.kids.length : Int) (b.kids.length : Int)=0:=by simpa using hc6
        have hll:=Pf e6
        have hll' : a.kids.length=b.kids.length:=by omega
        have hC : a.cmp b=T.cmps a.kids b.kids:=by rw[T.cmp_eq,h0,if_neg (by simpa using e6)]
        refine C0 ?_;refine A8 ?_;refine A8 (A6 ?_);refine A5 J J J (A9 J gU) ?_;refine B0 ?_;refine C4 ?_;refine P3 (uCa a b) (fun k=>k≤a.kids.length∧T.cmps (a.kids.take k) (b.kids.take k)=0) (fun k=>a.kids.length - k) 0 ⟨Nat.zero_le _,by simp [T.cmps]⟩ ?_ ?_
        ·refine B4 ⟨⟨_,rfl,rfl⟩,⟨_,rfl,rfl⟩,⟨_,rfl,rfl⟩,O⟩ ⟨⟨_,rfl,rfl⟩,⟨_,rfl,rfl⟩,O⟩ O
        ·rintro k ⟨hk,hz⟩
         refine A8 ?_;refine A8 (A6 ?_);refine A5 J J J (A7 J gU) ?_;refine A5 J J J (B1 J gU J J) ?_;refine A5 J J J (B2 J gU J J J J) ?_;refine D9 J J J J J gU J J ?_ (fun hh=>by simp at hh); intro hlen;refine A5 J J J (B7 J J gU gU J) ?_;refine B0 ?_;refine B5 (s:=⟨[(2,_,_),(3,_,_),(9,_,_),(59,_,_)],[(.l 2,_),(.l 3,_)],[],[]⟩) (B4 (⟨U J,U J,U J,U J,O⟩) (⟨U J,U J,O⟩) O) ?_;refine B9 J (fun hc7=>?_) (fun hc7=>?_)
         ·rw[T.rows_len] at hc7
          have hlt : k < a.kids.length:=by simpa using hc7
          obtain ⟨x,hx⟩ : ∃ x,a.kids[k]? = some x:=⟨_,List.getElem?_eq_getElem hlt⟩
          obtain ⟨y,hy⟩ : ∃ y,b.kids[k]? = some y:=⟨_,List.getElem?_eq_getElem (by omega)⟩
          have q1:=T.size_kid hx
          have q2:=T.size_kid hy
          refine C0 ?_;refine A8 ?_;refine C4 ?_;refine A8 ?_;refine awp_drawn' (by kernel_rfl) ?_;refine B6 J J J J (B1 J gU J J) ?_;refine G5 J J J J J J J gU J J J J ?_;refine B6 J J J J (A7 J gU) ?_;refine B6 J J J J (C2 J J gU gU J J J (fun _=>T.rows_get hx)) ?_;refine B6 J J J J (D4 J gU J J J J) ?_;refine B6 J J J J (B1 J gU J J) ?_;refine G5 J J J J J J J gU J J J J ?_;refine B6 J J J J (A7 J gU) ?_;refine B6 J J J J (C2 J J gU gU J J J (fun _=>T.rows_get hy)) ?_;refine B6 J J J J (D4 J gU J J J J) ?_;refine E7 J J J J J J J gU gU (ih x y (by omega) (by omega) (by omega)) J ?_;refine B6 J J J J (A9 J gU) ?_;refine F9 (by kernel_rfl) ?_;refine B5 (s:=⟨[(2,_,_),(3,_,_),(9,_,_),(10,_,_)],[(.l 2,_),(.l 3,_)],[],[]⟩) (B4 (⟨U J,U J,U J,U J,O⟩) (⟨U J,U J,O⟩) O) ?_;refine A8 (A6 ?_);refine A5 J J J (A7 J gU) ?_;refine A5 J J J (B7 J J gU gU J) ?_;refine B0 ?_;refine B9 J (fun hc8=>?_) (fun hc8=>?_)
          ·refine A8 (A6 ?_)
           refine A5 J J J (A7 J gU) ?_;refine A5 J J J (A9 J gU) ?_;refine B0 ?_;refine C1 ?_
           repeat(first|refine tR ?_|refine bR ?_)
           refine C5 J ?_ O;exact H2 (by rw[hC,T.cmps_hit _ _ _ _ _ hx hy hz (by simpa using hc8)])
          ·refine C0 ?_
           refine A6 ?_;refine A5 J J J (A7 J gU) ?_;refine A5 J J J (D0 J J gU gU J (IntWalk.i64_in _ (by omega))) ?_;refine A5 J J J (A9 J gU) ?_;refine B0 ?_;refine ⟨k + 1,⟨by omega,T.cmps_step _ _ _ _ _ hx hy hz (by simpa using hc8)⟩,by omega,?_⟩;refine B4 ⟨⟨_,rfl,rfl⟩,⟨_,rfl,rfl⟩,⟨_,rfl,rfl⟩,O⟩ ⟨⟨_,rfl,rfl⟩,⟨_,rfl,rfl⟩,O⟩ O
         ·refine E2 ?_
          repeat(first|refine D5 ?_|refine D6 ?_|refine D2 J ?_)
          refine A8 (A6 ?_);refine A5 J J J (A9 J gU) ?_;refine B0 ?_;refine C1 ?_
          repeat(first|refine tR ?_|refine bR ?_)
          refine C5 J ?_ O
          rw[T.rows_len] at hc7
          have hke : k=a.kids.length:=by simp at hc7; omega
          subst hke
          rw[List.take_length,hll',List.take_length] at hz
          exact H2 (by rw[hC,hz])
theorem Lj (a b : T) (ha : a.size≤2000000) (hb : b.size≤2000000) : Ctr sys 54 [xm a,xm b] [] (xb (a.cmp b == 0)) none []:=by
 refine D1 Tryz.func54 J J J J J J ?_;refine A8 (A6 ?_);refine C3 J (D8 J J J J) ?_;refine C3 J (D8 J J J J) ?_;refine A5 J J J (A9 J gU) ?_;refine B0 ?_;refine A8 (A6 ?_);refine A5 J J J (B8 J gU J J J J J) ?_;refine A5 J J J (B8 J gU J J J J J) ?_;refine C8 J J J J J J gU gU (Nb _ a b (Nat.le_refl _) ha hb) J ?_;refine A5 J J J (B7 J J gU gU J) ?_;refine A5 J J J (A9 J gU) ?_;refine B0 ?_;refine C1 ?_
 repeat(first|refine tR ?_|refine bR ?_)
 refine C5 J ?_ O
 rfl
end Go.Proofs.YteidahabkfgfjaaGreat
namespace Go.Proofs.YteidahabkfgfjaaGreat
open Go Go.Abs
def Er (a b : List T) : Bool:=decide (a.length=b.length) && (T.cmps a b == 0)
def uBF (a b : List T) (k : Nat) : St:={ t:=[(0,true,xl a),(1,true,xl b),(5,true,xi k)],bx:=[],ow:=[] }
theorem Su (a b : List T) (ha : T.sizes a≤2000000) (hb : T.sizes b≤2000000) : Ctr sys 22 [xl a,xl b] [] (xb (Er a b)) none []:=by
 have hls:=T.len_sizes a
 refine D1 Tryz.func22 J J J J J J ?_;refine A8 (A6 ?_);refine A5 J J J (A9 J gU) ?_;refine B0 ?_;refine A8 ?_;refine A8 (A6 ?_);refine A5 J J J (A7 J gU) ?_;refine D9 J J J J J gU J J ?_ (fun hh=>by simp at hh); intro hlen;refine A5 J J J (A7 J gU) ?_;refine D9 J J J J J gU J J ?_ (fun hh=>by simp at hh); intro hlen;refine A5 J J J (B7 J J gU gU J) ?_;refine B0 ?_;refine B5 (s:=⟨[(0,_,_),(1,_,_),(10,_,_)],[],[],[]⟩) (B4 (⟨U J,U J,U J,O⟩) O O) ?_;refine B9 J (fun hc=>?_) (fun hc=>?_)
 ·refine A8 (A6 ?_)
  refine A5 J J J (A9 J gU) ?_;refine B0 ?_;refine C1 ?_
  repeat(first|refine tR ?_|refine bR ?_)
  refine C5 J ?_ O;refine M0 ?_
  simp only [T.rows_len,bne_iff_ne,ne_eq] at hc
  have : ¬ a.length=b.length:=by omega
  simp [Er,this]
 ·simp only [T.rows_len,bne_eq_false_iff_eq] at hc
  have hll : a.length=b.length:=by omega
  refine C0 ?_;refine A8 ?_;refine A8 (A6 ?_);refine A5 J J J (A9 J gU) ?_;refine B0 ?_;refine C4 ?_;refine P3 (uBF a b) (fun k=>k≤a.length∧T.cmps (a.take k) (b.take k)=0) (fun k=>a.length - k) 0 ⟨Nat.zero_le _,by simp [T.cmps]⟩ ?_ ?_
  ·refine B4 ⟨⟨_,rfl,rfl⟩,⟨_,rfl,rfl⟩,⟨_,rfl,rfl⟩,O⟩ O O
  ·rintro k ⟨hk,hz⟩
   refine A8 ?_;refine A8 (A6 ?_);refine A5 J J J (A7 J gU) ?_;refine A5 J J J (A7 J gU) ?_;refine D9 J J J J J gU J J ?_ (fun hh=>by simp at hh); intro hlen;refine A5 J J J (B7 J J gU gU J) ?_;refine B0 ?_;refine B9 J (fun hc7=>?_) (fun hc7=>?_)
   ·rw[T.rows_len] at hc7
    have hlt : k < a.length:=by simpa using hc7
    obtain ⟨x,hx⟩ : ∃ x,a[k]? = some x:=⟨_,List.getElem?_eq_getElem hlt⟩
    obtain ⟨y,hy⟩ : ∃ y,b[k]? = some y:=⟨_,List.getElem?_eq_getElem (by omega)⟩
    have q1:=Qe _ _ _ hx
    have q2:=Qe _ _ _ hy
    refine C0 ?_;refine A8 ?_;refine C4 ?_;refine A8 ?_;refine awp_drawn' (by kernel_rfl) ?_;refine B6 J J J J (A7 J gU) ?_;refine B6 J J J J (A7 J gU) ?_;refine B6 J J J J (C2 J J gU gU J J J (fun _=>T.rows_get hx)) ?_;refine B6 J J J J (D4 J gU J J J J) ?_;refine B6 J J J J (A7 J gU) ?_;refine B6 J J J J (A7 J gU) ?_;refine B6 J J J J (C2 J J gU gU J J J (fun _=>T.rows_get hy)) ?_;refine B6 J J J J (D4 J gU J J J J) ?_;refine E7 J J J J J J J gU gU (Lj x y (by omega) (by omega)) J ?_;refine B6 J J J J (F8 J gU) ?_;refine F9 (by kernel_rfl) ?_;refine B5 (s:=⟨[(0,_,_),(1,_,_),(5,_,_),(26,_,_)],[],[],[]⟩) (B4 (⟨U J,U J,U J,U J,O⟩) O O) ?_;refine B9 J (fun hc8=>?_) (fun hc8=>?_)
    ·refine A8 (A6 ?_)
     refine A5 J J J (A9 J gU) ?_;refine B0 ?_;refine C1 ?_
     repeat(first|refine tR ?_|refine bR ?_)
     refine C5 J ?_ O
     have hne : x.cmp y≠0:=by simpa using hc8
     refine M0 ?_
     rw[Er,T.cmps_hit _ _ _ _ _ hx hy hz hne]
     simp [hne]
    ·refine C0 ?_
     refine A6 ?_;refine A5 J J J (A7 J gU) ?_;refine A5 J J J (D0 J J gU gU J (IntWalk.i64_in _ (by omega))) ?_;refine A5 J J J (A9 J gU) ?_;refine B0 ?_;refine ⟨k + 1,⟨by omega,T.cmps_step _ _ _ _ _ hx hy hz (by simpa using hc8)⟩,by omega,?_⟩;refine B4 ⟨⟨_,rfl,rfl⟩,⟨_,rfl,rfl⟩,⟨_,rfl,rfl⟩,O⟩ O O
   ·refine E2 ?_
    repeat(first|refine D5 ?_|refine D6 ?_|refine D2 J ?_)
    refine A8 (A6 ?_);refine A5 J J J (A9 J gU) ?_;refine B0 ?_;refine C1 ?_
    repeat(first|refine tR ?_|refine bR ?_)
    refine C5 J ?_ O
    rw[T.rows_len] at hc7
    have hke : k=a.length:=by simp at hc7; omega
    subst hke
    rw[List.take_length,hll,List.take_length] at hz
    refine M0 ?_
    simp [Er,hll,hz]
theorem el_inj {n n' : Nar} : n.el=n'.el ↔ n.name=n'.name∧n.roles=n'.roles∧n.fresh=n'.fresh∧n.tags=n'.tags∧n.steps.map Sp.el=n'.steps.map Sp.el∧n.goals.map Gl.el=n'.goals.map Gl.el:=by
 cases n; cases n'
 simp [Nar.el]
theorem map_none {α β : Type} (f : Itm→List β) (g : α→Itm) (hf : ∀ x,f (g x)=[]) (l : List α) : (l.map g).flatMap f=[]:=by
 rw[List.flatMap_eq_nil_iff]
 intro i hi
 obtain ⟨x,_,rfl⟩:=List.mem_map.1 hi
 exact hf x
theorem Fv : ∀ (l : List UInt8),Op.bytesLess l l=false
 | []=>rfl
 | x :: xs=>by
  have := Fv xs
  simp [Op.bytesLess,this]
theorem Nx (a : Int) : M1 a a=0:=by simp [M1]
mutual
theorem T.cmp_self : ∀ a : T,a.cmp a=0
 | .mk k n s ks=>by
  have h0 : T.cmp0 (.mk k n s ks) (.mk k n s ks)=0:=by simp [T.cmp0,Nx,Fv]
  rw[T.cmp,if_neg (by simp [h0])]
  exact T.cmps_self ks
theorem T.cmps_self : ∀ l : List T,T.cmps l l=0
 | []=>rfl
 | x :: xs=>by
  rw[T.cmps,if_neg (by simp [T.cmp_self x])]
  exact T.cmps_self xs
end
theorem Fm (a b : List Int) (h : a=b) : Ctr sys 15 [xis a,xis b] [] (xb true) none []:=by
 have la:=D3 a
 have lb:=D3 b
 have hl : a.length=b.length:=by rw[h]
 refine D1 Tryz.func15 J J J J J J ?_;refine A8 (A6 ?_);refine A5 J J J (A9 J gU) ?_;refine B0 ?_;refine A8 ?_;refine A8 (A6 ?_);refine A5 J J J (A7 J gU) ?_;refine D9 J J J J J gU J J ?_ (fun hh=>by simp at hh); intro hlen;refine A5 J J J (A7 J gU) ?_;refine D9 J J J J J gU J J ?_ (fun hh=>by simp at hh); intro hlen;refine A5 J J J (B7 J J gU gU J) ?_;refine B0 ?_;refine B5 (s:=⟨[(0,_,_),(1,_,_),(10,_,_)],[],[],[]⟩) (B4 (⟨U J,U J,U J,O⟩) O O) ?_;refine B9 J (fun hc=>?_) (fun hc=>?_)
 ·try simp only [nn,D3] at hc
  exact absurd (by omega) hc
 ·try simp only [nn,D3] at hc
  refine C0 ?_;refine A8 ?_;refine A8 (A6 ?_);refine A5 J J J (A7 J gU) ?_;refine D9 J J J J J gU J J ?_ (fun hh=>by simp at hh); intro hlen;refine A5 J J J (A7 J gU) ?_;refine B0 ?_;refine C4 ?_;refine F3 (ι:=Nat) { t:=[(0,_,_),(1,_,_),(12,_,_)],bx:=[],ow:=[] } (fun k=>[(13,true,xi (k : Int))]) (fun k=>[]) (fun k=>k≤a.length) (fun k=>a.length - k) (0) (by simp) (B4 (⟨U J,U J,U J,U J,O⟩) O O) ?_
  intro k hok
  dsimp only [List.cons_append,List.nil_append]
  refine A8 (A6 ?_);refine A5 J J J (B7 J J gU gU J) ?_;refine B0 ?_;refine A8 ?_;refine B9 J (fun hc2=>?_) (fun hc2=>?_)
  ·try simp only [nn,D3] at hc2
   refine C0 ?_;refine A8 ?_;refine C4 ?_;refine A8 (A6 ?_);refine A5 J J J (A7 J gU) ?_;refine A5 J J J (A9 J gU) ?_;refine B0 ?_;refine A8 ?_;refine awp_drawn' (by kernel_rfl) ?_;refine B6 J J J J (A7 J gU) ?_;refine B6 J J J J (A7 J gU) ?_;refine B6 J J J J (C2 J J gU gU J J J (fun hh=>Me (by first|omega|(simp at hh ⊢; omega)))) ?_;refine B6 J J J J (E3 J gU J J J) ?_;refine B6 J J J J (A7 J gU) ?_;refine B6 J J J J (A7 J gU) ?_;refine B6 J J J J (C2 J J gU gU J J J (fun hh=>Me (by first|omega|(simp at hh ⊢; omega)))) ?_;refine B6 J J J J (E3 J gU J J J) ?_;refine B6 J J J J (B7 J J gU gU J) ?_;refine F9 (by kernel_rfl) ?_;refine B5 (s:=⟨[(0,_,_),(1,_,_),(12,_,_),(13,_,_),(24,_,_)],[],[],[]⟩) (B4 (⟨U J,U J,U J,U J,U J,O⟩) O O) ?_;refine B9 J (fun hc3=>?_) (fun hc3=>?_)
   ·try simp only [nn,D3] at hc3
    exact absurd (by rw[h]) hc3
   ·try simp only [nn,D3] at hc3
    refine C0 ?_;refine A6 ?_;refine A5 J J J (D0 J J gU gU J (IntWalk.i64_in _ (by omega))) ?_;refine A5 J J J (A7 J gU) ?_;refine B0 ?_;refine ⟨k + 1,?_,?_,B4 (⟨⟨_,rfl,?_⟩,⟨U J,U J,U J,O⟩⟩) O O⟩
    all_goals (first|rfl|omega)
  ·try simp only [nn,D3] at hc2
   refine E2 ?_
   repeat(first|refine D5 ?_|refine D6 ?_|refine D2 J ?_)
   refine A8 (A6 ?_);refine A5 J J J (A9 J gU) ?_;refine B0 ?_;refine C1 ?_
   repeat(first|refine tR ?_|refine bR ?_)
   refine C5 J ?_ O
   rfl
theorem Uv {α : Type} {f : α→α} {d : α} {a b : List α} (h : a.map f=b.map f) {k : Nat} (hk : k < a.length) : f (a.getD k d)=f (b.getD k d):=by
 have hl : a.length=b.length:=by simpa using congrArg List.length h
 have := congrArg (fun l=>l[k]?) h
 rw[List.getElem?_map,List.getElem?_map,List.getElem?_eq_getElem hk,List.getElem?_eq_getElem (hl ▸ hk)] at this
 rw[List.getD_eq_getElem?_getD,List.getD_eq_getElem?_getD,List.getElem?_eq_getElem hk,List.getElem?_eq_getElem (hl ▸ hk)]
 simpa using this
theorem Sl (a : List T) : Er a a=true:=by simp [Er,T.cmps_self]
theorem uAJ {l : List Gl} (h : ∀ g ∈ l,T.sizes g.data≤900000) {k : Nat} (hk : k < l.length) : T.sizes (l.getD k default).data≤900000:=by
 apply h
 rw[List.getD_eq_getElem?_getD,List.getElem?_eq_getElem hk]; exact List.getElem_mem _
theorem uAm {l : List Sp} (h : ∀ s ∈ l,s.msg.size≤900000) {k : Nat} (hk : k < l.length) : (l.getD k default).msg.size≤900000:=by
 apply h
 rw[List.getD_eq_getElem?_getD,List.getElem?_eq_getElem hk]; exact List.getElem_mem _
theorem Jm (a b : List Gl) (h : a.map Gl.el=b.map Gl.el) (ha : ∀ g ∈ a,T.sizes g.data≤900000) : Ctr sys 60 [.v (.c (.sl 5 (Gl.rows a))), .v (.c (.sl 5 (Gl.rows b)))] [] (xb true) none []:=by
 have la:=Gl.rows_len a
 have lb:=Gl.rows_len b
 have hl : a.length=b.length:=by simpa using congrArg List.length h
 refine D1 Tryz.func60 J J J J J J ?_;refine A8 (A6 ?_);refine A5 J J J (A9 J gU) ?_;refine B0 ?_;refine A8 ?_;refine A8 (A6 ?_);refine A5 J J J (A7 J gU) ?_;refine D9 J J J J J gU J J ?_ (fun hh=>by simp at hh); intro hlen;refine A5 J J J (A7 J gU) ?_;refine D9 J J J J J gU J J ?_ (fun hh=>by simp at hh); intro hlen;refine A5 J J J (B7 J J gU gU J) ?_;refine B0 ?_;refine B5 (s:=⟨[(0,_,_),(1,_,_),(10,_,_)],[],[],[]⟩) (B4 (⟨U J,U J,U J,O⟩) O O) ?_;refine B9 J (fun hc=>?_) (fun hc=>?_)
 ·try simp only [nn,B3,nq] at hc
  exact absurd (by omega) hc
 ·try simp only [nn,B3,nq] at hc
  refine C0 ?_;refine A8 ?_;refine A8 (A6 ?_);refine A5 J J J (A9 J gU) ?_;refine B0 ?_;refine C4 ?_;refine F3 (ι:=Nat) { t:=[(0,_,_),(1,_,_)],bx:=[],ow:=[] } (fun k=>[(5,true,xi (k : Int))]) (fun k=>[]) (fun k=>k≤a.length) (fun k=>a.length - k) (0) (by simp) (B4 (⟨U J,U J,U J,O⟩) O O) ?_
  intro k hok
  dsimp only [List.cons_append,List.nil_append]
  refine A8 ?_;refine A8 (A6 ?_);refine A5 J J J (A7 J gU) ?_;refine A5 J J J (A7 J gU) ?_;refine D9 J J J J J gU J J ?_ (fun hh=>by simp at hh); intro hlen;refine A5 J J J (B7 J J gU gU J) ?_;refine B0 ?_;refine B9 J (fun hc2=>?_) (fun hc2=>?_)
  ·try simp only [nn,B3,nq] at hc2
   have hlt : k < a.length:=by omega
   have e:=Uv (d:=default) h hlt
   have e1 : (a.getD k default).kind=(b.getD k default).kind:=(by have q:=congrArg Gl.kind e; exact q)
   have e2 : (a.getD k default).role=(b.getD k default).role:=(by have q:=congrArg Gl.role e; exact q)
   have e3 : (a.getD k default).wth=(b.getD k default).wth:=(by have q:=congrArg Gl.wth e; exact q)
   have e4 : (a.getD k default).data=(b.getD k default).data:=(by have q:=congrArg Gl.data e; exact q)
   have z1:=uAJ ha hlt
   have z2 : T.sizes (b.getD k default).data≤900000:=by rw[← e4]; exact z1
   refine C0 ?_;refine A8 ?_;refine C4 ?_;refine A8 ?_;refine awp_drawn' (by kernel_rfl) ?_;refine B6 J J J J (A7 J gU) ?_;refine B6 J J J J (A7 J gU) ?_;refine B6 J J J J (C2 J J gU gU J J J (fun hh=>Gl.rows_at (by first|omega|(simp at hh ⊢; omega)))) ?_;refine B6 J J J J (F1 J gU J J) ?_;refine B6 J J J J (E3 J gU J J J) ?_;refine B6 J J J J (A7 J gU) ?_;refine B6 J J J J (A7 J gU) ?_;refine B6 J J J J (C2 J J gU gU J J J (fun hh=>Gl.rows_at (by first|omega|(simp at hh ⊢; omega)))) ?_;refine B6 J J J J (F1 J gU J J) ?_;refine B6 J J J J (E3 J gU J J J) ?_;refine B6 J J J J (B7 J J gU gU J) ?_;refine B6 J J J J (A7 J gU) ?_;refine B6 J J J J (A7 J gU) ?_;refine B6 J J J J (A7 J gU) ?_;refine B6 J J J J (C2 J J (fun hh=>hh) (fun hh=>hh) J J J (fun hh=>Gl.rows_at (by first|omega|(simp at hh ⊢; omega)))) ?_;refine B6 J J J J (F1 J (fun hh=>hh) J J) ?_;refine B6 J J J J (E3 J (fun hh=>hh) J J J) ?_;refine B6 J J J J (A7 J gU) ?_;refine B6 J J J J (A7 J gU) ?_
   refine B6 J J J J (C2 J J (fun hh=>hh) (fun hh=>hh) J J J (fun hh=>Gl.rows_at (by first|omega|(simp at hh ⊢; omega)))) ?_;refine B6 J J J J (F1 J (fun hh=>hh) J J) ?_;refine B6 J J J J (E3 J (fun hh=>hh) J J J) ?_;refine B6 J J J J (G0 J J (fun hh=>hh) (fun hh=>hh) J) ?_;refine B6 J J J J (E5 J J gU (fun _ hi=>gP J hi)) ?_;refine B6 J J J J (A7 J gU) ?_;refine B6 J J J J (A7 J gU) ?_;refine B6 J J J J (A7 J gU) ?_;refine B6 J J J J (C2 J J (fun hh=>hh) (fun hh=>hh) J J J (fun hh=>Gl.rows_at (by first|omega|(simp at hh ⊢; omega)))) ?_;refine B6 J J J J (F1 J (fun hh=>hh) J J) ?_;refine B6 J J J J (E3 J (fun hh=>hh) J J J) ?_;refine B6 J J J J (A7 J gU) ?_;refine B6 J J J J (A7 J gU) ?_;refine B6 J J J J (C2 J J (fun hh=>hh) (fun hh=>hh) J J J (fun hh=>Gl.rows_at (by first|omega|(simp at hh ⊢; omega)))) ?_;refine B6 J J J J (F1 J (fun hh=>hh) J J) ?_;refine B6 J J J J (E3 J (fun hh=>hh) J J J) ?_;refine B6 J J J J (G0 J J (fun hh=>hh) (fun hh=>hh) J) ?_;refine B6 J J J J (E5 J J gU (fun _ hi=>gP J hi)) ?_
   refine B6 J J J J (A7 J gU) ?_;refine B6 J J J J (A7 J gU) ?_;refine B6 J J J J (A7 J gU) ?_;refine B6 J J J J (C2 J J (fun hh=>hh) (fun hh=>hh) J J J (fun hh=>Gl.rows_at (by first|omega|(simp at hh ⊢; omega)))) ?_;refine B6 J J J J (F1 J (fun hh=>hh) J J) ?_;refine B6 J J J J (E3 J (fun hh=>hh) J J J) ?_;refine B6 J J J J (A7 J gU) ?_;refine B6 J J J J (A7 J gU) ?_;refine B6 J J J J (C2 J J (fun hh=>hh) (fun hh=>hh) J J J (fun hh=>Gl.rows_at (by first|omega|(simp at hh ⊢; omega)))) ?_;refine B6 J J J J (F1 J (fun hh=>hh) J J) ?_;refine B6 J J J J (E3 J (fun hh=>hh) J J J) ?_;refine E7 J J J J J J J gU (fun hh=>gA ((fun hh=>hh) hh) (gA ((fun hh=>hh) hh) (rfl))) (Su _ _ (by omega) (by omega)) J ?_;refine B6 J J J J (F8 J (fun hh=>hh)) ?_;refine B6 J J J J (E5 J J gU (fun _ hi=>gP J hi)) ?_;refine F9 (by kernel_rfl) ?_;refine B5 (s:=⟨[(0,_,_),(1,_,_),(5,_,_),(67,_,_)],[],[],[]⟩) (B4 (⟨U J,U J,U J,U J,O⟩) O O) ?_;refine B9 J (fun hc3=>?_) (fun hc3=>?_)
   ·exfalso
    simp only [List.getD_eq_getElem?_getD] at e1 e2 e3 e4
    simp [Gl.cells,e1,e2,e3,e4,Sl] at hc3
   ·refine C0 ?_
    refine A6 ?_;refine A5 J J J (A7 J gU) ?_;refine A5 J J J (D0 J J gU gU J (IntWalk.i64_in _ (by omega))) ?_;refine A5 J J J (A9 J gU) ?_;refine B0 ?_;refine ⟨k + 1,?_,?_,B4 (⟨⟨_,rfl,?_⟩,⟨U J,U J,O⟩⟩) O O⟩
    all_goals (first|rfl|omega)
  ·try simp only [nn,B3,nq] at hc2
   refine E2 ?_
   repeat(first|refine D5 ?_|refine D6 ?_|refine D2 J ?_)
   refine A8 (A6 ?_);refine A5 J J J (A9 J gU) ?_;refine B0 ?_;refine C1 ?_
   repeat(first|refine tR ?_|refine bR ?_)
   refine C5 J ?_ O
   rfl
set_option maxHeartbeats 4000000 in
theorem Ny (n m : Nar) (h : n.el=m.el) (hs : ∀ s ∈ n.steps,s.msg.size≤900000) (hg : ∀ g ∈ n.goals,T.sizes g.data≤900000) : Ctr sys 27 [xn n,xn m] [] (xb true) none []:=by
 obtain ⟨e1,e2,e3,e4,e5,e6⟩:=el_inj.1 h
 have l1:=B3 n.roles
 have l2:=B3 m.roles
 have l3:=Fs.rows_len n.fresh
 have l4:=Fs.rows_len m.fresh
 have l5:=Sp.rows_len n.steps
 have l6:=Sp.rows_len m.steps
 have h5 : n.steps.length=m.steps.length:=by simpa using congrArg List.length e5
 have h3 : n.fresh.length=m.fresh.length:=by rw[e3]
 refine D1 Tryz.func27 J J J J J J ?_;refine A8 (A6 ?_);refine C3 J (D8 J J J J) ?_;refine C3 J (D8 J J J J) ?_;refine A5 J J J (A9 J gU) ?_;refine B0 ?_;refine A8 ?_;refine A8 (A6 ?_);refine A5 J J J (B1 J gU J J) ?_;refine A5 J J J (B2 J gU J J J J) ?_;refine A5 J J J (B1 J gU J J) ?_;refine A5 J J J (B2 J gU J J J J) ?_;refine A5 J J J (G0 J J gU gU J) ?_;refine A5 J J J (A7 J gU) ?_;refine A5 J J J (B1 J gU J J) ?_;refine A5 J J J (B2 J (fun hh=>hh) J J J J) ?_;refine A5 J J J (B1 J gU J J) ?_;refine H3 (s:=⟨[(2,_,_),(3,_,_),(12,_,_),(14,_,_),(15,_,_)],[(.l 2,_),(.l 3,_)],[],[]⟩) (B4 (⟨U J,U J,U J,U J,U J,O⟩) (⟨U J,U J,O⟩) O) ?_;refine A5 J J J (B2 J (fun hh=>hh) J J J J) ?_;refine C8 J J J J J J gU (fun hh=>gA ((fun hh=>hh) hh) (gA ((fun hh=>hh) hh) (rfl))) (Co _ _) J ?_;refine A5 J J J (F8 J (fun hh=>hh)) ?_;refine A5 J J J (E5 J J gU (fun _ hi=>gP J hi)) ?_;refine A5 J J J (A7 J gU) ?_
 refine A5 J J J (B1 J gU J J) ?_;refine A5 J J J (B2 J (fun hh=>hh) J J J J) ?_;refine A5 J J J (B1 J gU J J) ?_;refine A5 J J J (B2 J (fun hh=>hh) J J J J) ?_;refine C8 J J J J J J gU (fun hh=>gA ((fun hh=>hh) hh) (gA ((fun hh=>hh) hh) (rfl))) (Co _ _) J ?_;refine A5 J J J (F8 J (fun hh=>hh)) ?_;refine A5 J J J (E5 J J gU (fun _ hi=>gP J hi)) ?_;refine H3 (s:=⟨[(2,_,_),(3,_,_),(27,_,_)],[(.l 2,_),(.l 3,_)],[],[]⟩) (B4 (⟨U J,U J,U J,O⟩) (⟨U J,U J,O⟩) O) ?_;refine A5 J J J (A7 J gU) ?_;refine A5 J J J (B1 J gU J J) ?_;refine A5 J J J (B2 J (fun hh=>hh) J J J J) ?_;refine A5 J J J (G7 J (fun hh=>hh) J J) ?_;refine A5 J J J (B1 J gU J J) ?_;refine A5 J J J (B2 J (fun hh=>hh) J J J J) ?_;refine A5 J J J (G7 J (fun hh=>hh) J J) ?_;refine A5 J J J (B7 J J (fun hh=>hh) (fun hh=>hh) J) ?_;refine A5 J J J (E5 J J gU (fun _ hi=>gP J hi)) ?_;refine A5 J J J (A7 J gU) ?_;refine A5 J J J (B1 J gU J J) ?_;refine A5 J J J (B2 J (fun hh=>hh) J J J J) ?_
 refine H3 (s:=⟨[(2,_,_),(3,_,_),(37,_,_),(39,_,_)],[(.l 2,_),(.l 3,_)],[],[]⟩) (B4 (⟨U J,U J,U J,U J,O⟩) (⟨U J,U J,O⟩) O) ?_;refine A5 J J J (G7 J (fun hh=>hh) J J) ?_;refine A5 J J J (B1 J gU J J) ?_;refine A5 J J J (B2 J (fun hh=>hh) J J J J) ?_;refine A5 J J J (G7 J (fun hh=>hh) J J) ?_;refine A5 J J J (B7 J J (fun hh=>hh) (fun hh=>hh) J) ?_;refine A5 J J J (E5 J J gU (fun _ hi=>gP J hi)) ?_;refine B0 ?_;refine B5 (s:=⟨[(2,_,_),(3,_,_),(45,_,_)],[(.l 2,_),(.l 3,_)],[],[]⟩) (B4 (⟨U J,U J,U J,O⟩) (⟨U J,U J,O⟩) O) ?_;refine B9 J (fun hc=>?_) (fun hc=>?_)
 ·exfalso
  simp [uBE,e1,e2,e4,l3,l4,l5,l6,h5,h3] at hc
 ·refine C0 ?_
  refine A8 ?_;refine A8 (A6 ?_);refine A5 J J J (A9 J gU) ?_;refine B0 ?_;refine C4 ?_;refine F3 (ι:=Nat) { t:=[(2,_,_),(3,_,_)],bx:=[(.l 2,_),(.l 3,_)],ow:=[] } (fun k=>[(5,true,xi (k : Int))]) (fun k=>[]) (fun k=>k≤n.fresh.length) (fun k=>n.fresh.length - k) (0) (by simp) (B4 (⟨U J,U J,U J,O⟩) (⟨U J,U J,O⟩) O) ?_
  intro k hoka
  dsimp only [List.cons_append,List.nil_append]
  refine A8 ?_;refine A8 (A6 ?_);refine A5 J J J (A7 J gU) ?_;refine A5 J J J (B1 J gU J J) ?_;refine A5 J J J (B2 J gU J J J J) ?_;refine D9 J J J J J gU J J ?_ (fun hh=>by simp at hh); intro hlen;refine A5 J J J (B7 J J gU gU J) ?_;refine B0 ?_;refine B5 (s:=⟨[(2,_,_),(3,_,_),(5,_,_),(50,_,_)],[(.l 2,_),(.l 3,_)],[],[]⟩) (B4 (⟨U J,U J,U J,U J,O⟩) (⟨U J,U J,O⟩) O) ?_;refine B9 J (fun hc2=>?_) (fun hc2=>?_)
  ·try simp only [nn,B3,nq] at hc2
   refine C0 ?_;refine A8 ?_;refine C4 ?_;refine A8 ?_;refine awp_drawn' (by kernel_rfl) ?_;refine B6 J J J J (B1 J gU J J) ?_;refine G5 J J J J J J J gU J J J J ?_;refine B6 J J J J (A7 J gU) ?_;refine B6 J J J J (C2 J J gU gU J J J (fun hh=>Fs.rows_at (by first|omega|(simp at hh ⊢; omega)))) ?_;refine B6 J J J J (D4 J gU J J J J) ?_;refine B6 J J J J (B1 J gU J J) ?_;refine G5 J J J J J J J gU J J J J ?_;refine B6 J J J J (A7 J gU) ?_;refine B6 J J J J (C2 J J gU gU J J J (fun hh=>Fs.rows_at (by first|omega|(simp at hh ⊢; omega)))) ?_;refine B6 J J J J (D4 J gU J J J J) ?_;refine B6 J J J J (Jx (ks:=[2,2,1]) (.inr ⟨rfl,rfl⟩) J J gU gU Tryz.underlying79 (by kernel_rfl) (by kernel_rfl) (by kernel_rfl) J) ?_;refine F9 (by kernel_rfl) ?_;refine B5 (s:=⟨[(2,_,_),(3,_,_),(5,_,_),(63,_,_)],[(.l 2,_),(.l 3,_)],[],[]⟩) (B4 (⟨U J,U J,U J,U J,O⟩) (⟨U J,U J,O⟩) O) ?_;refine B9 J (fun hc3=>?_) (fun hc3=>?_)
   ·exfalso
    simp [e3] at hc3
   ·refine C0 ?_
    refine A6 ?_;refine A5 J J J (A7 J gU) ?_;refine A5 J J J (D0 J J gU gU J (IntWalk.i64_in _ (by omega))) ?_;refine A5 J J J (A9 J gU) ?_;refine B0 ?_;refine ⟨k + 1,?_,?_,B4 (⟨⟨_,rfl,?_⟩,⟨U J,U J,O⟩⟩) (⟨U J,U J,O⟩) O⟩
    all_goals (first|rfl|omega)
  ·try simp only [nn,B3,nq] at hc2
   refine E2 ?_
   repeat(first|refine D5 ?_|refine D6 ?_|refine D2 J ?_)
   refine A8 ?_;refine A8 (A6 ?_);refine A5 J J J (A9 J gU) ?_;refine B0 ?_;refine C4 ?_;refine F3 (ι:=Nat) { t:=[(2,_,_),(3,_,_)],bx:=[(.l 2,_),(.l 3,_)],ow:=[] } (fun k=>[(6,true,xi (k : Int))]) (fun k=>[]) (fun k=>k≤n.steps.length) (fun k=>n.steps.length - k) (0) (by simp) (B4 (⟨U J,U J,U J,O⟩) (⟨U J,U J,O⟩) O) ?_
   intro k hokb
   dsimp only [List.cons_append,List.nil_append]
   refine A8 ?_;refine A8 (A6 ?_);refine A5 J J J (A7 J gU) ?_;refine A5 J J J (B1 J gU J J) ?_;refine A5 J J J (B2 J gU J J J J) ?_;refine D9 J J J J J gU J J ?_ (fun hh=>by simp at hh); intro hlen;refine A5 J J J (B7 J J gU gU J) ?_;refine B0 ?_;refine B5 (s:=⟨[(2,_,_),(3,_,_),(6,_,_),(68,_,_)],[(.l 2,_),(.l 3,_)],[],[]⟩) (B4 (⟨U J,U J,U J,U J,O⟩) (⟨U J,U J,O⟩) O) ?_;refine B9 J (fun hc4=>?_) (fun hc4=>?_)
   ·try simp only [nn,B3,nq] at hc4
    have hlt : k < n.steps.length:=by omega
    have e:=Uv (d:=default) e5 hlt
    have f1 : (n.steps.getD k default).frm=(m.steps.getD k default).frm:=(by have q:=congrArg Sp.frm e; exact q)
    have f2 : (n.steps.getD k default).dst=(m.steps.getD k default).dst:=(by have q:=congrArg Sp.dst e; exact q)
    have f3 : (n.steps.getD k default).msg=(m.steps.getD k default).msg:=(by have q:=congrArg Sp.msg e; exact q)
    have z1:=uAm hs hlt
    have z2 : (m.steps.getD k default).msg.size≤900000:=by rw[← f3]; exact z1
    refine C0 ?_;refine A8 ?_;refine C4 ?_;refine A8 ?_;refine awp_drawn' (by kernel_rfl) ?_;refine B6 J J J J (B1 J gU J J) ?_;refine G5 J J J J J J J gU J J J J ?_;refine B6 J J J J (A7 J gU) ?_;refine B6 J J J J (C2 J J gU gU J J J (fun hh=>Sp.rows_at (by first|omega|(simp at hh ⊢; omega)))) ?_;refine B6 J J J J (F1 J gU J J) ?_;refine B6 J J J J (E3 J gU J J J) ?_;refine B6 J J J J (B1 J gU J J) ?_;refine G5 J J J J J J J gU J J J J ?_;refine B6 J J J J (A7 J gU) ?_;refine B6 J J J J (C2 J J gU gU J J J (fun hh=>Sp.rows_at (by first|omega|(simp at hh ⊢; omega)))) ?_;refine B6 J J J J (F1 J gU J J) ?_;refine B6 J J J J (E3 J gU J J J) ?_;refine B6 J J J J (G0 J J gU gU J) ?_;refine B6 J J J J (A7 J gU) ?_;refine B6 J J J J (B1 J gU J J) ?_;refine G5 J J J J J J J (fun hh=>hh) J J J J ?_;refine B6 J J J J (A7 J gU) ?_;refine B6 J J J J (C2 J J (fun hh=>hh) (fun hh=>hh) J J J (fun hh=>Sp.rows_at (by first|omega|(simp at hh ⊢; omega)))) ?_
    refine B6 J J J J (F1 J (fun hh=>hh) J J) ?_;refine B6 J J J J (E3 J (fun hh=>hh) J J J) ?_;refine B6 J J J J (B1 J gU J J) ?_;refine G5 J J J J J J J (fun hh=>hh) J J J J ?_;refine B6 J J J J (A7 J gU) ?_;refine B6 J J J J (C2 J J (fun hh=>hh) (fun hh=>hh) J J J (fun hh=>Sp.rows_at (by first|omega|(simp at hh ⊢; omega)))) ?_;refine B6 J J J J (F1 J (fun hh=>hh) J J) ?_;refine B6 J J J J (E3 J (fun hh=>hh) J J J) ?_;refine B6 J J J J (G0 J J (fun hh=>hh) (fun hh=>hh) J) ?_;refine B6 J J J J (E5 J J gU (fun _ hi=>gP J hi)) ?_;refine B6 J J J J (A7 J gU) ?_;refine B6 J J J J (B1 J gU J J) ?_;refine G5 J J J J J J J (fun hh=>hh) J J J J ?_;refine B6 J J J J (A7 J gU) ?_;refine B6 J J J J (C2 J J (fun hh=>hh) (fun hh=>hh) J J J (fun hh=>Sp.rows_at (by first|omega|(simp at hh ⊢; omega)))) ?_;refine B6 J J J J (F1 J (fun hh=>hh) J J) ?_;refine B6 J J J J (D4 J (fun hh=>hh) J J J J) ?_;refine B6 J J J J (B1 J gU J J) ?_;refine G5 J J J J J J J (fun hh=>hh) J J J J ?_
    refine B6 J J J J (A7 J gU) ?_;refine B6 J J J J (C2 J J (fun hh=>hh) (fun hh=>hh) J J J (fun hh=>Sp.rows_at (by first|omega|(simp at hh ⊢; omega)))) ?_;refine B6 J J J J (F1 J (fun hh=>hh) J J) ?_;refine B6 J J J J (D4 J (fun hh=>hh) J J J J) ?_;refine E7 J J J J J J J gU (fun hh=>gA ((fun hh=>hh) hh) (gA ((fun hh=>hh) hh) (rfl))) (Lj _ _ (by omega) (by omega)) J ?_;refine B6 J J J J (F8 J (fun hh=>hh)) ?_;refine B6 J J J J (E5 J J gU (fun _ hi=>gP J hi)) ?_;refine F9 (by kernel_rfl) ?_;refine B5 (s:=⟨[(2,_,_),(3,_,_),(6,_,_),(114,_,_)],[(.l 2,_),(.l 3,_)],[],[]⟩) (B4 (⟨U J,U J,U J,U J,O⟩) (⟨U J,U J,O⟩) O) ?_;refine B9 J (fun hc5=>?_) (fun hc5=>?_)
    ·exfalso
     simp only [List.getD_eq_getElem?_getD] at f1 f2 f3
     simp [Sp.cells,f1,f2,f3,T.cmp_self] at hc5
    ·refine C0 ?_
     refine A6 ?_;refine A5 J J J (A7 J gU) ?_;refine A5 J J J (D0 J J gU gU J (IntWalk.i64_in _ (by omega))) ?_;refine A5 J J J (A9 J gU) ?_;refine B0 ?_;refine ⟨k + 1,?_,?_,B4 (⟨⟨_,rfl,?_⟩,⟨U J,U J,O⟩⟩) (⟨U J,U J,O⟩) O⟩
     all_goals (first|rfl|omega)
   ·try simp only [nn,B3,nq] at hc4
    refine E2 ?_
    repeat(first|refine D5 ?_|refine D6 ?_|refine D2 J ?_)
    refine A8 (A6 ?_);refine A5 J J J (B1 J gU J J) ?_;refine A5 J J J (B2 J gU J J J J) ?_;refine A5 J J J (B1 J gU J J) ?_;refine A5 J J J (B2 J gU J J J J) ?_;refine C8 J J J J J J gU gU (Jm _ _ e6 hg) J ?_;refine A5 J J J (A9 J gU) ?_;refine B0 ?_;refine C1 ?_
    repeat(first|refine tR ?_|refine bR ?_)
    refine C5 J ?_ O
    rfl
def uAt (n : Nar) : List Int:=n.steps.map Sp.line++n.goals.map Gl.line
theorem Du (n : Nar) (hs : n.steps.length≤900000) (hg : n.goals.length≤900000) : Ctr sys 28 [xn n] [] (xis (uAt n)) none []:=by
 have l5:=Sp.rows_len n.steps
 have l6:=Gl.rows_len n.goals
 refine D1 Tryz.func28 J J J J J J ?_;refine A8 (A6 ?_);refine C3 J (D8 J J J J) ?_;refine C3 J (H4 (.inr J) J J) ?_;refine B0 ?_;refine A8 (A6 ?_);refine C3 J (H4 (.inr J) J J) ?_;refine B0 ?_;refine A8 ?_;refine A8 (A6 ?_);refine A5 J J J (A9 J gU) ?_;refine B0 ?_;refine C4 ?_;refine F3 (ι:=Nat) { t:=[(1,_,_)],bx:=[(.l 1,_)],ow:=[(.t 3,_)] } (fun k=>[(4,true,xi (k : Int)),(3,true,xis ((n.steps.take k).map Sp.line))]) (fun k=>[]) (fun k=>k≤n.steps.length) (fun k=>n.steps.length - k) (0) (by simp) (B4 (⟨U J,U J,U J,O⟩) (⟨U J,O⟩) (⟨rfl,O⟩)) ?_
 intro k hoka
 dsimp only [List.cons_append,List.nil_append]
 refine A8 ?_;refine A8 (A6 ?_);refine A5 J J J (A7 J gU) ?_;refine A5 J J J (B1 J gU J J) ?_;refine A5 J J J (B2 J gU J J J J) ?_;refine D9 J J J J J gU J J ?_ (fun hh=>by simp at hh); intro hlen;refine A5 J J J (B7 J J gU gU J) ?_;refine B0 ?_;refine B5 (s:=⟨[(1,_,_),(3,_,_),(4,_,_),(10,_,_)],[(.l 1,_)],[(.t 3,_)],[]⟩) (B4 (⟨U J,U J,U J,U J,O⟩) (⟨U J,O⟩) (⟨rfl,O⟩)) ?_;refine B9 J (fun hc=>?_) (fun hc=>?_)
 ·try simp only [nn,B3,nq] at hc
  have hT:=I0 (l:=n.steps) (d:=default) (k:=k) (by omega)
  refine C0 ?_;refine A8 ?_;refine C4 ?_;refine A6 ?_;refine C3 J (F2 (.inl J) J J J) ?_;refine A5 J J J (B1 J gU J J) ?_;refine A5 J J J (B2 J gU J J J J) ?_;refine A5 J J J (A7 J gU) ?_;refine A5 J J J (C2 J J gU gU J J J (fun hh=>Sp.rows_at (by first|omega|(simp at hh ⊢; omega)))) ?_;refine A5 J J J (F1 J gU J J) ?_;refine A5 J J J (E3 J gU J J J) ?_;refine E8 (xs:=[_]) J J J J J J J J J gU J ?_;refine C3 J (F7 J J J J J J J (by first|omega|(simp only [List.length_append,List.length_singleton,D3,List.length_map,List.length_take]; omega)) (by first|omega|(simp only [List.length_append,List.length_singleton,D3,List.length_map,List.length_take]; omega))) ?_;refine C3 J (F2 (.inr J) J J J) ?_;refine B0 ?_;refine B5 (s:=⟨[(1,_,_),(3,_,_),(4,_,_)],[(.l 1,_)],[(.t 3,_)],[]⟩) (B4 (⟨U J,U J,U J,O⟩) (⟨U J,O⟩) (⟨rfl,O⟩)) ?_;refine A6 ?_;refine A5 J J J (A7 J gU) ?_;refine A5 J J J (D0 J J gU gU J (IntWalk.i64_in _ (by omega))) ?_;refine A5 J J J (A9 J gU) ?_;refine B0 ?_;refine ⟨k + 1,?_,?_,B4 (⟨⟨_,rfl,?_⟩,⟨⟨_,rfl,?_⟩,⟨U J,O⟩⟩⟩) (⟨U J,O⟩) (⟨rfl,O⟩)⟩
  all_goals (first|rfl|omega|exact tx ((Z5 _ _).trans (by rw[hT,List.map_append]; rfl)))
 ·try simp only [nn,B3,nq] at hc
  have hk : k=n.steps.length:=by omega
  subst hk
  refine E2 ?_
  repeat(first|refine D5 ?_|refine D6 ?_|refine D2 J ?_)
  refine A8 ?_;refine A8 (A6 ?_);refine A5 J J J (A9 J gU) ?_;refine B0 ?_;refine C4 ?_;refine F3 (ι:=Nat) { t:=[(1,_,_)],bx:=[(.l 1,_)],ow:=[(.t 3,_)] } (fun j=>[(5,true,xi (j : Int)),(3,true,xis (n.steps.map Sp.line++(n.goals.take j).map Gl.line))]) (fun j=>[]) (fun j=>j≤n.goals.length) (fun j=>n.goals.length - j) (0) (by simp) (B4 (⟨U J,⟨⟨_,rfl,by simp⟩,⟨U J,O⟩⟩⟩) (⟨U J,O⟩) (⟨rfl,O⟩)) ?_
  intro j hokb
  dsimp only [List.cons_append,List.nil_append]
  refine A8 ?_;refine A8 (A6 ?_);refine A5 J J J (A7 J gU) ?_;refine A5 J J J (B1 J gU J J) ?_;refine A5 J J J (B2 J gU J J J J) ?_;refine D9 J J J J J gU J J ?_ (fun hh=>by simp at hh); intro hlen;refine A5 J J J (B7 J J gU gU J) ?_;refine B0 ?_;refine B5 (s:=⟨[(1,_,_),(3,_,_),(5,_,_),(26,_,_)],[(.l 1,_)],[(.t 3,_)],[]⟩) (B4 (⟨U J,U J,U J,U J,O⟩) (⟨U J,O⟩) (⟨rfl,O⟩)) ?_;refine B9 J (fun hc2=>?_) (fun hc2=>?_)
  ·try simp only [nn,B3,nq] at hc2
   have hT:=I0 (l:=n.goals) (d:=default) (k:=j) (by omega)
   refine C0 ?_;refine A8 ?_;refine C4 ?_;refine A6 ?_;refine C3 J (F2 (.inl J) J J J) ?_;refine A5 J J J (B1 J gU J J) ?_;refine A5 J J J (B2 J gU J J J J) ?_;refine A5 J J J (A7 J gU) ?_;refine A5 J J J (C2 J J gU gU J J J (fun hh=>Gl.rows_at (by first|omega|(simp at hh ⊢; omega)))) ?_;refine A5 J J J (F1 J gU J J) ?_;refine A5 J J J (E3 J gU J J J) ?_;refine E8 (xs:=[_]) J J J J J J J J J gU J ?_;refine C3 J (F7 J J J J J J J (by first|omega|(simp only [List.length_append,List.length_singleton,D3,List.length_map,List.length_take]; omega)) (by first|omega|(simp only [List.length_append,List.length_singleton,D3,List.length_map,List.length_take]; omega))) ?_;refine C3 J (F2 (.inr J) J J J) ?_;refine B0 ?_;refine B5 (s:=⟨[(1,_,_),(3,_,_),(5,_,_)],[(.l 1,_)],[(.t 3,_)],[]⟩) (B4 (⟨U J,U J,U J,O⟩) (⟨U J,O⟩) (⟨rfl,O⟩)) ?_;refine A6 ?_;refine A5 J J J (A7 J gU) ?_;refine A5 J J J (D0 J J gU gU J (IntWalk.i64_in _ (by omega))) ?_;refine A5 J J J (A9 J gU) ?_;refine B0 ?_;refine ⟨j + 1,?_,?_,B4 (⟨⟨_,rfl,?_⟩,⟨⟨_,rfl,?_⟩,⟨U J,O⟩⟩⟩) (⟨U J,O⟩) (⟨rfl,O⟩)⟩
   all_goals (first|rfl|omega|exact tx ((Z5 _ _).trans (by rw[hT,List.map_append,List.append_assoc]; rfl)))
  ·try simp only [nn,B3,nq] at hc2
   have hk : j=n.goals.length:=by omega
   subst hk
   refine E2 ?_
   repeat(first|refine D5 ?_|refine D6 ?_|refine D2 J ?_)
   refine A8 (A6 ?_);refine C3 J (F2 (.inl J) J J J) ?_;refine C3 J (F2 (.inr J) J J J) ?_;refine B0 ?_;refine C1 ?_
   repeat(first|refine tR ?_|refine bR ?_)
   refine C5 J ?_ O
   (rw[uAt,List.take_length]; rfl)
namespace T
mutual
def bud : T→Int→Int
 | mk _ nm _ ks,m=>if m≤0∨40 < nm.length then -1 else buds ks (m - 1)
def buds : List T→Int→Int
 | [],m=>m
 | t :: ts,m=>if bud t m < 0 then -1 else buds ts (bud t m)
end
theorem bud_eq (t : T) (m : Int) : t.bud m=if m≤0∨40 < t.name.length then -1 else buds t.kids (m - 1):=by cases t; rw[bud]; rfl
mutual
theorem uBJ : ∀ (t : T) (m : Int),0≤t.bud m→t.bud m + t.size≤m
 | mk _ nm _ ks,m,h=>by
  rw[bud] at h ⊢
  rw[size]
  split at h
  ·omega
  ·rename_i hn
   rw[if_neg hn]
   have := buds_le ks (m - 1) h
   omega
theorem buds_le : ∀ (ts : List T) (m : Int),0≤buds ts m→buds ts m + sizes ts≤m
 | [],m,_=>by rw[buds,sizes]; omega
 | t :: ts,m,h=>by
  rw[buds] at h ⊢
  rw[sizes]
  split at h
  ·omega
  ·rename_i hn
   rw[if_neg hn]
   have h1:=uBJ t m (by omega)
   have h2:=buds_le ts (t.bud m) h
   omega
end
theorem buds_step : ∀ (ts : List T) (k : Nat) (x : T) (m : Int),ts[k]? = some x→0≤buds (ts.take k) m→0≤x.bud (buds (ts.take k) m)→buds (ts.take (k + 1)) m=x.bud (buds (ts.take k) m)
 | [],k,x,m,h,_,_=>by simp at h
 | t :: ts,0,x,m,h,h0,hx=>by
  simp at h; subst h
  simp only [List.take_zero,buds] at hx ⊢
  simp only [List.take_succ_cons,List.take_zero,buds]
  rw[if_neg (by omega)]
 | t :: ts,k + 1,x,m,h,h0,hx=>by
  rw[List.take_succ_cons,buds] at h0 hx ⊢
  rw[List.take_succ_cons,buds]
  split at h0
  ·omega
  ·rename_i hn
   rw[if_neg hn] at hx ⊢
   rw[if_neg hn]
   exact buds_step ts k x _ (by simpa using h) h0 hx
theorem buds_hit : ∀ (ts : List T) (k : Nat) (x : T) (m : Int),ts[k]? = some x→0≤buds (ts.take k) m→x.bud (buds (ts.take k) m) < 0→buds ts m = -1
 | [],k,x,m,h,_,_=>by simp at h
 | t :: ts,0,x,m,h,h0,hx=>by
  simp at h; subst h
  simp only [List.take_zero,buds] at hx
  rw[buds,if_pos hx]
 | t :: ts,k + 1,x,m,h,h0,hx=>by
  rw[List.take_succ_cons,buds] at h0 hx
  rw[buds]
  split at h0
  ·omega
  ·rename_i hn
   rw[if_neg hn] at hx ⊢
   exact buds_hit ts k x _ (by simpa using h) h0 hx
end T
def fewB (l : List T) (n : Nat) (m : Int) : Bool:=decide (l.length≤n) && decide (0≤T.buds l m)
theorem Sf {l : List T} {n : Nat} {m : Int} (h : fewB l n m=true) : l.length≤n∧T.sizes l≤m:=by
 simp only [fewB,Bool.and_eq_true,decide_eq_true_eq] at h
 have := T.buds_le l m h.2
 exact ⟨h.1,by omega⟩
def budS (t : T) (m : Int) (k : Nat) : St:={ t:=[(1,true,xi (T.buds (t.kids.take k) (m - 1))),(2,true, .v (.ptr (.l 2) 0)),(5,true,xi k)],bx:=[(.l 2,t.cells)],ow:=[] }
theorem Pp : ∀ (n : Nat) (t : T) (m : Int),m≤n→n≤2000000 → -2000000≤m→Ctr sys 70 [xm t,xi m] [] (xi (t.bud m)) none []:=by
 intro n
 induction n with
 | zero =>
  intro t m hm _ _
  refine D1 Tryz.func70 J J J J J J ?_;refine A8 (A6 ?_);refine C3 J (D8 J J J J) ?_;refine A5 J J J (A9 J gU) ?_;refine B0 ?_;refine A8 ?_;refine A8 (A6 ?_);refine A5 J J J (A7 J gU) ?_;refine A5 J J J (B7 J J gU gU J) ?_;refine A5 J J J (A7 J gU) ?_;refine A5 J J J (B1 J gU J J) ?_;refine A5 J J J (B2 J (fun hh=>hh) J J J J) ?_;refine A5 J J J (O4 J (fun hh=>hh) (Tryz.underlying9)) ?_;refine A5 J J J (B7 J J (fun hh=>hh) gU J) ?_;refine A5 J J J (E5 J J gU (fun _ hi=>gP J hi)) ?_;refine B0 ?_;refine B5 (s:=⟨[(1,_,_),(2,_,_),(13,_,_)],[(.l 2,_)],[],[]⟩) (B4 (⟨U J,U J,U J,O⟩) (⟨U J,O⟩) O) ?_;refine B9 J (fun hc=>?_) (fun hc=>?_)
  ·refine A8 (A6 ?_)
   refine A5 J J J (A9 J gU) ?_;refine B0 ?_;refine C1 ?_
   repeat(first|refine tR ?_|refine bR ?_)
   refine C5 J ?_ O;refine H2 ?_
   rw[T.bud_eq,if_pos (by omega)]
  ·simp only [Bool.or_eq_false_iff,decide_eq_false_iff_not] at hc
   omega
 | succ n ih =>
  intro t m hm hn hm2
  refine D1 Tryz.func70 J J J J J J ?_;refine A8 (A6 ?_);refine C3 J (D8 J J J J) ?_;refine A5 J J J (A9 J gU) ?_;refine B0 ?_;refine A8 ?_;refine A8 (A6 ?_);refine A5 J J J (A7 J gU) ?_;refine A5 J J J (B7 J J gU gU J) ?_;refine A5 J J J (A7 J gU) ?_;refine A5 J J J (B1 J gU J J) ?_;refine A5 J J J (B2 J (fun hh=>hh) J J J J) ?_;refine A5 J J J (O4 J (fun hh=>hh) (Tryz.underlying9)) ?_;refine A5 J J J (B7 J J (fun hh=>hh) gU J) ?_;refine A5 J J J (E5 J J gU (fun _ hi=>gP J hi)) ?_;refine B0 ?_;refine B5 (s:=⟨[(1,_,_),(2,_,_),(13,_,_)],[(.l 2,_)],[],[]⟩) (B4 (⟨U J,U J,U J,O⟩) (⟨U J,O⟩) O) ?_;refine B9 J (fun hc=>?_) (fun hc=>?_)
  ·refine A8 (A6 ?_)
   refine A5 J J J (A9 J gU) ?_;refine B0 ?_;refine C1 ?_
   repeat(first|refine tR ?_|refine bR ?_)
   refine C5 J ?_ O;refine H2 ?_
   simp only [Bool.or_eq_true,decide_eq_true_eq] at hc
   rw[T.bud_eq,if_pos (by omega)]
  ·simp only [Bool.or_eq_false_iff,decide_eq_false_iff_not] at hc
   have hB : t.bud m=T.buds t.kids (m - 1):=by rw[T.bud_eq,if_neg (by omega)]
   refine C0 ?_;refine A8 (A6 ?_);refine A5 J J J (A7 J gU) ?_;refine A5 J J J (D0 J J gU gU J (IntWalk.i64_in _ (by omega))) ?_;refine A5 J J J (A9 J gU) ?_;refine B0 ?_;refine A8 ?_;refine A8 (A6 ?_);refine A5 J J J (A9 J gU) ?_;refine B0 ?_;refine C4 ?_;refine P3 (budS t m) (fun k=>k≤t.kids.length∧0≤T.buds (t.kids.take k) (m - 1)) (fun k=>t.kids.length - k) 0 ⟨Nat.zero_le _,by simp [T.buds]; omega⟩ ?_ ?_
   ·refine B4 ⟨⟨_,rfl,rfl⟩,⟨_,rfl,rfl⟩,⟨_,rfl,rfl⟩,O⟩ ⟨⟨_,rfl,rfl⟩,O⟩ O
   ·rintro k ⟨hk,hz⟩
    have hbl:=T.buds_le _ _ hz
    refine A8 ?_;refine A8 (A6 ?_);refine A5 J J J (A7 J gU) ?_;refine A5 J J J (B1 J gU J J) ?_;refine A5 J J J (B2 J gU J J J J) ?_;refine D9 J J J J J gU J J ?_ (fun hh=>by simp at hh); intro hlen;refine A5 J J J (B7 J J gU gU J) ?_;refine B0 ?_;refine B5 (s:=⟨[(1,_,_),(2,_,_),(5,_,_),(20,_,_)],[(.l 2,_)],[],[]⟩) (B4 (⟨U J,U J,U J,U J,O⟩) (⟨U J,O⟩) O) ?_;refine B9 J (fun hc2=>?_) (fun hc2=>?_)
    ·rw[T.rows_len] at hlen hc2
     have hlt : k < t.kids.length:=by simpa using hc2
     obtain ⟨x,hx⟩ : ∃ x,t.kids[k]? = some x:=⟨_,List.getElem?_eq_getElem hlt⟩
     refine C0 ?_;refine A8 ?_;refine C4 ?_;refine A8 (A6 ?_);refine A5 J J J (B1 J gU J J) ?_;refine A5 J J J (B2 J gU J J J J) ?_;refine A5 J J J (A7 J gU) ?_;refine A5 J J J (C2 J J gU gU J J J (fun _=>T.rows_get hx)) ?_;refine A5 J J J (D4 J gU J J J J) ?_;refine A5 J J J (A7 J gU) ?_;refine C8 J J J J J J gU gU (ih x _ (by omega) (by omega) (by omega)) J ?_;refine A5 J J J (A9 J gU) ?_;refine B0 ?_;refine B5 (s:=⟨[(1,_,_),(2,_,_),(5,_,_)],[(.l 2,_)],[],[]⟩) (B4 (⟨U J,U J,U J,O⟩) (⟨U J,O⟩) O) ?_;refine A8 (A6 ?_);refine A5 J J J (A7 J gU) ?_;refine A5 J J J (B7 J J gU gU J) ?_;refine B0 ?_;refine B9 J (fun hc3=>?_) (fun hc3=>?_)
     ·refine A8 (A6 ?_)
      refine A5 J J J (A9 J gU) ?_;refine B0 ?_;refine C1 ?_
      repeat(first|refine tR ?_|refine bR ?_)
      refine C5 J ?_ O;refine H2 ?_
      simp only [decide_eq_true_eq] at hc3
      rw[hB,T.buds_hit _ _ _ _ hx hz hc3]
     ·simp only [decide_eq_false_iff_not] at hc3
      have hst:=T.buds_step _ _ _ _ hx hz (by omega)
      refine C0 ?_;refine A6 ?_;refine A5 J J J (A7 J gU) ?_;refine A5 J J J (D0 J J gU gU J (IntWalk.i64_in _ (by omega))) ?_;refine A5 J J J (A9 J gU) ?_;refine B0 ?_;refine ⟨k + 1,⟨by omega,by rw[hst]; omega⟩,by omega,?_⟩;refine B4 ⟨⟨_,rfl,by rw[hst]⟩,⟨_,rfl,rfl⟩,⟨_,rfl,rfl⟩,O⟩ ⟨⟨_,rfl,rfl⟩,O⟩ O
    ·refine E2 ?_
     repeat(first|refine D5 ?_|refine D6 ?_|refine D2 J ?_)
     refine A8 (A6 ?_);refine A5 J J J (A7 J gU) ?_;refine A5 J J J (A9 J gU) ?_;refine B0 ?_;refine C1 ?_
     repeat(first|refine tR ?_|refine bR ?_)
     refine C5 J ?_ O
     rw[T.rows_len] at hc2
     have : k=t.kids.length:=by simp at hc2; omega
     subst this
     exact H2 (by rw[hB,List.take_length])
def fewS (l : List T) (n : Nat) (m : Int) (k : Nat) : St:={ t:=[(0,true,xl l),(2,true,xi (T.buds (l.take k) m)),(7,true,xi k)],bx:=[],ow:=[] }
theorem uAL (l : List T) (n : Nat) (m : Nat) (hm : m≤2000000) : Ctr sys 36 [xl l,xi n,xi m] [] (xb (fewB l n m)) none []:=by
 refine D1 Tryz.func36 J J J J J J ?_;refine A8 (A6 ?_);refine A5 J J J (A9 J gU) ?_;refine B0 ?_;refine A8 ?_;refine A8 (A6 ?_);refine A5 J J J (A7 J gU) ?_;refine D9 J J J J J gU J J ?_ (fun hh=>by simp at hh); intro hlen;refine A5 J J J (A7 J gU) ?_;refine A5 J J J (B7 J J gU gU J) ?_;refine B0 ?_;refine B5 (s:=⟨[(0,_,_),(2,_,_),(11,_,_)],[],[],[]⟩) (B4 (⟨U J,U J,U J,O⟩) O O) ?_;refine B9 J (fun hc=>?_) (fun hc=>?_)
 ·refine A8 (A6 ?_)
  refine A5 J J J (A9 J gU) ?_;refine B0 ?_;refine C1 ?_
  repeat(first|refine tR ?_|refine bR ?_)
  refine C5 J ?_ O;refine M0 ?_
  simp only [T.rows_len,decide_eq_true_eq] at hc
  have : ¬ l.length≤n:=by omega
  simp [fewB,this]
 ·simp only [T.rows_len,decide_eq_false_iff_not] at hc
  have hn : l.length≤n:=by omega
  refine C0 ?_;refine A8 ?_;refine A8 (A6 ?_);refine A5 J J J (A9 J gU) ?_;refine B0 ?_;refine C4 ?_;refine P3 (fewS l n m) (fun k=>k≤l.length∧0≤T.buds (l.take k) m) (fun k=>l.length - k) 0 ⟨Nat.zero_le _,by simp [T.buds]⟩ ?_ ?_
  ·refine B4 ⟨⟨_,rfl,rfl⟩,⟨_,rfl,rfl⟩,⟨_,rfl,rfl⟩,O⟩ O O
  ·rintro k ⟨hk,hz⟩
   have hbl:=T.buds_le _ _ hz
   refine A8 ?_;refine A8 (A6 ?_);refine A5 J J J (A7 J gU) ?_;refine A5 J J J (A7 J gU) ?_;refine D9 J J J J J gU J J ?_ (fun hh=>by simp at hh); intro hlen;refine A5 J J J (B7 J J gU gU J) ?_;refine B0 ?_;refine B9 J (fun hc2=>?_) (fun hc2=>?_)
   ·rw[T.rows_len] at hlen hc2
    have hlt : k < l.length:=by simpa using hc2
    obtain ⟨x,hx⟩ : ∃ x,l[k]? = some x:=⟨_,List.getElem?_eq_getElem hlt⟩
    refine C0 ?_;refine A8 ?_;refine C4 ?_;refine A8 (A6 ?_);refine A5 J J J (A7 J gU) ?_;refine A5 J J J (A7 J gU) ?_;refine A5 J J J (C2 J J gU gU J J J (fun _=>T.rows_get hx)) ?_;refine A5 J J J (D4 J gU J J J J) ?_;refine A5 J J J (A7 J gU) ?_;refine C8 J J J J J J gU gU (Pp m x _ (by omega) (by omega) (by omega)) J ?_;refine A5 J J J (A9 J gU) ?_;refine B0 ?_;refine B5 (s:=⟨[(0,_,_),(2,_,_),(7,_,_)],[],[],[]⟩) (B4 (⟨U J,U J,U J,O⟩) O O) ?_;refine A8 (A6 ?_);refine A5 J J J (A7 J gU) ?_;refine A5 J J J (B7 J J gU gU J) ?_;refine B0 ?_;refine B9 J (fun hc3=>?_) (fun hc3=>?_)
    ·refine A8 (A6 ?_)
     refine A5 J J J (A9 J gU) ?_;refine B0 ?_;refine C1 ?_
     repeat(first|refine tR ?_|refine bR ?_)
     refine C5 J ?_ O;refine M0 ?_
     simp only [decide_eq_true_eq] at hc3
     simp [fewB,T.buds_hit _ _ _ _ hx hz hc3]
    ·simp only [decide_eq_false_iff_not] at hc3
     have hst:=T.buds_step _ _ _ _ hx hz (by omega)
     refine C0 ?_;refine A6 ?_;refine A5 J J J (A7 J gU) ?_;refine A5 J J J (D0 J J gU gU J (IntWalk.i64_in _ (by omega))) ?_;refine A5 J J J (A9 J gU) ?_;refine B0 ?_;refine ⟨k + 1,⟨by omega,by rw[hst]; omega⟩,by omega,?_⟩;refine B4 ⟨⟨_,rfl,rfl⟩,⟨_,rfl,by rw[hst]⟩,⟨_,rfl,rfl⟩,O⟩ O O
   ·refine E2 ?_
    repeat(first|refine D5 ?_|refine D6 ?_|refine D2 J ?_)
    refine A8 (A6 ?_);refine A5 J J J (A9 J gU) ?_;refine B0 ?_;refine C1 ?_
    repeat(first|refine tR ?_|refine bR ?_)
    refine C5 J ?_ O
    rw[T.rows_len] at hc2
    have : k=l.length:=by simp at hc2; omega
    subst this
    rw[List.take_length] at hz
    exact M0 (by simp [fewB,hn,hz])
end Go.Proofs.YteidahabkfgfjaaGreat
namespace Go.Proofs.YteidahabkfgfjaaGreat
open Go Go.Abs
theorem uB6 (l r : List T) : X.v (.c (.sl 4 (T.rows l++T.rows r)))=xl (l++r):=by simp [xl,T.rows_eq]
def W4 (l : List Gl) : List T:=(l.map Gl.data).flatten
theorem So {l : List Gl} {k : Nat} (h : k < l.length) : W4 (l.take (k + 1))=W4 (l.take k)++(l.getD k default).data:=by
 rw[I0 (d:=default) h]; simp [W4]
theorem Vm {l : List Gl} (h : ∀ g ∈ l,g.data.length≤2097152) : (W4 l).length≤2097152 * l.length:=by
 induction l with
 | nil=>simp [W4]
 | cons g l ih =>
  have h1:=h g (by simp)
  have h2:=ih fun x hx=>h x (by simp [hx])
  simp only [W4,List.map_cons,List.flatten_cons,List.length_append,List.length_cons,Nat.mul_succ] at h2 ⊢
  omega
def No (n : Nar) : List T:=n.steps.map Sp.msg++W4 n.goals
def fewN (n : Nar) : Bool:=(decide (n.roles.length≤16) && decide (n.fresh.length≤16) && decide (n.tags.length≤16) && decide (n.steps.length≤16) && decide (n.goals.length≤16)) && fewB (No n) 100 900
theorem Th (n : Nar) (hd : ∀ g ∈ n.goals,g.data.length≤2097152) : Ctr sys 12 [xn n] [] (xb (fewN n)) none []:=by
 have l1:=B3 n.roles
 have l3:=Fs.rows_len n.fresh
 have l4:=B3 n.tags
 have l5:=Sp.rows_len n.steps
 have l6:=Gl.rows_len n.goals
 refine D1 Tryz.func12 J J J J J J ?_;refine A8 (A6 ?_);refine C3 J (D8 J J J J) ?_;refine A5 J J J (A9 J gU) ?_;refine B0 ?_;refine A8 ?_;refine A8 (A6 ?_);refine A5 J J J (B1 J gU J J) ?_;refine A5 J J J (B2 J gU J J J J) ?_;refine D9 J J J J J gU J J ?_ (fun hh=>by simp at hh); intro hlen;refine A5 J J J (B7 J J gU gU J) ?_;refine A5 J J J (A7 J gU) ?_;refine A5 J J J (B1 J gU J J) ?_;refine A5 J J J (B2 J (fun hh=>hh) J J J J) ?_;refine A5 J J J (G7 J (fun hh=>hh) J J) ?_;refine A5 J J J (B7 J J (fun hh=>hh) gU J) ?_;refine A5 J J J (E5 J J gU (fun _ hi=>gP J hi)) ?_;refine H3 (s:=⟨[(1,_,_),(15,_,_)],[(.l 1,_)],[],[]⟩) (B4 (⟨U J,U J,O⟩) (⟨U J,O⟩) O) ?_;refine A5 J J J (A7 J gU) ?_;refine A5 J J J (B1 J gU J J) ?_;refine A5 J J J (B2 J (fun hh=>hh) J J J J) ?_;refine A5 J J J (G7 J (fun hh=>hh) J J) ?_;refine A5 J J J (B7 J J (fun hh=>hh) gU J) ?_;refine A5 J J J (E5 J J gU (fun _ hi=>gP J hi)) ?_;refine A5 J J J (A7 J gU) ?_
 refine A5 J J J (B1 J gU J J) ?_;refine A5 J J J (B2 J (fun hh=>hh) J J J J) ?_;refine A5 J J J (G7 J (fun hh=>hh) J J) ?_;refine A5 J J J (B7 J J (fun hh=>hh) gU J) ?_;refine A5 J J J (E5 J J gU (fun _ hi=>gP J hi)) ?_;refine H3 (s:=⟨[(1,_,_),(27,_,_)],[(.l 1,_)],[],[]⟩) (B4 (⟨U J,U J,O⟩) (⟨U J,O⟩) O) ?_;refine A5 J J J (A7 J gU) ?_;refine A5 J J J (B1 J gU J J) ?_;refine A5 J J J (B2 J (fun hh=>hh) J J J J) ?_;refine A5 J J J (G7 J (fun hh=>hh) J J) ?_;refine A5 J J J (B7 J J (fun hh=>hh) gU J) ?_;refine A5 J J J (E5 J J gU (fun _ hi=>gP J hi)) ?_;refine B0 ?_;refine B5 (s:=⟨[(1,_,_),(33,_,_)],[(.l 1,_)],[],[]⟩) (B4 (⟨U J,U J,O⟩) (⟨U J,O⟩) O) ?_;refine B9 J (fun hc=>?_) (fun hc=>?_)
 ·try simp only [nn,B3,nq] at hc
  refine A8 (A6 ?_);refine A5 J J J (A9 J gU) ?_;refine B0 ?_;refine C1 ?_
  repeat(first|refine tR ?_|refine bR ?_)
  refine C5 J ?_ O
  (refine M0 ?_; symm; unfold fewN; rw[Bool.eq_false_iff]; intro q; simp only [Bool.and_eq_true,decide_eq_true_eq] at q; omega)
 ·try simp only [nn,B3,nq] at hc
  have h16 : n.roles.length≤16∧n.fresh.length≤16∧n.tags.length≤16∧n.steps.length≤16∧n.goals.length≤16:=by omega
  have hE : fewN n=fewB (No n) 100 900:=by
   unfold fewN
   rw[decide_eq_true h16.1,decide_eq_true h16.2.1,decide_eq_true h16.2.2.1,decide_eq_true h16.2.2.2.1,decide_eq_true h16.2.2.2.2]; rfl
  rw[hE]
  refine C0 ?_;refine A8 (A6 ?_);refine C3 J (H4 (.inr J) J J) ?_;refine B0 ?_;refine A8 ?_;refine A8 (A6 ?_);refine A5 J J J (A9 J gU) ?_;refine B0 ?_;refine C4 ?_;refine F3 (ι:=Nat) { t:=[(1,_,_)],bx:=[(.l 1,_)],ow:=[(.t 3,_)] } (fun k=>[(4,true,xi (k : Int)),(3,true,xl ((n.steps.take k).map Sp.msg))]) (fun k=>[]) (fun k=>k≤n.steps.length) (fun k=>n.steps.length - k) (0) (by simp) (B4 (⟨U J,U J,U J,O⟩) (⟨U J,O⟩) (⟨rfl,O⟩)) ?_
  intro k hoka
  dsimp only [List.cons_append,List.nil_append]
  refine A8 ?_;refine A8 (A6 ?_);refine A5 J J J (A7 J gU) ?_;refine A5 J J J (B1 J gU J J) ?_;refine A5 J J J (B2 J gU J J J J) ?_;refine D9 J J J J J gU J J ?_ (fun hh=>by simp at hh); intro hlen;refine A5 J J J (B7 J J gU gU J) ?_;refine B0 ?_;refine B5 (s:=⟨[(1,_,_),(3,_,_),(4,_,_),(38,_,_)],[(.l 1,_)],[(.t 3,_)],[]⟩) (B4 (⟨U J,U J,U J,U J,O⟩) (⟨U J,O⟩) (⟨rfl,O⟩)) ?_;refine B9 J (fun hc2=>?_) (fun hc2=>?_)
  ·try simp only [nn,B3,nq] at hc2
   have hT:=I0 (l:=n.steps) (d:=default) (k:=k) (by omega)
   refine C0 ?_;refine A8 ?_;refine C4 ?_;refine A6 ?_;refine C3 J (F2 (.inl J) J J J) ?_;refine A5 J J J (B1 J gU J J) ?_;refine A5 J J J (B2 J gU J J J J) ?_;refine A5 J J J (A7 J gU) ?_;refine A5 J J J (C2 J J gU gU J J J (fun hh=>Sp.rows_at (by first|omega|(simp at hh ⊢; omega)))) ?_;refine A5 J J J (F1 J gU J J) ?_;refine A5 J J J (D4 J gU J J J J) ?_;refine E8 (xs:=[_]) J J J J J J J J J gU J ?_;refine C3 J (F7 J J J J J J J (by first|omega|(simp only [List.length_append,List.length_singleton,T.rows_len,List.length_map,List.length_take]; omega)) (by first|omega|(simp only [List.length_append,List.length_singleton,T.rows_len,List.length_map,List.length_take]; omega))) ?_;refine C3 J (F2 (.inr J) J J J) ?_;refine B0 ?_;refine B5 (s:=⟨[(1,_,_),(3,_,_),(4,_,_)],[(.l 1,_)],[(.t 3,_)],[]⟩) (B4 (⟨U J,U J,U J,O⟩) (⟨U J,O⟩) (⟨rfl,O⟩)) ?_;refine A6 ?_;refine A5 J J J (A7 J gU) ?_;refine A5 J J J (D0 J J gU gU J (IntWalk.i64_in _ (by omega))) ?_;refine A5 J J J (A9 J gU) ?_;refine B0 ?_;refine ⟨k + 1,?_,?_,B4 (⟨⟨_,rfl,?_⟩,⟨⟨_,rfl,?_⟩,⟨U J,O⟩⟩⟩) (⟨U J,O⟩) (⟨rfl,O⟩)⟩
   all_goals (first|rfl|omega|exact tx ((Eb _ _).trans (by rw[hT,List.map_append]; rfl)))
  ·try simp only [nn,B3,nq] at hc2
   have hk : k=n.steps.length:=by omega
   subst hk
   refine E2 ?_
   repeat(first|refine D5 ?_|refine D6 ?_|refine D2 J ?_)
   refine A8 ?_;refine A8 (A6 ?_);refine A5 J J J (A9 J gU) ?_;refine B0 ?_;refine C4 ?_;refine F3 (ι:=Nat) { t:=[(1,_,_)],bx:=[(.l 1,_)],ow:=[(.t 3,_)] } (fun j=>[(5,true,xi (j : Int)),(3,true,xl (n.steps.map Sp.msg++W4 (n.goals.take j)))]) (fun j=>[]) (fun j=>j≤n.goals.length) (fun j=>n.goals.length - j) (0) (by simp) (B4 (⟨U J,⟨⟨_,rfl,by simp [W4]⟩,⟨U J,O⟩⟩⟩) (⟨U J,O⟩) (⟨rfl,O⟩)) ?_
   intro j hokb
   dsimp only [List.cons_append,List.nil_append]
   have hdl:=Vm (l:=n.goals.take j) fun g hg=>hd g (List.mem_of_mem_take hg)
   rw[List.length_take] at hdl
   refine A8 ?_;refine A8 (A6 ?_);refine A5 J J J (A7 J gU) ?_;refine A5 J J J (B1 J gU J J) ?_;refine A5 J J J (B2 J gU J J J J) ?_;refine D9 J J J J J gU J J ?_ (fun hh=>by simp at hh); intro hlen;refine A5 J J J (B7 J J gU gU J) ?_;refine B0 ?_;refine B5 (s:=⟨[(1,_,_),(3,_,_),(5,_,_),(54,_,_)],[(.l 1,_)],[(.t 3,_)],[]⟩) (B4 (⟨U J,U J,U J,U J,O⟩) (⟨U J,O⟩) (⟨rfl,O⟩)) ?_;refine B9 J (fun hc3=>?_) (fun hc3=>?_)
   ·try simp only [nn,B3,nq] at hc3
    have hT:=So (l:=n.goals) (k:=j) (by omega)
    have hdj : (n.goals.getD j default).data.length≤2097152:=hd _ (by rw[List.getD_eq_getElem?_getD,List.getElem?_eq_getElem (by omega)]; exact List.getElem_mem _)
    refine C0 ?_;refine A8 ?_;refine C4 ?_;refine A6 ?_;refine C3 J (F2 (.inl J) J J J) ?_;refine A5 J J J (B1 J gU J J) ?_;refine A5 J J J (B2 J gU J J J J) ?_;refine A5 J J J (A7 J gU) ?_;refine A5 J J J (C2 J J gU gU J J J (fun hh=>Gl.rows_at (by first|omega|(simp at hh ⊢; omega)))) ?_;refine A5 J J J (F1 J gU J J) ?_;refine A5 J J J (E3 J gU J J J) ?_;refine C3 J (F7 J J J J J J J (by first|omega|(simp only [List.length_append,List.length_singleton,T.rows_len,List.length_map,List.length_take]; omega)) (by first|omega|(simp only [List.length_append,List.length_singleton,T.rows_len,List.length_map,List.length_take]; omega))) ?_;refine C3 J (F2 (.inr J) J J J) ?_;refine B0 ?_;refine B5 (s:=⟨[(1,_,_),(3,_,_),(5,_,_)],[(.l 1,_)],[(.t 3,_)],[]⟩) (B4 (⟨U J,U J,U J,O⟩) (⟨U J,O⟩) (⟨rfl,O⟩)) ?_;refine A6 ?_;refine A5 J J J (A7 J gU) ?_;refine A5 J J J (D0 J J gU gU J (IntWalk.i64_in _ (by omega))) ?_;refine A5 J J J (A9 J gU) ?_;refine B0 ?_;refine ⟨j + 1,?_,?_,B4 (⟨⟨_,rfl,?_⟩,⟨⟨_,rfl,?_⟩,⟨U J,O⟩⟩⟩) (⟨U J,O⟩) (⟨rfl,O⟩)⟩
    all_goals (first|rfl|omega|exact tx ((uB6 _ _).trans (by rw[hT,List.append_assoc])))
   ·try simp only [nn,B3,nq] at hc3
    have hk : j=n.goals.length:=by omega
    subst hk
    have e : n.steps.map Sp.msg++W4 (n.goals.take n.goals.length)=No n:=by rw[List.take_length]; rfl
    rw[e]
    refine E2 ?_
    repeat(first|refine D5 ?_|refine D6 ?_|refine D2 J ?_)
    refine A8 (A6 ?_);refine A5 J J J (A7 J gU) ?_;refine C8 J J J J J J gU gU (uAL (No n) 100 900 (by omega)) J ?_;refine A5 J J J (A9 J gU) ?_;refine B0 ?_;refine C1 ?_
    repeat(first|refine tR ?_|refine bR ?_)
    refine C5 J ?_ O
    rfl
theorem uA8 {n : Nar} (h : fewN n=true) : n.steps.length≤16∧n.goals.length≤16∧(∀ s ∈ n.steps,s.msg.size≤900000) ∧ ∀ g ∈ n.goals,T.sizes g.data≤900000:=by
 simp only [fewN,Bool.and_eq_true,decide_eq_true_eq] at h
 obtain ⟨_,h2⟩:=Sf h.2
 have h3 : T.sizes (n.steps.map Sp.msg++W4 n.goals)≤900:=by unfold No at h2; omega
 have happ : ∀ a b : List T,T.sizes (a++b)=T.sizes a + T.sizes b:=by
  intro a b
  induction a with
  | nil=>simp [T.sizes]
  | cons t a ih=>simp only [List.cons_append,T.sizes,ih]; omega
 rw[happ] at h3
 refine ⟨h.1.1.2,h.1.2,fun s hs=>?_,fun g hg=>?_⟩
 ·have : ∀ l : List Sp,s ∈ l→s.msg.size≤T.sizes (l.map Sp.msg):=by
   intro l hl
   induction l with
   | nil=>simp at hl
   | cons x l ih =>
    simp only [List.map_cons,T.sizes]
    rcases List.mem_cons.1 hl with q | q
    ·subst q; omega
    ·have := ih q; omega
  have := this _ hs
  omega
 ·have : ∀ l : List Gl,g ∈ l→T.sizes g.data≤T.sizes (W4 l):=by
   intro l hl
   induction l with
   | nil=>simp at hl
   | cons x l ih =>
    have e : W4 (x :: l)=x.data++W4 l:=by simp [W4]
    rw[e,happ]
    rcases List.mem_cons.1 hl with q | q
    ·subst q; omega
    ·have := ih q; omega
  have := this _ hg
  omega
namespace T
mutual
def all : T→List T
 | mk k n s ks=>mk k n s ks :: alls ks
def alls : List T→List T
 | []=>[]
 | t :: ts=>all t++alls ts
end
end T
end Go.Proofs.YteidahabkfgfjaaGreat
namespace Go.Proofs.YteidahabkfgfjaaGreat
open Go Go.Abs
abbrev xr (l : List Tk) (p : PS) : X:=.v (.agg (pbx l p))
theorem Ws (s : List UInt8) (k : Int) : Ctr sys 50 [xs s,xi k] [] (xm ⟨2,s,k,[]⟩) none []:=by
 refine D1 Tryz.func50 J J J J J J ?_;refine A8 (A6 ?_);refine C3 J (E1 J J J) ?_;refine B0 ?_;refine A8 (A6 ?_);refine A5 J J J (A7 J gU) ?_;refine A5 J J J (A7 J gU) ?_;refine A5 J J J (H6 J Tryz.underlying47 J gU) ?_;refine C3 J (C7 J J J J J J J) ?_;refine B0 ?_;refine C1 ?_
 repeat(first|refine tR ?_|refine bR ?_)
 refine C5 J ?_ O
 rfl
theorem Zg (s : List UInt8) (ks : List T) (hk : ks.length≤3000000) : Ctr sys 166 [xs s,xl ks] [] (xm ⟨3,s,0,ks⟩) none []:=by
 have hrl:=T.rows_len ks
 refine D1 Tryz.func166 J J J J J J ?_;refine A8 (A6 ?_);refine C3 J (E1 J J J) ?_;refine B0 ?_;refine A8 (A6 ?_);refine A5 J J J (A7 J gU) ?_;refine E8 (xs:=[]) J J J J J J J J J gU J ?_;refine A5 J J J (A7 J gU) ?_;refine C3 J (F7 J J J J J J J (by first|omega|(simp only [List.length_nil]; omega)) (by first|omega|(simp only [List.length_nil]; omega))) ?_;refine A5 J J J (H6 J Tryz.underlying47 J gU) ?_;refine C3 J (C7 J J J J J J J) ?_;refine B0 ?_;refine C1 ?_
 repeat(first|refine tR ?_|refine bR ?_)
 refine C5 J ?_ O
 rfl
theorem Es (s : List UInt8) (rs : List (List C)) (ks : List T) (h : rs=T.rows ks) (hk : ks.length≤3000000) : Ctr sys 166 [xs s, .v (.c (.sl 4 rs))] [] (xm ⟨3,s,0,ks⟩) none []:=by
 subst h; exact Zg s ks hk
theorem F6 (l : List Tk) (p : PS) (c : List UInt8) (hl : l.length≤2000000) (hp : p.at'≤3000000) : Ctr sys 106 [xr l p,xs c] [] (xr l (E9 l c p)) none []:=by
 have hrl:=Tk.rows_len l
 refine D1 Tryz.func106 J J J J J J ?_;refine A8 (A6 ?_);refine C3 J (D8 J J J J) ?_;refine C3 J (E1 J J J) ?_;refine B0 ?_;refine A8 ?_;refine A8 (A6 ?_);refine A5 J J J (B1 J gU J J) ?_;refine A5 J J J (B2 J gU J J J J) ?_;refine A5 J J J (A7 J gU) ?_;refine A5 J J J (B1 J gU J J) ?_;refine A5 J J J (B2 J (fun hh=>hh) J J J J) ?_;refine A5 J J J (B1 J gU J J) ?_;refine A5 J J J (B2 J (fun hh=>hh) J J J J) ?_;refine A5 J J J (G7 J (fun hh=>hh) J J) ?_;refine A5 J J J (B7 J J (fun hh=>hh) (fun hh=>hh) J) ?_;refine A5 J J J (E5 J J gU (fun _ hi=>gP J hi)) ?_;refine H3 (s:=⟨[(1,_,_),(2,_,_),(4,_,_),(14,_,_)],[(.l 2,_),(.l 4,_)],[],[]⟩) (B4 (⟨U J,U J,U J,U J,O⟩) (⟨U J,U J,O⟩) O) ?_;refine A5 J J J (A7 J gU) ?_;refine A5 J J J (B1 J gU J J) ?_;refine A5 J J J (B2 J (fun hh=>hh) J J J J) ?_;refine A5 J J J (B1 J gU J J) ?_;refine A5 J J J (B2 J (fun hh=>hh) J J J J) ?_;refine A5 J J J (C2 (j:=p.at') J J (fun hh=>hh) (fun hh=>hh) J J (by first|omega|(simp at hh ⊢; omega)) (fun hh=>Tk.rows_at (by first|omega|(simp at hh ⊢; omega)))) ?_
 refine A5 J J J (F1 J (fun hh=>hh) J J) ?_;refine A5 J J J (E3 J (fun hh=>hh) J J J) ?_;refine A5 J J J (B7 J J (fun hh=>hh) gU J) ?_;refine A5 J J J (E5 J J gU (fun _ hi=>gP J hi)) ?_;refine A5 J J J (A7 J gU) ?_;refine A5 J J J (B1 J gU J J) ?_;refine H3 (s:=⟨[(1,_,_),(2,_,_),(4,_,_),(25,_,_),(26,_,_)],[(.l 2,_),(.l 4,_)],[],[]⟩) (B4 (⟨U J,U J,U J,U J,U J,O⟩) (⟨U J,U J,O⟩) O) ?_;refine A5 J J J (B2 J (fun hh=>hh) J J J J) ?_;refine A5 J J J (B1 J gU J J) ?_;refine A5 J J J (B2 J (fun hh=>hh) J J J J) ?_;refine A5 J J J (C2 (j:=p.at') J J (fun hh=>hh) (fun hh=>hh) J J (by first|omega|(simp at hh ⊢; omega)) (fun hh=>Tk.rows_at (by first|omega|(simp at hh ⊢; omega)))) ?_;refine A5 J J J (F1 J (fun hh=>hh) J J) ?_;refine A5 J J J (E3 J (fun hh=>hh) J J J) ?_;refine A5 J J J (A7 J gU) ?_;refine A5 J J J (G0 J J (fun hh=>hh) (fun hh=>hh) J) ?_;refine A5 J J J (E5 J J gU (fun _ hi=>gP J hi)) ?_;refine B0 ?_;refine B5 (s:=⟨[(2,_,_),(4,_,_),(35,_,_)],[(.l 2,_),(.l 4,_)],[],[]⟩) (B4 (⟨U J,U J,U J,O⟩) (⟨U J,U J,O⟩) O) ?_
 refine B9 J (fun hc=>?_) (fun hc=>?_)
 ·try simp only [nn,B3,T.rows_len,Tk.rows_len] at hc
  have h : symQ l p c=false:=by simp only [symQ]; grind
  have h2 : E9 l c p=p.off:=by rw[E9,h]; rfl
  rw[h2]
  refine A8 (A6 ?_);refine A5 J J J (B1 J gU J J) ?_;refine C3 J (C7 J J J J J J J) ?_;refine B0 ?_;refine A8 (A6 ?_);refine A5 J J J (B8 J gU J J J J J) ?_;refine C3 J (C7 J J J J J J J) ?_;refine B0 ?_;refine C1 ?_
  repeat(first|refine tR ?_|refine bR ?_)
  refine C5 J ?_ O
  rfl
 ·try simp only [nn,B3,T.rows_len,Tk.rows_len] at hc
  have h : symQ l p c=true:=by simp only [symQ]; grind
  have h2 : E9 l c p=p.go:=by rw[E9,if_pos h]
  rw[h2]
  refine C0 ?_;refine A8 (A6 ?_);refine A5 J J J (B1 J gU J J) ?_;refine A5 J J J (B2 J gU J J J J) ?_;refine A5 J J J (D0 J J gU gU J (IntWalk.i64_in _ (by omega))) ?_;refine A5 J J J (B1 J gU J J) ?_;refine C3 J (C7 J J J J J J J) ?_;refine B0 ?_;refine A8 (A6 ?_);refine A5 J J J (B8 J gU J J J J J) ?_;refine C3 J (C7 J J J J J J J) ?_;refine B0 ?_;refine C1 ?_
  repeat(first|refine tR ?_|refine bR ?_)
  refine C5 J ?_ O
  (first|rfl|exact congrArg (fun z=>X.v (.agg z)) (Yq (by simp [PS.go]) J))
theorem Zf (l : List Tk) (c : List UInt8) (p : PS) : (E9 l c p).bad = !symQ l p c:=by
 unfold E9
 split
 ·rename_i h
  rw[h]; exact (N7 h).2
 ·rename_i h
  have : symQ l p c=false:=by simpa using h
  rw[this]; rfl
theorem P1 (l : List Tk) (p : PS) (c : List UInt8) (hl : l.length≤2000000) (hp : p.at'≤3000000) : Ctr sys 107 [xr l p,xs c] [] (xb (symQ l p c)) none []:=by
 refine D1 Tryz.func107 J J J J J J ?_;refine A8 (A6 ?_);refine C3 J (D8 J J J J) ?_;refine A5 J J J (A9 J gU) ?_;refine B0 ?_;refine A8 (A6 ?_);refine A5 J J J (B8 J gU J J J J J) ?_;refine A5 J J J (A7 J gU) ?_;refine C8 J J J J J J gU gU (F6 _ _ _ (by omega) (by omega)) J ?_;refine A5 J J J (Hw J gU (Tryz.underlying119) J J J J J J) ?_;refine A5 J J J (F8 J gU) ?_;refine A5 J J J (A9 J gU) ?_;refine B0 ?_;refine C1 ?_
 repeat(first|refine tR ?_|refine bR ?_)
 refine C5 J ?_ O;exact M0 (by rw[Zf]; simp)
theorem K0 (l : List Tk) (p : PS) (hl : l.length≤2000000) (hp : p.at'≤3000000) : Ctr sys 105 [xr l p] [] (.tup [.c (.s (C9 l [] p).1), .agg (pbx l (C9 l [] p).2)]) none []:=by
 have hrl:=Tk.rows_len l
 refine D1 Tryz.func105 J J J J J J ?_;refine A8 (A6 ?_);refine C3 J (D8 J J J J) ?_;refine A5 J J J (A9 J gU) ?_;refine C3 J (E1 J J J) ?_;refine B0 ?_;refine A8 ?_;refine A8 (A6 ?_);refine A5 J J J (B1 J gU J J) ?_;refine A5 J J J (B2 J gU J J J J) ?_;refine A5 J J J (A7 J gU) ?_;refine A5 J J J (B1 J gU J J) ?_;refine A5 J J J (B2 J (fun hh=>hh) J J J J) ?_;refine A5 J J J (B1 J gU J J) ?_;refine A5 J J J (B2 J (fun hh=>hh) J J J J) ?_;refine A5 J J J (G7 J (fun hh=>hh) J J) ?_;refine A5 J J J (B7 J J (fun hh=>hh) (fun hh=>hh) J) ?_;refine H3 (s:=⟨[(1,_,_),(3,_,_),(6,_,_),(12,_,_)],[(.l 1,_),(.l 3,_)],[],[]⟩) (B4 (⟨U J,U J,U J,U J,O⟩) (⟨U J,U J,O⟩) O) ?_;refine A5 J J J (E5 J J gU (fun _ hi=>gP J hi)) ?_;refine A5 J J J (A7 J gU) ?_;refine A5 J J J (B1 J gU J J) ?_;refine A5 J J J (B2 J (fun hh=>hh) J J J J) ?_;refine A5 J J J (B1 J gU J J) ?_;refine A5 J J J (B2 J (fun hh=>hh) J J J J) ?_
 refine A5 J J J (C2 (j:=p.at') J J (fun hh=>hh) (fun hh=>hh) J J (by first|omega|(simp at hh ⊢; omega)) (fun hh=>Tk.rows_at (by first|omega|(simp at hh ⊢; omega)))) ?_;refine A5 J J J (F1 J (fun hh=>hh) J J) ?_;refine A5 J J J (E3 J (fun hh=>hh) J J J) ?_;refine A5 J J J (B7 J J (fun hh=>hh) gU J) ?_;refine A5 J J J (E5 J J gU (fun _ hi=>gP J hi)) ?_;refine B0 ?_;refine B5 (s:=⟨[(1,_,_),(3,_,_),(23,_,_)],[(.l 1,_),(.l 3,_)],[],[]⟩) (B4 (⟨U J,U J,U J,O⟩) (⟨U J,U J,O⟩) O) ?_;refine B9 J (fun hc=>?_) (fun hc=>?_)
 ·try simp only [nn,B3,T.rows_len,Tk.rows_len] at hc
  have h : namQ l p []=false:=by simp only [namQ]; grind
  have h2 : C9 l [] p=([],p.off):=by rw[C9,h]; rfl
  rw[h2]
  refine A8 (A6 ?_);refine A5 J J J (B1 J gU J J) ?_;refine C3 J (C7 J J J J J J J) ?_;refine B0 ?_;refine A8 ?_;refine awp_drawn' (by kernel_rfl) ?_;refine D7 J J J J J J J gU J J J J J ?_;refine B6 J J J J (A9 J gU) ?_;refine F0 J J J J J J J J J J J J ?_;refine F9 (by kernel_rfl) ?_;refine C1 ?_
  repeat(first|refine tR ?_|refine bR ?_)
  refine C5 J ?_ O
  rfl
 ·try simp only [nn,B3,T.rows_len,Tk.rows_len] at hc
  have h : namQ l p []=true:=by simp only [namQ]; grind
  have h2 : C9 l [] p=((l.getD p.at' tk0).text,p.go):=by rw[C9,if_pos h]
  rw[h2]
  refine C0 ?_;refine A8 (A6 ?_);refine A5 J J J (B1 J gU J J) ?_;refine A5 J J J (B2 J gU J J J J) ?_;refine A5 J J J (D0 J J gU gU J (IntWalk.i64_in _ (by omega))) ?_;refine A5 J J J (B1 J gU J J) ?_;refine C3 J (C7 J J J J J J J) ?_;refine B0 ?_;refine A8 ?_;refine awp_drawn' (by kernel_rfl) ?_;refine B6 J J J J (B1 J gU J J) ?_;refine G5 J J J J J J J gU J J J J ?_;refine B6 J J J J (B1 J gU J J) ?_;refine G5 J J J J J J J gU J J J J ?_;refine B6 J J J J (D0 J J gU gU J (IntWalk.i64_in _ (by omega))) ?_;refine B6 J J J J (C2 (j:=p.at') J J gU gU J J (by first|omega|(simp at hh ⊢; omega)) (fun hh=>Tk.rows_at (by first|omega|(simp at hh ⊢; omega)))) ?_;refine B6 J J J J (F1 J gU J J) ?_;refine B6 J J J J (E3 J gU J J J) ?_;refine D7 J J J J J J J gU J J J J J ?_;refine B6 J J J J (A9 J gU) ?_;refine F0 J J J J J J J J J J J J ?_;refine F9 (by kernel_rfl) ?_;refine C1 ?_
  repeat(first|refine tR ?_|refine bR ?_)
  refine C5 J ?_ O
  (first|rfl|exact congrArg (fun z=>X.tup [.c (.s (l.getD p.at' tk0).text), .agg z]) (Yq (by simp [PS.go]) J))
theorem Tn (l : List Tk) (p : PS) (hl : l.length≤2000000) : Ctr sys 109 [xr l p] [] (xi (Nt l p)) none []:=by
 have hrl:=Tk.rows_len l
 refine D1 Tryz.func109 J J J J J J ?_;refine A8 (A6 ?_);refine C3 J (D8 J J J J) ?_;refine A5 J J J (A9 J gU) ?_;refine B0 ?_;refine A8 ?_;refine A8 (A6 ?_);refine A5 J J J (B1 J gU J J) ?_;refine A5 J J J (B2 J gU J J J J) ?_;refine D9 J J J J J gU J J ?_ (fun hh=>by simp at hh); intro hlen;refine A5 J J J (B7 J J gU gU J) ?_;refine B0 ?_;refine B5 (s:=⟨[(1,_,_),(6,_,_)],[(.l 1,_)],[],[]⟩) (B4 (⟨U J,U J,O⟩) (⟨U J,O⟩) O) ?_;refine B9 J (fun hc=>?_) (fun hc=>?_)
 ·try simp only [nn,B3,T.rows_len,Tk.rows_len] at hc
  refine A8 (A6 ?_);refine A5 J J J (A9 J gU) ?_;refine B0 ?_;refine C1 ?_
  repeat(first|refine tR ?_|refine bR ?_)
  refine C5 J ?_ O
  (rw[Nt,if_pos (by omega)]; rfl)
 ·try simp only [nn,B3,T.rows_len,Tk.rows_len] at hc
  refine C0 ?_;refine A8 (A6 ?_);refine A5 J J J (B1 J gU J J) ?_;refine A5 J J J (B2 J gU J J J J) ?_;refine A5 J J J (B1 J gU J J) ?_;refine A5 J J J (B2 J gU J J J J) ?_;refine A5 J J J (B1 J gU J J) ?_;refine A5 J J J (B2 J gU J J J J) ?_;refine D9 J J J J J gU J J ?_ (fun hh=>by simp at hh); intro hlen;refine A5 J J J (D0 J J gU gU J (IntWalk.i64_in _ (by omega))) ?_;refine A5 J J J (Yp J J gU gU) ?_;refine A5 J J J (C2 (j:=(min p.at' (l.length - 1))) J J gU gU J J (by first|omega|(simp at hh ⊢; omega)) (fun hh=>Tk.rows_at (by first|omega|(simp at hh ⊢; omega)))) ?_;refine A5 J J J (F1 J gU J J) ?_;refine A5 J J J (E3 J gU J J J) ?_;refine H3 (s:=⟨[(18,_,_)],[],[],[]⟩) (B4 (⟨U J,O⟩) O O) ?_;refine A5 J J J (A9 J gU) ?_;refine B0 ?_;refine C1 ?_
  repeat(first|refine tR ?_|refine bR ?_)
  refine C5 J ?_ O
  rw[Nt,if_neg (by omega)]
  split
  ·rename_i h
   exact H2 (by rw[show min p.at' (l.length - 1)=l.length - 1 by omega])
  ·rename_i h
   exact H2 (by rw[show min p.at' (l.length - 1)=p.at' by omega])
theorem Vz {l : List (List UInt8)} {s : List UInt8} {k : Nat} {e : Int} (h : k < l.length) (hi : (if idxF (fun x=>decide (x=s) && decide (s≠[])) (l.drop k) < 0 then 0 else idxF (fun x=>decide (x=s) && decide (s≠[])) (l.drop k) + k)=e) :
  ((l.getD k []=s∧s≠[])→e=k)∧(¬(l.getD k []=s∧s≠[])→(if idxF (fun x=>decide (x=s) && decide (s≠[])) (l.drop (k + 1)) < 0 then 0 else idxF (fun x=>decide (x=s) && decide (s≠[])) (l.drop (k + 1)) + (k + 1 : Nat))=e):=by
 rw[Lr (d:=[]) h,idxF] at hi
 refine ⟨fun q=>?_,fun q=>?_⟩
 ·have e1 : (decide (l.getD k []=s) && decide (s≠[]))=true:=by simp only [Bool.and_eq_true,decide_eq_true_eq]; exact q
  rw[e1] at hi
  simp at hi; omega
 ·have e1 : (decide (l.getD k []=s) && decide (s≠[]))=false:=by
   rw[Bool.eq_false_iff]; simp only [ne_eq,Bool.and_eq_true,decide_eq_true_eq]; exact q
  rw[e1] at hi
  simp only [Bool.false_eq_true,if_false] at hi
  have hg:=Mp (fun x=>decide (x=s) && decide (s≠[])) (l.drop (k + 1))
  generalize idxF (fun x=>decide (x=s) && decide (s≠[])) (List.drop (k + 1) l)=x at hi hg ⊢
  rw[← hi]
  by_cases hx : x < 0
  ·rw[if_pos hx,if_pos hx]; simp
  ·rw[if_neg hx,if_neg hx,if_neg (by omega)]; push_cast; omega
theorem Fn (l : List (List UInt8)) (s : List UInt8) : Ctr sys 131 [xss l,xs s] [] (xi (idx0 l s)) none []:=by
 have hrl:=B3 l
 refine D1 Tryz.func131 J J J J J J ?_;refine A8 (A6 ?_);refine A5 J J J (A9 J gU) ?_;refine B0 ?_;refine A8 ?_;refine A8 (A6 ?_);refine A5 J J J (A9 J gU) ?_;refine B0 ?_;refine C4 ?_;refine F3 (ι:=Nat) { t:=[(0,_,_),(1,_,_)],bx:=[],ow:=[] } (fun k=>[(5,true,xi (k : Int))]) (fun k=>[]) (fun k=>k≤l.length∧(if idxF (fun x=>decide (x=s) && decide (s≠[])) (l.drop k) < 0 then 0 else idxF (fun x=>decide (x=s) && decide (s≠[])) (l.drop k) + k)=idx0 l s) (fun k=>l.length - k) (0) (⟨by simp,by simp [idx0]⟩) (B4 (⟨U J,U J,U J,O⟩) O O) ?_
 intro k hok
 dsimp only [List.cons_append,List.nil_append]
 obtain ⟨hk,hi⟩:=hok
 refine A8 ?_;refine A8 (A6 ?_);refine A5 J J J (A7 J gU) ?_;refine A5 J J J (A7 J gU) ?_;refine D9 J J J J J gU J J ?_ (fun hh=>by simp at hh); intro hlen;refine A5 J J J (B7 J J gU gU J) ?_;refine B0 ?_;refine B9 J (fun hc=>?_) (fun hc=>?_)
 ·try simp only [nn,B3,T.rows_len,Tk.rows_len] at hc
  have hlt : k < l.length:=by omega
  have hd:=Vz hlt hi
  refine C0 ?_;refine A8 ?_;refine C4 ?_;refine A8 (A6 ?_);refine A5 J J J (A7 J gU) ?_;refine A5 J J J (A7 J gU) ?_;refine A5 J J J (C2 J J gU gU J J J (fun hh=>L1 (by first|omega|(simp at hh ⊢; omega)))) ?_;refine A5 J J J (E3 J gU J J J) ?_;refine A5 J J J (A7 J gU) ?_;refine A5 J J J (G0 J J gU gU J) ?_;refine A5 J J J (A7 J gU) ?_;refine A5 J J J (A7 J gU) ?_;refine H3 (s:=⟨[(0,_,_),(1,_,_),(5,_,_),(18,_,_),(19,_,_)],[],[],[]⟩) (B4 (⟨U J,U J,U J,U J,U J,O⟩) O O) ?_;refine A5 J J J (G0 J J (fun hh=>hh) gU J) ?_;refine A5 J J J (E0 J J gU (fun _ hi=>gP J hi)) ?_;refine B0 ?_;refine B9 J (fun hc2=>?_) (fun hc2=>?_)
  ·try simp only [nn,B3,T.rows_len,Tk.rows_len] at hc2
   refine A8 (A6 ?_);refine A5 J J J (A7 J gU) ?_;refine A5 J J J (A9 J gU) ?_;refine B0 ?_;refine C1 ?_
   repeat(first|refine tR ?_|refine bR ?_)
   refine C5 J ?_ O;exact H2 (hd.1 hc2).symm
  ·try simp only [nn,B3,T.rows_len,Tk.rows_len] at hc2
   refine C0 ?_;refine A6 ?_;refine A5 J J J (A7 J gU) ?_;refine A5 J J J (D0 J J gU gU J (IntWalk.i64_in _ (by omega))) ?_;refine A5 J J J (A9 J gU) ?_;refine B0 ?_;refine ⟨k + 1,?_,?_,B4 (⟨⟨_,rfl,?_⟩,⟨U J,U J,O⟩⟩) O O⟩
   all_goals (first|rfl|omega|exact ⟨by omega,hd.2 (by rintro ⟨q1,q2⟩; rcases hc2 with q|q; exact q q1; exact q2 (by simpa using q))⟩)
 ·try simp only [nn,B3,T.rows_len,Tk.rows_len] at hc
  rw[List.drop_of_length_le (by omega)] at hi
  refine E2 ?_
  repeat(first|refine D5 ?_|refine D6 ?_|refine D2 J ?_)
  refine A8 (A6 ?_);refine A5 J J J (A9 J gU) ?_;refine B0 ?_;refine C1 ?_
  repeat(first|refine tR ?_|refine bR ?_)
  refine C5 J ?_ O;exact H2 hi
theorem T8 (l : List Tk) (p : PS) (ws : List (List UInt8)) (hl : l.length≤2000000) (hp : p.at'≤3000000) : Ctr sys 104 [xr l p,xss ws] [] (.tup [.c (.i .i64 (chR l ws p).1), .agg (pbx l (chR l ws p).2)]) none []:=by
 refine D1 Tryz.func104 J J J J J J ?_;refine A8 (A6 ?_);refine C3 J (D8 J J J J) ?_;refine A5 J J J (A9 J gU) ?_;refine C3 J (E1 J J J) ?_;refine B0 ?_;refine A8 (A6 ?_);refine A5 J J J (B8 J gU J J J J J) ?_;refine C8 J J J J J J gU gU (K0 _ _ (by omega) (by omega)) J ?_;refine A5 J J J (A7 J gU) ?_;refine A5 J J J (C6 J gU J) ?_;refine A5 J J J (C6 J gU J) ?_;refine C3 J (E1 J J J) ?_;refine A5 J J J (A9 J gU) ?_;refine C3 J (C7 J J J J J J J) ?_;refine B0 ?_;refine B5 (s:=⟨[(1,_,_),(2,_,_),(5,_,_),(6,_,_),(7,_,_)],[(.l 2,_),(.l 5,_),(.l 7,_)],[],[]⟩) (B4 (⟨U J,U J,U J,U J,U J,O⟩) (⟨U J,U J,U J,O⟩) O) ?_;refine A8 ?_;refine A8 (A6 ?_);refine A5 J J J (B1 J gU J J) ?_;refine A5 J J J (B2 J gU J J J J) ?_;refine A5 J J J (A7 J gU) ?_;refine A5 J J J (A7 J gU) ?_;refine A5 J J J (A7 J gU) ?_;refine C8 J J J J J J gU (fun hh=>gA ((fun hh=>hh) hh) (gA ((fun hh=>hh) hh) (rfl))) (Fn _ _) J ?_
 refine A5 J J J (B7 J J (fun hh=>hh) gU J) ?_;refine A5 J J J (E5 J J gU (fun _ hi=>gP J hi)) ?_;refine B0 ?_;refine B5 (s:=⟨[(1,_,_),(2,_,_),(5,_,_),(6,_,_),(7,_,_),(20,_,_)],[(.l 2,_),(.l 5,_),(.l 7,_)],[],[]⟩) (B4 (⟨U J,U J,U J,U J,U J,U J,O⟩) (⟨U J,U J,U J,O⟩) O) ?_;refine B9 J (fun hc=>?_) (fun hc=>?_)
 ·try simp only [nn,B3,T.rows_len,Tk.rows_len] at hc
  have h : chR l ws p=(0,p.off):=by rw[chR,if_pos hc]
  rw[h]
  refine A8 (A6 ?_);refine A5 J J J (B1 J gU J J) ?_;refine C3 J (C7 J J J J J J J) ?_;refine B0 ?_;refine A8 ?_;refine awp_drawn' (by kernel_rfl) ?_;refine D7 J J J J J J J gU J J J J J ?_;refine B6 J J J J (A9 J gU) ?_;refine F0 J J J J J J J J J J J J ?_;refine F9 (by kernel_rfl) ?_;refine C1 ?_
  repeat(first|refine tR ?_|refine bR ?_)
  refine C5 J ?_ O
  rfl
 ·try simp only [nn,B3,T.rows_len,Tk.rows_len] at hc
  have h : chR l ws p=(idx0 ws (C9 l [] p).1,(C9 l [] p).2):=by rw[chR,if_neg (by rintro (q | q); { rw[hc.1] at q; cases q }; { exact hc.2 q })]
  rw[h]
  refine C0 ?_;refine A8 ?_;refine awp_drawn' (by kernel_rfl) ?_;refine B6 J J J J (A7 J gU) ?_;refine B6 J J J J (A7 J gU) ?_;refine E7 J J J J J J J gU gU (Fn _ _) J ?_;refine D7 J J J J J J J gU J J J J J ?_;refine B6 J J J J (A9 J gU) ?_;refine F0 J J J J J J J J J J J J ?_;refine F9 (by kernel_rfl) ?_;refine C1 ?_
  repeat(first|refine tR ?_|refine bR ?_)
  refine C5 J ?_ O
  rfl
theorem S5 (l : List Tk) (p : PS) (hl : l.length≤2000000) (hp : p.at'≤l.length) : Ctr sys 132 [xr l p] [] (.tup [.c (.sl 1 (strR (J7 l p).1)), .agg (pbx l (J7 l p).2)]) none []:=by
 have hrl:=Tk.rows_len l
 have h0:=G9 l [] p
 refine D1 Tryz.func132 J J J J J J ?_;refine A8 (A6 ?_);refine C3 J (D8 J J J J) ?_;refine C3 J (H4 (.inr J) J J) ?_;refine C3 J (E1 J J J) ?_;refine B0 ?_;refine A8 (A6 ?_);refine A5 J J J (B8 J gU J J J J J) ?_;refine C8 J J J J J J gU gU (K0 _ _ (by omega) (by omega)) J ?_;refine A5 J J J (A7 J gU) ?_;refine A5 J J J (C6 J gU J) ?_;refine A5 J J J (C6 J gU J) ?_;refine A5 J J J (A9 J gU) ?_;refine C3 J (C7 J J J J J J J) ?_;refine B0 ?_;refine B5 (s:=⟨[(1,_,_),(3,_,_),(4,_,_)],[(.l 1,_),(.l 3,_)],[],[]⟩) (B4 (⟨U J,U J,U J,O⟩) (⟨U J,U J,O⟩) O) ?_;refine A8 (A6 ?_);refine A5 J J J (A7 J gU) ?_;refine E8 (xs:=[_]) J J J J J J J J J gU J ?_;refine C3 J (F2 (.inr J) J J J) ?_;refine B0 ?_;refine A8 ?_;refine C4 ?_;refine F3 (ι:=PS × List (List UInt8) × List UInt8) { t:=[(1,_,_),(3,_,_)],bx:=[(.l 3,_)],ow:=[(.t 5,_)] } (fun q=>[(4,true,xs q.2.2),(5,true,xss q.2.1)]) (fun q=>[((.l 1),pbx l q.1)]) (fun q=>q.1.at'≤l.length∧q.2.1.length≤q.1.at' + 1 ∧ ∃ n,l.length + 1≤n + q.1.at'∧L7 l (C9 l []) n q.1 q.2.1=J7 l p) (fun q=>l.length - q.1.at') (((C9 l [] p).2,[(C9 l [] p).1],(C9 l [] p).1)) (⟨h0.2 hp,by simp,_,by dsimp only; omega,rfl⟩) (B4 (⟨U J,U J,U J,U J,O⟩) (⟨U J,U J,O⟩) (⟨rfl,O⟩)) ?_
 intro q hok
 dsimp only [List.cons_append,List.nil_append] at *
 obtain ⟨q,out,x⟩:=q
 dsimp only at hok ⊢
 obtain ⟨hq,ho,n,hn,hi⟩:=hok
 have hro:=B3 out
 refine A8 ?_;refine A8 (A6 ?_);refine A5 J J J (B8 J gU J J J J J) ?_;refine C8 J J J J J J gU gU (P1 _ _ _ (by omega) (by omega)) J ?_;refine B0 ?_;refine B9 J (fun hc=>?_) (fun hc=>?_)
 ·try simp only [nn,B3,T.rows_len,Tk.rows_len] at hc
  have hlt:=(N7 hc).1
  have hs : E9 l [44] q=q.go:=by rw[E9,if_pos hc]
  have h1:=G9 l [] q.go
  have hg : q.go.at'=q.at' + 1:=rfl
  obtain ⟨n,rfl⟩ : ∃ k,n=k + 1:=⟨n - 1,by omega⟩
  rw[Qu hc] at hi
  have hsy:=F6 l q [44] (by omega) (by omega)
  rw[hs] at hsy
  refine C0 ?_;refine C4 ?_;refine A8 (A6 ?_);refine A5 J J J (B8 J gU J J J J J) ?_;refine C8 J J J J J J gU gU (hsy) J ?_;refine C8 J J J J J J gU gU (K0 l q.go (by omega) (by omega)) J ?_;refine A5 J J J (A7 J gU) ?_;refine A5 J J J (C6 J gU J) ?_;refine A5 J J J (C6 J gU J) ?_;refine A5 J J J (A9 J gU) ?_;refine C3 J (C7 J J J J J J J) ?_;refine B0 ?_;refine B5 (s:=⟨[(1,_,_),(3,_,_),(4,_,_),(5,_,_)],[(.l 1,_),(.l 3,_)],[(.t 5,_)],[]⟩) (B4 (⟨U J,U J,U J,U J,O⟩) (⟨U J,U J,O⟩) (⟨rfl,O⟩)) ?_;refine A6 ?_;refine C3 J (F2 (.inl J) J J J) ?_;refine A5 J J J (A7 J gU) ?_;refine E8 (xs:=[_]) J J J J J J J J J gU J ?_;refine C3 J (F7 J J J J J J J (by first|omega|(simp only [List.length_append,List.length_singleton,B3]; omega)) (by first|omega|(simp only [List.length_append,List.length_singleton,B3]; omega))) ?_;refine C3 J (F2 (.inr J) J J J) ?_;refine B0 ?_;refine ⟨((C9 l [] q.go).2,out++[(C9 l [] q.go).1],(C9 l [] q.go).1),?_,?_,B4 (⟨⟨_,rfl,?_⟩,⟨⟨_,rfl,?_⟩,⟨U J,U J,O⟩⟩⟩) (⟨⟨_,rfl,?_⟩,⟨U J,O⟩⟩) (⟨rfl,O⟩)⟩
  ·exact ⟨h1.2 (by omega),by simp only [List.length_append,List.length_singleton]; omega,n,by dsimp only; omega,hi⟩
  ·dsimp only; omega
  ·rfl
  ·exact tx (Y8 _ _)
  all_goals rfl
 ·try simp only [nn,B3,T.rows_len,Tk.rows_len] at hc
  rw[Dl hc] at hi
  refine E2 ?_
  repeat(first|refine D5 ?_|refine D6 ?_|refine D2 J ?_)
  refine A8 ?_;refine awp_drawn' (by kernel_rfl) ?_;refine Q5 J (.inl J) J J J J J ?_;refine D7 J J J J J J J gU J J J J J ?_;refine Q5 J (.inr J) J J J J J ?_;refine F0 J J J J J J J J J J J J ?_;refine F9 (by kernel_rfl) ?_;refine C1 ?_
  repeat(first|refine tR ?_|refine bR ?_)
  refine C5 J ?_ O
  (rw[← hi]; rfl)
theorem Wb : ∀ (n : Nat) (ts : List T),ts.length≤n→n≤3000000→0 < ts.length→Ctr sys 165 [xl ts] [] (xm (tupT ts)) none []:=by
 intro n
 induction n with
 | zero=>intro ts h _ h0; omega
 | succ n ih =>
  intro ts hts hn h0
  have hrl:=T.rows_len ts
  refine D1 Tryz.func165 J J J J J J ?_;refine A8 (A6 ?_);refine C3 J (E1 J J J) ?_;refine B0 ?_;refine A8 ?_;refine A8 (A6 ?_);refine A5 J J J (A7 J gU) ?_;refine D9 J J J J J gU J J ?_ (fun hh=>by simp at hh); intro hlen;refine A5 J J J (B7 J J gU gU J) ?_;refine B0 ?_;refine B9 J (fun hc=>?_) (fun hc=>?_)
  ·try simp only [nn,B3,T.rows_len,Tk.rows_len] at hc
   obtain ⟨t,rfl⟩ : ∃ t,ts=[t]:=by
    match ts,hc with
    | [t],_=>exact ⟨t,rfl⟩
    | [],h=>simp at h
    | _ :: _ :: _,h=>simp at h; omega
   refine A8 (A6 ?_);refine A5 J J J (A7 J gU) ?_;refine A5 J J J (C2 (j:=0) J J gU gU J J (by first|omega|(simp at hh ⊢; omega)) (fun hh=>T.rows_at (by first|omega|(simp at hh ⊢; omega)))) ?_;refine A5 J J J (D4 J gU J J J J) ?_;refine C3 J (C7 J J J J J J J) ?_;refine B0 ?_;refine C1 ?_
   repeat(first|refine tR ?_|refine bR ?_)
   refine C5 J ?_ O
   rfl
  ·try simp only [nn,B3,T.rows_len,Tk.rows_len] at hc
   obtain ⟨t,u,r,rfl⟩ : ∃ t u r,ts=t :: u :: r:=by
    match ts,hc,h0 with
    | [t],h,_=>exact absurd J h
    | [],_,h=>simp at h
    | t :: u :: r,_,_=>exact ⟨t,u,r,rfl⟩
   simp only [List.length_cons] at hts hrl
   have htu:=ih (u :: r) (by simp only [List.length_cons]; omega) (by omega) (by simp)
   have htu2 : ∀ rs : List (List C),rs=T.rows (u :: r)→Ctr sys 165 [.v (.c (.sl 4 rs))] [] (xm (tupT (u :: r))) none []:=by
    intro rs h; subst h; exact htu
   refine C0 ?_;refine A8 ?_;refine awp_drawn' (by kernel_rfl) ?_;refine B6 J J J J (A7 J gU) ?_;refine B6 J J J J (C2 (j:=0) J J gU gU J J (by first|omega|(simp at hh ⊢; omega)) (fun hh=>T.rows_at (by first|omega|(simp at hh ⊢; omega)))) ?_;refine B6 J J J J (D4 J gU J J J J) ?_;refine B6 J J J J (A7 J gU) ?_;refine B6 J J J J (Am (l:=1) J gU J J (fun _=>⟨_,_,_,rfl,gU,by first|omega|(simp at hh ⊢; omega)⟩) (fun _=>rfl) (fun hh=>by first|omega|(simp at hh ⊢; omega)) (fun hh=>by first|omega|(simp at hh ⊢; omega))) ?_;refine E7 J J J J J J J gU gU (htu2 _ (by simp [T.rows_eq,List.take_of_length_le])) J ?_;refine U4 (xs:=[_,_]) J J J J J J J J J J gU J ?_;refine E7 J J J J J J J gU gU (Es _ _ [t,tupT (u :: r)] (by simp [T.rows_eq,T.cells]) (by simp)) J ?_;refine F0 J J J J J J J J J J J J ?_;refine F9 (by kernel_rfl) ?_;refine C1 ?_
   repeat(first|refine tR ?_|refine bR ?_)
   refine C5 J ?_ O
   rfl
theorem Pt (ts : List T) (rs : List (List C)) (h : rs=T.rows ts) (hts : ts.length≤3000000) (h0 : 0 < ts.length) : Ctr sys 165 [.v (.c (.sl 4 rs))] [] (xm (tupT ts)) none []:=by
 subst h; exact Wb _ ts hts (Nat.le_refl _) h0
theorem Bv (l : List Tk) (n : Nat) (hl : l.length≤2000000) (ih : ∀ p : PS,p.at'≤l.length→l.length - p.at' < n→Ctr sys 153 [xr l p] [] (.tup [.agg (G4 l n p).1.cells, .agg (pbx l (G4 l n p).2)]) none []) (hf : Fwd l (G4 l n)) (p : PS) (hp : p.at'≤l.length) (hn : l.length - p.at' < n) :
  Ctr sys 155 [xr l p] [] (.tup [.c (.sl 4 (T.rows (H1 l (G4 l n) p).1)), .agg (pbx l (H1 l (G4 l n) p).2)]) none []:=by
 have hrl:=Tk.rows_len l
 have h0:=hf p
 refine D1 Tryz.func155 J J J J J J ?_;refine A8 (A6 ?_);refine C3 J (D8 J J J J) ?_;refine C3 J (H4 (.inr J) J J) ?_;refine C3 J (E1 J J J) ?_;refine B0 ?_;refine A8 (A6 ?_);refine A5 J J J (B8 J gU J J J J J) ?_;refine C8 J J J J J J gU gU (ih p hp hn) J ?_;refine A5 J J J (A7 J gU) ?_;refine A5 J J J (C6 J gU J) ?_;refine A5 J J J (C6 J gU J) ?_;refine C3 J (E1 J J J) ?_;refine C3 J (C7 J J J J J J J) ?_;refine C3 J (C7 J J J J J J J) ?_;refine B0 ?_;refine B5 (s:=⟨[(1,_,_),(3,_,_),(4,_,_)],[(.l 1,_),(.l 3,_),(.l 4,_)],[],[]⟩) (B4 (⟨U J,U J,U J,O⟩) (⟨U J,U J,U J,O⟩) O) ?_;refine A8 (A6 ?_);refine A5 J J J (B8 J gU J J J J J) ?_;refine E8 (xs:=[_]) J J J J J J J J J gU J ?_;refine C3 J (F2 (.inr J) J J J) ?_;refine B0 ?_;refine A8 ?_;refine C4 ?_;refine F3 (ι:=PS × List T × T) { t:=[(1,_,_),(3,_,_),(4,_,_)],bx:=[(.l 3,_)],ow:=[(.t 5,_)] } (fun q=>[(5,true,xl q.2.1)]) (fun q=>[((.l 4),q.2.2.cells),((.l 1),pbx l q.1)]) (fun q=>p.at'≤q.1.at'∧q.1.at'≤l.length∧q.2.1.length≤q.1.at' + 1 ∧ ∃ k,l.length + 1≤k + q.1.at'∧L7 l (G4 l n) k q.1 q.2.1=H1 l (G4 l n) p) (fun q=>l.length - q.1.at') (((G4 l n p).2,[(G4 l n p).1],(G4 l n p).1)) (⟨h0.1,h0.2 hp,by simp,_,by dsimp only; omega,rfl⟩) (B4 (⟨⟨_,rfl,by exact tx (Eb [] (G4 l n p).1)⟩,⟨U J,U J,U J,O⟩⟩) (⟨U J,U J,U J,O⟩) (⟨rfl,O⟩)) ?_
 intro q hok
 dsimp only [List.cons_append,List.nil_append] at *
 obtain ⟨q,out,x⟩:=q
 dsimp only at hok ⊢
 obtain ⟨hq0,hq,ho,k,hk,hi⟩:=hok
 have hro:=T.rows_len out
 refine A8 ?_;refine A8 (A6 ?_);refine A5 J J J (B8 J gU J J J J J) ?_;refine C8 J J J J J J gU gU (P1 _ _ _ (by omega) (by omega)) J ?_;refine B0 ?_;refine B9 J (fun hc=>?_) (fun hc=>?_)
 ·try simp only [nn,B3,T.rows_len,Tk.rows_len] at hc
  have hlt:=(N7 hc).1
  have hs : E9 l [44] q=q.go:=by rw[E9,if_pos hc]
  have hg : q.go.at'=q.at' + 1:=rfl
  have h1:=hf q.go
  obtain ⟨k,rfl⟩ : ∃ j,k=j + 1:=⟨k - 1,by omega⟩
  rw[Qu hc] at hi
  have hsy:=F6 l q [44] (by omega) (by omega)
  rw[hs] at hsy
  refine C0 ?_;refine C4 ?_;refine A8 (A6 ?_);refine A5 J J J (B8 J gU J J J J J) ?_;refine C8 J J J J J J gU gU (hsy) J ?_;refine C8 J J J J J J gU gU (ih q.go (by omega) (by omega)) J ?_;refine A5 J J J (A7 J gU) ?_;refine A5 J J J (C6 J gU J) ?_;refine A5 J J J (C6 J gU J) ?_;refine C3 J (C7 J J J J J J J) ?_;refine C3 J (C7 J J J J J J J) ?_;refine B0 ?_;refine B5 (s:=⟨[(1,_,_),(3,_,_),(4,_,_),(5,_,_)],[(.l 1,_),(.l 3,_),(.l 4,_)],[(.t 5,_)],[]⟩) (B4 (⟨U J,U J,U J,U J,O⟩) (⟨U J,U J,U J,O⟩) (⟨rfl,O⟩)) ?_;refine A6 ?_;refine C3 J (F2 (.inl J) J J J) ?_;refine A5 J J J (B8 J gU J J J J J) ?_;refine E8 (xs:=[_]) J J J J J J J J J gU J ?_;refine C3 J (F7 J J J J J J J (by first|omega|(simp only [List.length_append,List.length_singleton,T.rows_len]; omega)) (by first|omega|(simp only [List.length_append,List.length_singleton,T.rows_len]; omega))) ?_;refine C3 J (F2 (.inr J) J J J) ?_;refine B0 ?_;refine ⟨((G4 l n q.go).2,out++[(G4 l n q.go).1],(G4 l n q.go).1),?_,?_,B4 (⟨⟨_,rfl,?_⟩,⟨U J,U J,U J,O⟩⟩) (⟨⟨_,rfl,?_⟩,⟨⟨_,rfl,?_⟩,⟨U J,O⟩⟩⟩) (⟨rfl,O⟩)⟩
  ·exact ⟨by dsimp only; omega,h1.2 (by omega),by simp only [List.length_append,List.length_singleton]; omega,k,by dsimp only; omega,hi⟩
  ·dsimp only; omega
  all_goals first
   | rfl
   | exact tx (Eb out (G4 l n q.go).1)
 ·try simp only [nn,B3,T.rows_len,Tk.rows_len] at hc
  rw[Dl hc] at hi
  refine E2 ?_
  repeat(first|refine D5 ?_|refine D6 ?_|refine D2 J ?_)
  refine A8 ?_;refine awp_drawn' (by kernel_rfl) ?_;refine Q5 J (.inl J) J J J J J ?_;refine D7 J J J J J J J gU J J J J J ?_;refine Q5 J (.inr J) J J J J J ?_;refine F0 J J J J J J J J J J J J ?_;refine F9 (by kernel_rfl) ?_;refine C1 ?_
  repeat(first|refine tR ?_|refine bR ?_)
  refine C5 J ?_ O
  (rw[← hi]; rfl)
theorem T4 (l : List Tk) (n : Nat) : Fwd l (G4 l n):=fun p=>by rw[(Dy l n p).1]; exact Ba l n p
theorem Ln (l : List Tk) (n : Nat) (p : PS) : (H1 l (G4 l n) p).1.length + p.at'≤1 + (H1 l (G4 l n) p).2.at':=Cj (T4 l n) p
theorem Yn {l : List Tk} {n : Nat} {p : PS} (h : symQ l p [60]=true) (hb : (E9 l [62] (H1 l (G4 l n) (E9 l [44] (G4 l n p.go).2)).2).bad=true) : G4 l (n + 1) p=(T0,E9 l [62] (H1 l (G4 l n) (E9 l [44] (G4 l n p.go).2)).2):=by
 rw[G4,if_pos h,if_pos hb]
theorem uAI {l : List Tk} {n : Nat} {p : PS} (h : symQ l p [60]=true) (hb : (E9 l [62] (H1 l (G4 l n) (E9 l [44] (G4 l n p.go).2)).2).bad=false) :
  G4 l (n + 1) p=(tupT ((G4 l n p.go).1 :: (H1 l (G4 l n) (E9 l [44] (G4 l n p.go).2)).1),E9 l [62] (H1 l (G4 l n) (E9 l [44] (G4 l n p.go).2)).2):=by
 rw[G4,if_pos h,if_neg (by rw[hb]; simp)]
theorem uBa {l : List Tk} {n : Nat} {p : PS} (h : symQ l p [60]=false) (h2 : symQ l (C9 l [] p).2 [40]=false) : G4 l (n + 1) p=(⟨2,(C9 l [] p).1,0,[]⟩,(C9 l [] p).2):=by
 rw[G4,if_neg (by rw[h]; simp),if_neg (by rw[h2]; simp)]
theorem uBb {l : List Tk} {n : Nat} {p : PS} (h : symQ l p [60]=false) (h2 : symQ l (C9 l [] p).2 [40]=true) (h3 : symQ l (C9 l [] p).2.go [41]=true) : G4 l (n + 1) p=(⟨3,(C9 l [] p).1,0,[]⟩,(C9 l [] p).2.go.go):=by
 rw[G4,if_neg (by rw[h]; simp),if_pos h2,if_pos h3]
theorem uBj {l : List Tk} {n : Nat} {p : PS} (h : symQ l p [60]=false) (h2 : symQ l (C9 l [] p).2 [40]=true) (h3 : symQ l (C9 l [] p).2.go [41]=false) :
  G4 l (n + 1) p=(⟨3,(C9 l [] p).1,0,(H1 l (G4 l n) (C9 l [] p).2.go).1⟩,E9 l [41] (H1 l (G4 l n) (C9 l [] p).2.go).2):=by
 rw[G4,if_neg (by rw[h]; simp),if_pos h2,if_neg (by rw[h3]; simp)]
set_option maxHeartbeats 4000000 in
theorem Y4 (l : List Tk) (hl : l.length≤2000000) : ∀ (n : Nat) (p : PS),p.at'≤l.length→l.length - p.at' < n→Ctr sys 153 [xr l p] [] (.tup [.agg (G4 l n p).1.cells, .agg (pbx l (G4 l n p).2)]) none []:=by
 intro n
 induction n with
 | zero=>intro p _ h; omega
 | succ n ih =>
  intro p hp hn
  have hrl:=Tk.rows_len l
  have hg : ∀ q : PS,q.go.at'=q.at' + 1:=fun _=>rfl
  have hml : ∀ q : PS,(T.rows (H1 l (G4 l n) q).1).length=(H1 l (G4 l n) q).1.length:=fun q=>T.rows_len _
  refine D1 Tryz.func153 J J J J J J ?_;refine A8 (A6 ?_);refine C3 J (D8 J J J J) ?_;refine C3 J (E1 J J J) ?_;refine C3 J (E1 J J J) ?_;refine B0 ?_;refine A8 ?_;refine A8 (A6 ?_);refine A5 J J J (B8 J gU J J J J J) ?_;refine C8 J J J J J J gU gU (P1 _ _ _ (by omega) (by omega)) J ?_;refine B0 ?_;refine B5 (s:=⟨[(1,_,_),(2,_,_),(3,_,_),(10,_,_)],[(.l 1,_),(.l 2,_),(.l 3,_)],[],[]⟩) (B4 (⟨U J,U J,U J,U J,O⟩) (⟨U J,U J,U J,O⟩) O) ?_;refine B9 J (fun hc=>?_) (fun hc=>?_)
  ·try simp only [nn,B3,T.rows_len,Tk.rows_len] at hc
   have hlt:=(N7 hc).1
   have hs : E9 l [60] p=p.go:=by rw[E9,if_pos hc]
   have hgp:=hg p
   have a1:=T4 l n p.go
   have a2:=J4 l [44] (G4 l n p.go).2
   have a3:=R5 (T4 l n) (E9 l [44] (G4 l n p.go).2)
   have a4:=J4 l [62] (H1 l (G4 l n) (E9 l [44] (G4 l n p.go).2)).2
   have a5:=Ln l n (E9 l [44] (G4 l n p.go).2)
   have a6:=hml (E9 l [44] (G4 l n p.go).2)
   have hsy:=F6 l p [60] (by omega) (by omega)
   rw[hs] at hsy
   refine A8 (A6 ?_);refine A5 J J J (B8 J gU J J J J J) ?_;refine C8 J J J J J J gU gU (hsy) J ?_;refine C8 J J J J J J gU gU (ih p.go (by omega) (by omega)) J ?_;refine A5 J J J (A7 J gU) ?_;refine A5 J J J (C6 J gU J) ?_;refine A5 J J J (C6 J gU J) ?_;refine C3 J (E1 J J J) ?_;refine C3 J (E1 J J J) ?_;refine C3 J (C7 J J J J J J J) ?_;refine C3 J (C7 J J J J J J J) ?_;refine B0 ?_;refine B5 (s:=⟨[(2,_,_),(3,_,_),(4,_,_),(5,_,_)],[(.l 2,_),(.l 3,_),(.l 4,_),(.l 5,_)],[],[]⟩) (B4 (⟨U J,U J,U J,U J,O⟩) (⟨U J,U J,U J,U J,O⟩) O) ?_;refine A8 (A6 ?_);refine A5 J J J (B8 J gU J J J J J) ?_;refine C8 J J J J J J gU gU (F6 l (G4 l n p.go).2 [44] (by omega) (by omega)) J ?_;refine C8 J J J J J J gU gU (Bv l n hl ih (T4 l n) (E9 l [44] (G4 l n p.go).2) (by omega) (by omega)) J ?_;refine A5 J J J (A7 J gU) ?_;refine A5 J J J (C6 J gU J) ?_;refine A5 J J J (C6 J gU J) ?_;refine A5 J J J (A9 J gU) ?_;refine C3 J (C7 J J J J J J J) ?_
   refine B0 ?_;refine B5 (s:=⟨[(2,_,_),(3,_,_),(4,_,_),(5,_,_),(6,_,_)],[(.l 2,_),(.l 3,_),(.l 4,_),(.l 5,_)],[],[]⟩) (B4 (⟨U J,U J,U J,U J,U J,O⟩) (⟨U J,U J,U J,U J,O⟩) O) ?_;refine A8 (A6 ?_);refine A5 J J J (B8 J gU J J J J J) ?_;refine C8 J J J J J J gU gU (F6 l (H1 l (G4 l n) (E9 l [44] (G4 l n p.go).2)).2 [62] (by omega) (by omega)) J ?_;refine C3 J (C7 J J J J J J J) ?_;refine B0 ?_;refine A8 ?_;refine A8 (A6 ?_);refine A5 J J J (B1 J gU J J) ?_;refine A5 J J J (B2 J gU J J J J) ?_;refine B0 ?_;refine B9 J (fun hc2=>?_) (fun hc2=>?_)
   ·try simp only [nn,B3,T.rows_len,Tk.rows_len] at hc2
    rw[Yn hc hc2]
    refine A8 ?_;refine awp_drawn' (by kernel_rfl) ?_;refine B6 J J J J (H6 J Tryz.underlying47 J gU) ?_;refine D7 J J J J J J J gU J J J J J ?_;refine F0 J J J J J J J J J J J J ?_;refine F0 J J J J J J J J J J J J ?_;refine F9 (by kernel_rfl) ?_;refine C1 ?_
    repeat(first|refine tR ?_|refine bR ?_)
    refine C5 J ?_ O
    rfl
   ·try simp only [nn,B3,T.rows_len,Tk.rows_len] at hc2
    rw[uAI hc hc2]
    refine C0 ?_;refine A8 ?_;refine awp_drawn' (by kernel_rfl) ?_;refine D7 J J J J J J J gU J J J J J ?_;refine U4 (xs:=[_]) J J J J J J J J J J gU J ?_;refine B6 J J J J (A7 J gU) ?_;refine W1 J J J J J J J J J J J (by first|omega|(simp only [List.length_append,List.length_singleton,T.rows_len]; omega)) (by first|omega|(simp only [List.length_append,List.length_singleton,T.rows_len]; omega)) ?_;refine E7 J J J J J J J gU gU (Pt ((G4 l n p.go).1 :: (H1 l (G4 l n) (E9 l [44] (G4 l n p.go).2)).1) _ (by rw[T.rows_eq,T.rows_eq]; rfl) (by simp only [List.length_cons]; omega) (by simp)) J ?_;refine D7 J J J J J J J gU J J J J J ?_;refine F0 J J J J J J J J J J J J ?_;refine F0 J J J J J J J J J J J J ?_;refine F9 (by kernel_rfl) ?_;refine C1 ?_
    repeat(first|refine tR ?_|refine bR ?_)
    refine C5 J ?_ O
    rfl
  ·try simp only [nn,B3,T.rows_len,Tk.rows_len] at hc
   have a1:=G9 l [] p
   refine C0 ?_;refine A8 (A6 ?_);refine A5 J J J (B8 J gU J J J J J) ?_;refine C8 J J J J J J gU gU (K0 l p (by omega) (by omega)) J ?_;refine A5 J J J (A7 J gU) ?_;refine A5 J J J (C6 J gU J) ?_;refine A5 J J J (C6 J gU J) ?_;refine A5 J J J (A9 J gU) ?_;refine C3 J (C7 J J J J J J J) ?_;refine B0 ?_;refine B5 (s:=⟨[(1,_,_),(2,_,_),(3,_,_),(7,_,_)],[(.l 1,_),(.l 2,_),(.l 3,_)],[],[]⟩) (B4 (⟨U J,U J,U J,U J,O⟩) (⟨U J,U J,U J,O⟩) O) ?_;refine A8 ?_;refine A8 (A6 ?_);refine A5 J J J (B1 J gU J J) ?_;refine A5 J J J (B2 J gU J J J J) ?_;refine A5 J J J (A7 J gU) ?_;refine A5 J J J (B8 J gU J J J J J) ?_;refine C8 J J J J J J gU (fun hh=>gA ((fun hh=>hh) hh) (gA J (rfl))) (P1 _ _ _ (by omega) (by omega)) J ?_;refine A5 J J J (F8 J (fun hh=>hh)) ?_;refine A5 J J J (E5 J J gU (fun _ hi=>gP J hi)) ?_;refine B0 ?_;refine B5 (s:=⟨[(1,_,_),(2,_,_),(3,_,_),(7,_,_),(46,_,_)],[(.l 1,_),(.l 2,_),(.l 3,_)],[],[]⟩) (B4 (⟨U J,U J,U J,U J,U J,O⟩) (⟨U J,U J,U J,O⟩) O) ?_
   refine B9 J (fun hc2=>?_) (fun hc2=>?_)
   ·try simp only [nn,B3,T.rows_len,Tk.rows_len] at hc2
    have h2 : symQ l (C9 l [] p).2 [40]=false:=by
     rcases hc2 with q | q
     ·exact R0 q
     ·exact q
    rw[uBa hc h2]
    refine A8 ?_;refine awp_drawn' (by kernel_rfl) ?_;refine B6 J J J J (A7 J gU) ?_;refine E7 J J J J J J J gU gU (Ws _ _) J ?_;refine D7 J J J J J J J gU J J J J J ?_;refine F0 J J J J J J J J J J J J ?_;refine F0 J J J J J J J J J J J J ?_;refine F9 (by kernel_rfl) ?_;refine C1 ?_
    repeat(first|refine tR ?_|refine bR ?_)
    refine C5 J ?_ O
    rfl
   ·try simp only [nn,B3,T.rows_len,Tk.rows_len] at hc2
    have h2:=hc2.2
    have hlt:=(N7 h2).1
    have hg2:=hg (C9 l [] p).2
    have hs2 : E9 l [40] (C9 l [] p).2=(C9 l [] p).2.go:=by rw[E9,if_pos h2]
    have hsy:=F6 l (C9 l [] p).2 [40] (by omega) (by omega)
    rw[hs2] at hsy
    refine C0 ?_;refine A8 (A6 ?_);refine A5 J J J (B8 J gU J J J J J) ?_;refine C8 J J J J J J gU gU (hsy) J ?_;refine C3 J (C7 J J J J J J J) ?_;refine B0 ?_;refine A8 ?_;refine A8 (A6 ?_);refine A5 J J J (B8 J gU J J J J J) ?_;refine C8 J J J J J J gU gU (P1 _ _ _ (by omega) (by omega)) J ?_;refine B0 ?_;refine B9 J (fun hc3=>?_) (fun hc3=>?_)
    ·try simp only [nn,B3,T.rows_len,Tk.rows_len] at hc3
     have hlt3:=(N7 hc3).1
     rw[uBb hc h2 hc3]
     have hs3 : E9 l [41] (C9 l [] p).2.go=(C9 l [] p).2.go.go:=by rw[E9,if_pos hc3]
     have hsy3:=F6 l (C9 l [] p).2.go [41] (by omega) (by omega)
     rw[hs3] at hsy3
     refine A8 ?_;refine awp_drawn' (by kernel_rfl) ?_;refine B6 J J J J (A7 J gU) ?_;refine E7 J J J J J J J gU gU (Es _ _ [] J (by simp)) J ?_;refine D7 J J J J J J J gU J J J J J ?_;refine E7 J J J J J J J gU gU (hsy3) J ?_;refine F0 J J J J J J J J J J J J ?_;refine F0 J J J J J J J J J J J J ?_;refine F9 (by kernel_rfl) ?_;refine C1 ?_
     repeat(first|refine tR ?_|refine bR ?_)
     refine C5 J ?_ O
     rfl
    ·try simp only [nn,B3,T.rows_len,Tk.rows_len] at hc3
     rw[uBj hc h2 hc3]
     have a3:=R5 (T4 l n) (C9 l [] p).2.go
     have a5:=Ln l n (C9 l [] p).2.go
     refine C0 ?_;refine A8 (A6 ?_);refine A5 J J J (B8 J gU J J J J J) ?_;refine C8 J J J J J J gU gU (Bv l n hl ih (T4 l n) (C9 l [] p).2.go (by omega) (by omega)) J ?_;refine A5 J J J (A7 J gU) ?_;refine A5 J J J (C6 J gU J) ?_;refine A5 J J J (C6 J gU J) ?_;refine A5 J J J (A9 J gU) ?_;refine C3 J (C7 J J J J J J J) ?_;refine B0 ?_;refine B5 (s:=⟨[(1,_,_),(2,_,_),(3,_,_),(7,_,_),(8,_,_)],[(.l 1,_),(.l 2,_),(.l 3,_)],[],[]⟩) (B4 (⟨U J,U J,U J,U J,U J,O⟩) (⟨U J,U J,U J,O⟩) O) ?_;refine A8 ?_;refine awp_drawn' (by kernel_rfl) ?_;refine B6 J J J J (A7 J gU) ?_;refine B6 J J J J (A7 J gU) ?_;refine E7 J J J J J J J gU gU (Es _ _ (H1 l (G4 l n) (C9 l [] p).2.go).1 J (by omega)) J ?_;refine D7 J J J J J J J gU J J J J J ?_;refine E7 J J J J J J J gU gU (F6 l (H1 l (G4 l n) (C9 l [] p).2.go).2 [41] (by omega) (by omega)) J ?_;refine F0 J J J J J J J J J J J J ?_;refine F0 J J J J J J J J J J J J ?_;refine F9 (by kernel_rfl) ?_;refine C1 ?_
     repeat(first|refine tR ?_|refine bR ?_)
     refine C5 J ?_ O
     rfl
end Go.Proofs.YteidahabkfgfjaaGreat
