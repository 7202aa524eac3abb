/- Our abstract program logic and contracts of this seat's functions, part 4: no statement of its own (long names of ours are shortened by a program). -/
import Derived.Test.YteidahabkfgfjaaGreatM3
import Derived.Lib.Join
set_option linter.unusedVariables false
set_option linter.unusedSimpArgs false
namespace Go.Proofs.YteidahabkfgfjaaGreat
open Go Go.Abs
def idxF (p : List UInt8→Bool) : List (List UInt8)→Int
 | []=>-1
 | x :: r=>if p x=true then 0 else if idxF p r < 0 then -1 else idxF p r + 1
theorem Ev {p : List UInt8→Bool} {l : List (List UInt8)} {k : Nat} {e : Int} (h : k < l.length) (hi : (if idxF p (l.drop k) < 0 then -1 else idxF p (l.drop k) + k)=e) :
  (p (l.getD k [])=true→e=k)∧(p (l.getD k [])=false→(if idxF p (l.drop (k + 1)) < 0 then -1 else idxF p (l.drop (k + 1)) + (k + 1 : Nat))=e):=by
 rw[Lr (d:=[]) h,idxF] at hi
 refine ⟨fun q=>?_,fun q=>?_⟩
 ·rw[if_pos q] at hi; simp at hi; omega
 ·rw[q] at hi
  simp only [Bool.false_eq_true,if_false] at hi
  generalize idxF p (List.drop (k + 1) l)=x at hi ⊢
  rw[← hi]
  by_cases hx : x < 0
  ·rw[if_pos hx,if_pos hx]; simp
  ·rw[if_neg hx,if_neg hx,if_neg (by omega)]; push_cast; omega
theorem Em {α : Type} {l : List α} {d : α} {k : Nat} (h : k < l.length) : l.getD k d ∈ l:=by
 rw[List.getD_eq_getElem?_getD,List.getElem?_eq_getElem h]
 exact List.getElem_mem h
theorem Hp {p : List UInt8→Bool} {l : List (List UInt8)} {k : Nat} {e : Int} (h : l.length≤k) (hi : (if idxF p (l.drop k) < 0 then -1 else idxF p (l.drop k) + k)=e) : e = -1:=by
 rw[List.drop_of_length_le h] at hi; simpa [idxF] using hi.symm
theorem Dh (p : List UInt8→Bool) (l : List (List UInt8)) : (if idxF p (l.drop 0) < 0 then -1 else idxF p (l.drop 0) + ((0 : Nat) : Int))=if idxF p l < 0 then -1 else idxF p l:=by simp
theorem Mp (p : List UInt8→Bool) : ∀ l : List (List UInt8),-1≤idxF p l
 | []=>by simp [idxF]
 | x :: r=>by have := Mp p r; rw[idxF]; split; omega; split <;> omega
theorem Fl (p : List UInt8→Bool) (l : List (List UInt8)) : (if idxF p l < 0 then -1 else idxF p l)=idxF p l := by have := Mp p l; split <;> omega
theorem Z0 (p : List UInt8→Bool) : ∀ l : List (List UInt8),decide (idxF p l ≥ 0)=l.any p
 | []=>by simp [idxF]
 | x :: r=>by
  have ih:=Z0 p r
  rw[idxF,List.any_cons,← ih]
  by_cases h : p x=true
  ·rw[if_pos h,h]; simp
  ·rw[if_neg h]
   have h' : p x=false:=by simpa using h
   rw[h',Bool.false_or]
   split
   ·rename_i h1; simp; omega
   ·rename_i h1; rw[Bool.eq_iff_iff]; simp; omega
theorem Ju (l : List (List UInt8)) : Ctr sys 136 [xss l, .fn 72 []] [] (xi (idxF (fun s=>!E4 s) l)) none []:=by
 have hrl:=B3 l
 refine D1 Tryz.func136 J J J J J J ?_;refine A8 (A6 ?_);refine A5 J J J (A9 J gU) ?_;refine B0 ?_;refine A8 ?_;refine A8 (A6 ?_);refine A5 J J J (A7 J gU) ?_;refine D9 J J J J J gU J J ?_ (fun hh=>by simp at hh); intro hlen;refine A5 J J J (A7 J gU) ?_;refine B0 ?_;refine C4 ?_;refine F3 (ι:=Nat) { t:=[(0,_,_),(1,_,_),(7,_,_)],bx:=[],ow:=[] } (fun k=>[(8,true,xi (k : Int))]) (fun k=>[]) (fun k=>k≤l.length∧(if idxF (fun s=>!E4 s) (l.drop k) < 0 then -1 else idxF (fun s=>!E4 s) (l.drop k) + k)=idxF (fun s=>!E4 s) l) (fun k=>l.length - k) (0) (⟨by simp,(Dh _ _).trans (Fl _ _)⟩) (B4 (⟨U J,U J,U J,U J,O⟩) O O) ?_
 intro k hok
 dsimp only [List.cons_append,List.nil_append]
 obtain ⟨hk,hi⟩:=hok
 refine A8 (A6 ?_);refine A5 J J J (B7 J J gU gU J) ?_;refine B0 ?_;refine A8 ?_;refine B9 J (fun hc=>?_) (fun hc=>?_)
 ·try simp only [nn,B3,T.rows_len,Fs.rows_len,Sp.rows_len,Gl.rows_len] at hc
  have hd:=Ev (k:=k) (l:=l) (by omega) hi
  refine C0 ?_;refine A8 ?_;refine C4 ?_;refine A8 (A6 ?_);refine A5 J J J (A7 J gU) ?_;refine A5 J J J (A9 J gU) ?_;refine B0 ?_;refine A8 (A6 ?_);refine A5 J J J (A7 J gU) ?_;refine A5 J J J (A7 J gU) ?_;refine A5 J J J (A7 J gU) ?_;refine A5 J J J (C2 J J gU gU J J J (fun hh=>L1 (by first|omega|(simp at hh ⊢; omega)))) ?_;refine A5 J J J (E3 J gU J J J) ?_;refine C8 J J J J J J gU gU (S2 _) J ?_;refine B0 ?_;refine B5 (s:=⟨[(0,_,_),(1,_,_),(5,_,_),(7,_,_),(8,_,_),(16,_,_)],[],[],[]⟩) (B4 (⟨U J,U J,U J,U J,U J,U J,O⟩) O O) ?_;refine B9 J (fun hc2=>?_) (fun hc2=>?_)
  ·try simp only [nn,B3,T.rows_len,Fs.rows_len,Sp.rows_len,Gl.rows_len] at hc2
   refine A8 (A6 ?_);refine A5 J J J (A7 J gU) ?_;refine A5 J J J (A9 J gU) ?_;refine B0 ?_;refine C1 ?_
   repeat(first|refine tR ?_|refine bR ?_)
   refine C5 J ?_ O;exact H2 (hd.1 (by simpa using hc2)).symm
  ·try simp only [nn,B3,T.rows_len,Fs.rows_len,Sp.rows_len,Gl.rows_len] at hc2
   refine C0 ?_;refine A6 ?_;refine A5 J J J (D0 J J gU gU J (IntWalk.i64_in _ (by omega))) ?_;refine A5 J J J (A7 J gU) ?_;refine B0 ?_;refine ⟨k + 1,?_,?_,B4 (⟨⟨_,rfl,?_⟩,⟨U J,U J,U J,O⟩⟩) O O⟩
   all_goals (first|rfl|omega|exact ⟨by omega,hd.2 (by simpa using hc2)⟩)
 ·try simp only [nn,B3,T.rows_len,Fs.rows_len,Sp.rows_len,Gl.rows_len] at hc
  refine E2 ?_
  repeat(first|refine D5 ?_|refine D6 ?_|refine D2 J ?_)
  refine A8 (A6 ?_);refine A5 J J J (A9 J gU) ?_;refine B0 ?_;refine C1 ?_
  repeat(first|refine tR ?_|refine bR ?_)
  refine C5 J ?_ O;exact H2 (Hp (by omega) hi).symm
theorem Cq (l : List (List UInt8)) : Ctr sys 110 [xss l, .fn 72 []] [] (xb (l.any fun s=>!E4 s)) none []:=by
 refine D1 Tryz.func110 J J J J J J ?_;refine A8 (A6 ?_);refine A5 J J J (A9 J gU) ?_;refine B0 ?_;refine A8 (A6 ?_);refine A5 J J J (A7 J gU) ?_;refine A5 J J J (A7 J gU) ?_;refine C8 J J J J J J gU gU (Ju _) J ?_;refine A5 J J J (B7 J J gU gU J) ?_;refine A5 J J J (A9 J gU) ?_;refine B0 ?_;refine C1 ?_
 repeat(first|refine tR ?_|refine bR ?_)
 refine C5 J ?_ O;exact M0 (Z0 _ l)
theorem Gn (l : List (List UInt8)) : (l.any fun s=>!E4 s) = !(l.all E4):=by
 induction l with
 | nil=>rfl
 | cons x r ih=>rw[List.any_cons,List.all_cons,ih,Bool.not_and]
theorem Xb (n : Nar) : Ctr sys 71 [xn n] [] (xi (Z6 E4 n)) none []:=by
 have h1:=B3 n.roles
 have h2:=B3 n.tags
 have h3:=Fs.rows_len n.fresh
 have h4:=Sp.rows_len n.steps
 have h5:=Gl.rows_len n.goals
 refine D1 Tryz.func71 J J J J J J ?_;refine A8 (A6 ?_);refine C3 J (D8 J J J J) ?_;refine A5 J J J (A9 J gU) ?_;refine B0 ?_;refine A8 ?_;refine C4 ?_;refine A8 (A6 ?_);refine A5 J J J (B1 J gU J J) ?_;refine A5 J J J (B2 J gU J J J J) ?_;refine C8 J J J J J J gU gU (S2 _) J ?_;refine A5 J J J (A9 J gU) ?_;refine B0 ?_;refine B5 (s:=⟨[(1,_,_),(5,_,_)],[(.l 1,_)],[],[]⟩) (B4 (⟨U J,U J,O⟩) (⟨U J,O⟩) O) ?_;refine B9 J (fun hc=>?_) (fun hc=>?_)
 ·try simp only [nn,B3,T.rows_len,Fs.rows_len,Sp.rows_len,Gl.rows_len] at hc
  refine A8 (A6 ?_);refine A5 J J J (A9 J gU) ?_;refine B0 ?_;refine C1 ?_
  repeat(first|refine tR ?_|refine bR ?_)
  refine C5 J ?_ O
  (rw[Z6,if_pos (by simpa using hc)]; rfl)
 ·try simp only [nn,B3,T.rows_len,Fs.rows_len,Sp.rows_len,Gl.rows_len] at hc
  have hn : E4 n.name=true:=by simpa using hc
  have e1 : Z6 E4 n=if cntE n≠0 then cntE n else if n.roles.all E4=false then 2 else if errs (frE E4) n.fresh≠0 then errs (frE E4) n.fresh else if n.tags.all E4=false then 2 else 0:=by rw[Z6,if_neg (by rw[hn]; simp)]
  refine A8 (A6 ?_);refine A5 J J J (B1 J gU J J) ?_;refine A5 J J J (B2 J gU J J J J) ?_;refine D9 J J J J J gU J J ?_ (fun hh=>by simp at hh); intro hlen;refine A5 J J J (B7 J J gU gU J) ?_;refine A5 J J J (A9 J gU) ?_;refine B0 ?_;refine B5 (s:=⟨[(1,_,_),(9,_,_)],[(.l 1,_)],[],[]⟩) (B4 (⟨U J,U J,O⟩) (⟨U J,O⟩) O) ?_;refine B9 J (fun hc2=>?_) (fun hc2=>?_)
  ·try simp only [nn,B3,T.rows_len,Fs.rows_len,Sp.rows_len,Gl.rows_len] at hc2
   have : cntE n=8:=by rw[cntE,if_pos (by omega)]
   refine A8 (A6 ?_);refine A5 J J J (A9 J gU) ?_;refine B0 ?_;refine C1 ?_
   repeat(first|refine tR ?_|refine bR ?_)
   refine C5 J ?_ O
   (rw[e1,this]; rfl)
  ·try simp only [nn,B3,T.rows_len,Fs.rows_len,Sp.rows_len,Gl.rows_len] at hc2
   refine A8 (A6 ?_);refine A5 J J J (B1 J gU J J) ?_;refine A5 J J J (B2 J gU J J J J) ?_;refine D9 J J J J J gU J J ?_ (fun hh=>by simp at hh); intro hlen;refine A5 J J J (B7 J J gU gU J) ?_;refine A5 J J J (A7 J gU) ?_;refine A5 J J J (B1 J gU J J) ?_;refine A5 J J J (B2 J (fun hh=>hh) J J J J) ?_;refine A5 J J J (G7 J (fun hh=>hh) J J) ?_;refine A5 J J J (B7 J J (fun hh=>hh) gU J) ?_;refine A5 J J J (E5 J J gU (fun _ hi=>gP J hi)) ?_;refine A5 J J J (A7 J gU) ?_;refine A5 J J J (B1 J gU J J) ?_;refine H3 (s:=⟨[(1,_,_),(25,_,_),(26,_,_)],[(.l 1,_)],[],[]⟩) (B4 (⟨U J,U J,U J,O⟩) (⟨U J,O⟩) O) ?_;refine A5 J J J (B2 J (fun hh=>hh) J J J J) ?_;refine A5 J J J (G7 J (fun hh=>hh) J J) ?_;refine A5 J J J (B7 J J (fun hh=>hh) gU J) ?_;refine A5 J J J (E5 J J gU (fun _ hi=>gP J hi)) ?_;refine A5 J J J (A9 J gU) ?_;refine B0 ?_;refine B5 (s:=⟨[(1,_,_),(14,_,_)],[(.l 1,_)],[],[]⟩) (B4 (⟨U J,U J,O⟩) (⟨U J,O⟩) O) ?_
   refine B9 J (fun hc3=>?_) (fun hc3=>?_)
   ·try simp only [nn,B3,T.rows_len,Fs.rows_len,Sp.rows_len,Gl.rows_len] at hc3
    have : cntE n=3:=by rw[cntE,if_neg (by omega),if_pos (by omega)]
    refine A8 (A6 ?_);refine A5 J J J (A9 J gU) ?_;refine B0 ?_;refine C1 ?_
    repeat(first|refine tR ?_|refine bR ?_)
    refine C5 J ?_ O
    (rw[e1,this]; rfl)
   ·try simp only [nn,B3,T.rows_len,Fs.rows_len,Sp.rows_len,Gl.rows_len] at hc3
    refine A8 (A6 ?_);refine A5 J J J (B1 J gU J J) ?_;refine A5 J J J (B2 J gU J J J J) ?_;refine D9 J J J J J gU J J ?_ (fun hh=>by simp at hh); intro hlen;refine A5 J J J (B7 J J gU gU J) ?_;refine A5 J J J (A9 J gU) ?_;refine B0 ?_;refine B5 (s:=⟨[(1,_,_),(31,_,_)],[(.l 1,_)],[],[]⟩) (B4 (⟨U J,U J,O⟩) (⟨U J,O⟩) O) ?_;refine B9 J (fun hc4=>?_) (fun hc4=>?_)
    ·try simp only [nn,B3,T.rows_len,Fs.rows_len,Sp.rows_len,Gl.rows_len] at hc4
     have : cntE n=8:=by rw[cntE,if_neg (by omega),if_neg (by omega),if_pos (by omega)]
     refine A8 (A6 ?_);refine A5 J J J (A9 J gU) ?_;refine B0 ?_;refine C1 ?_
     repeat(first|refine tR ?_|refine bR ?_)
     refine C5 J ?_ O
     (rw[e1,this]; rfl)
    ·try simp only [nn,B3,T.rows_len,Fs.rows_len,Sp.rows_len,Gl.rows_len] at hc4
     refine A8 (A6 ?_);refine A5 J J J (B1 J gU J J) ?_;refine A5 J J J (B2 J gU J J J J) ?_;refine D9 J J J J J gU J J ?_ (fun hh=>by simp at hh); intro hlen;refine A5 J J J (B7 J J gU gU J) ?_;refine A5 J J J (A7 J gU) ?_;refine A5 J J J (B1 J gU J J) ?_;refine A5 J J J (B2 J (fun hh=>hh) J J J J) ?_;refine A5 J J J (G7 J (fun hh=>hh) J J) ?_;refine A5 J J J (B7 J J (fun hh=>hh) gU J) ?_;refine A5 J J J (E5 J J gU (fun _ hi=>gP J hi)) ?_;refine A5 J J J (A9 J gU) ?_;refine B0 ?_;refine B5 (s:=⟨[(1,_,_),(36,_,_)],[(.l 1,_)],[],[]⟩) (B4 (⟨U J,U J,O⟩) (⟨U J,O⟩) O) ?_;refine B9 J (fun hc5=>?_) (fun hc5=>?_)
     ·try simp only [nn,B3,T.rows_len,Fs.rows_len,Sp.rows_len,Gl.rows_len] at hc5
      have : cntE n=3:=by rw[cntE,if_neg (by omega),if_neg (by omega),if_neg (by omega),if_pos (by omega)]
      refine A8 (A6 ?_);refine A5 J J J (A9 J gU) ?_;refine B0 ?_;refine C1 ?_
      repeat(first|refine tR ?_|refine bR ?_)
      refine C5 J ?_ O
      (rw[e1,this]; rfl)
     ·try simp only [nn,B3,T.rows_len,Fs.rows_len,Sp.rows_len,Gl.rows_len] at hc5
      have : cntE n=0:=by rw[cntE,if_neg (by omega),if_neg (by omega),if_neg (by omega),if_neg (by omega)]
      rw[if_neg (by rw[this]; simp)] at e1
      refine A8 (A6 ?_);refine A5 J J J (B1 J gU J J) ?_;refine A5 J J J (B2 J gU J J J J) ?_;refine C8 J J J J J J gU gU (Cq _) J ?_;refine A5 J J J (A9 J gU) ?_;refine B0 ?_;refine B9 J (fun hc6=>?_) (fun hc6=>?_)
      ·rw[Gn] at hc6
       refine A8 (A6 ?_);refine A5 J J J (A9 J gU) ?_;refine B0 ?_;refine C1 ?_
       repeat(first|refine tR ?_|refine bR ?_)
       refine C5 J ?_ O
       (rw[e1,if_pos (by simpa using hc6)]; rfl)
      ·rw[Gn] at hc6
       rw[if_neg (by simpa using hc6)] at e1
       refine C0 ?_;refine A8 ?_;refine A8 (A6 ?_);refine A5 J J J (B1 J gU J J) ?_;refine A5 J J J (B2 J gU J J J J) ?_;refine D9 J J J J J gU J J ?_ (fun hh=>by simp at hh); intro hlen;refine A5 J J J (A7 J gU) ?_;refine B0 ?_;refine B5 (s:=⟨[(1,_,_),(52,_,_),(53,_,_),(54,_,_)],[(.l 1,_)],[],[]⟩) (B4 (⟨U J,U J,U J,U J,O⟩) (⟨U J,O⟩) O) ?_;refine C4 ?_;refine F3 (ι:=Nat) { t:=[(1,_,_),(52,_,_),(53,_,_)],bx:=[(.l 1,_)],ow:=[] } (fun k=>[(54,true,xi (k : Int))]) (fun k=>[]) (fun k=>k≤n.fresh.length∧errs (frE E4) (n.fresh.drop k)=errs (frE E4) n.fresh) (fun k=>n.fresh.length - k) (0) (by simp) (B4 (⟨U J,U J,U J,U J,O⟩) (⟨U J,O⟩) O) ?_
       intro k hok
       dsimp only [List.cons_append,List.nil_append]
       obtain ⟨hk,hi⟩:=hok
       refine A8 (A6 ?_);refine A5 J J J (B7 J J gU gU J) ?_;refine B0 ?_;refine A8 ?_;refine B9 J (fun hc7=>?_) (fun hc7=>?_)
       ·try simp only [nn,B3,T.rows_len,Fs.rows_len,Sp.rows_len,Gl.rows_len] at hc7
        have hd:=O7 (d:=default) (k:=k) (l:=n.fresh) (by omega) hi
        have hf : frE E4 (n.fresh.getD k default)=if E4 (n.fresh.getD k default).role=false∨E4 (n.fresh.getD k default).name=false then 2 else if (n.fresh.getD k default).sort < 2∨4 < (n.fresh.getD k default).sort then 10 else 0:=rfl
        refine C0 ?_;refine A8 ?_;refine C4 ?_;refine A8 (A6 ?_);refine A5 J J J (C2 J J gU gU J J J (fun hh=>Fs.rows_at (by first|omega|(simp at hh ⊢; omega)))) ?_;refine A5 J J J (D4 J gU J J J J) ?_;refine C3 J (E1 J J J) ?_;refine C3 J (C7 J J J J J J J) ?_;refine B0 ?_;refine C4 ?_;refine A8 (A6 ?_);refine A5 J J J (B1 J gU J J) ?_;refine A5 J J J (B2 J gU J J J J) ?_;refine C8 J J J J J J gU gU (S2 _) J ?_;refine A5 J J J (A7 J gU) ?_;refine A5 J J J (B1 J gU J J) ?_;refine A5 J J J (B2 J (fun hh=>hh) J J J J) ?_;refine C8 J J J J J J gU (fun hh=>gA ((fun hh=>hh) hh) (rfl)) (S2 _) J ?_;refine A5 J J J (E5 J J gU (fun _ hi=>gP J hi)) ?_;refine H3 (s:=⟨[(1,_,_),(4,_,_),(52,_,_),(53,_,_),(54,_,_),(66,_,_)],[(.l 1,_),(.l 4,_)],[],[]⟩) (B4 (⟨U J,U J,U J,U J,U J,U J,O⟩) (⟨U J,U J,O⟩) O) ?_;refine A5 J J J (A9 J gU) ?_;refine B0 ?_;refine B9 J (fun hc8=>?_) (fun hc8=>?_)
        ·try simp only [nn,B3,T.rows_len,Fs.rows_len,Sp.rows_len,Gl.rows_len] at hc8
         rw[if_pos (by grind)] at hf
         have := hd.1 (by rw[hf]; simp)
         refine A8 (A6 ?_);refine A5 J J J (A9 J gU) ?_;refine B0 ?_;refine C1 ?_
         repeat(first|refine tR ?_|refine bR ?_)
         refine C5 J ?_ O
         (rw[e1,this,hf]; rfl)
        ·try simp only [nn,B3,T.rows_len,Fs.rows_len,Sp.rows_len,Gl.rows_len] at hc8
         rw[if_neg (by grind)] at hf
         refine A8 (A6 ?_);refine A5 J J J (B1 J gU J J) ?_;refine A5 J J J (B2 J gU J J J J) ?_;refine A5 J J J (B7 J J gU gU J) ?_;refine A5 J J J (A7 J gU) ?_;refine A5 J J J (B1 J gU J J) ?_;refine A5 J J J (B2 J (fun hh=>hh) J J J J) ?_;refine A5 J J J (B7 J J (fun hh=>hh) gU J) ?_;refine A5 J J J (E5 J J gU (fun _ hi=>gP J hi)) ?_;refine A5 J J J (A9 J gU) ?_;refine B0 ?_;refine B5 (s:=⟨[(1,_,_),(52,_,_),(53,_,_),(54,_,_),(67,_,_)],[(.l 1,_)],[],[]⟩) (B4 (⟨U J,U J,U J,U J,U J,O⟩) (⟨U J,O⟩) O) ?_;refine B9 J (fun hc9=>?_) (fun hc9=>?_)
         ·try simp only [nn,B3,T.rows_len,Fs.rows_len,Sp.rows_len,Gl.rows_len] at hc9
          rw[if_pos (by omega)] at hf
          have := hd.1 (by rw[hf]; simp)
          refine A8 (A6 ?_);refine A5 J J J (A9 J gU) ?_;refine B0 ?_;refine C1 ?_
          repeat(first|refine tR ?_|refine bR ?_)
          refine C5 J ?_ O
          (rw[e1,this,hf]; rfl)
         ·try simp only [nn,B3,T.rows_len,Fs.rows_len,Sp.rows_len,Gl.rows_len] at hc9
          rw[if_neg (by omega)] at hf
          refine C0 ?_;refine A6 ?_;refine A5 J J J (D0 J J gU gU J (IntWalk.i64_in _ (by omega))) ?_;refine A5 J J J (A7 J gU) ?_;refine B0 ?_;refine ⟨k + 1,?_,?_,B4 (⟨⟨_,rfl,?_⟩,⟨U J,U J,U J,O⟩⟩) (⟨U J,O⟩) O⟩
          all_goals (first|rfl|omega|exact ⟨by omega,hd.2 hf⟩)
       ·try simp only [nn,B3,T.rows_len,Fs.rows_len,Sp.rows_len,Gl.rows_len] at hc7
        have hz:=X1 (by omega) hi
        rw[hz] at e1
        rw[if_neg (by simp)] at e1
        refine E2 ?_
        repeat(first|refine D5 ?_|refine D6 ?_|refine D2 J ?_)
        refine A8 ?_;refine A8 (A6 ?_);refine A5 J J J (B1 J gU J J) ?_;refine A5 J J J (B2 J gU J J J J) ?_;refine C8 J J J J J J gU gU (Cq _) J ?_;refine B0 ?_;refine B9 J (fun hc8=>?_) (fun hc8=>?_)
        ·rw[Gn] at hc8
         refine A8 (A6 ?_);refine A5 J J J (A9 J gU) ?_;refine B0 ?_;refine C1 ?_
         repeat(first|refine tR ?_|refine bR ?_)
         refine C5 J ?_ O
         (rw[e1,if_pos (by simpa using hc8)]; rfl)
        ·rw[Gn] at hc8
         refine C0 ?_;refine A8 (A6 ?_);refine A5 J J J (A9 J gU) ?_;refine B0 ?_;refine C1 ?_
         repeat(first|refine tR ?_|refine bR ?_)
         refine C5 J ?_ O
         (rw[e1,if_neg (by simpa using hc8)]; rfl)
theorem Tc (n : Nar) (hs : ∀ s ∈ n.steps,s.msg.size≤900000) (hg : ∀ g ∈ n.goals,T.sizes g.data≤900000) : Ctr sys 37 [xn n] [] (xi (narE E4 n)) none []:=by
 have h4:=Sp.rows_len n.steps
 have h5:=Gl.rows_len n.goals
 refine D1 Tryz.func37 J J J J J J ?_;refine A8 (A6 ?_);refine C3 J (D8 J J J J) ?_;refine A5 J J J (A9 J gU) ?_;refine B0 ?_;refine A8 ?_;refine A8 (A6 ?_);refine A5 J J J (B8 J gU J J J J J) ?_;refine C8 J J J J J J gU gU (Xb _) J ?_;refine A5 J J J (A9 J gU) ?_;refine B0 ?_;refine B5 (s:=⟨[(1,_,_),(3,_,_)],[(.l 1,_)],[],[]⟩) (B4 (⟨U J,U J,O⟩) (⟨U J,O⟩) O) ?_;refine A8 (A6 ?_);refine A5 J J J (A7 J gU) ?_;refine A5 J J J (B7 J J gU gU J) ?_;refine B0 ?_;refine B9 J (fun hc=>?_) (fun hc=>?_)
 ·try simp only [nn,B3,T.rows_len,Fs.rows_len,Sp.rows_len,Gl.rows_len] at hc
  refine A8 (A6 ?_);refine A5 J J J (A7 J gU) ?_;refine A5 J J J (A9 J gU) ?_;refine B0 ?_;refine C1 ?_
  repeat(first|refine tR ?_|refine bR ?_)
  refine C5 J ?_ O
  (rw[narE,if_pos hc]; rfl)
 ·try simp only [nn,B3,T.rows_len,Fs.rows_len,Sp.rows_len,Gl.rows_len] at hc
  have e1 : narE E4 n=if errs (spE E4) n.steps≠0 then errs (spE E4) n.steps else errs (N9 E4) n.goals:=by rw[narE,if_neg (by simpa using hc)]
  refine C0 ?_;refine A8 ?_;refine A8 (A6 ?_);refine A5 J J J (B1 J gU J J) ?_;refine A5 J J J (B2 J gU J J J J) ?_;refine D9 J J J J J gU J J ?_ (fun hh=>by simp at hh); intro hlen;refine A5 J J J (A7 J gU) ?_;refine B0 ?_;refine B5 (s:=⟨[(1,_,_),(16,_,_),(17,_,_),(18,_,_)],[(.l 1,_)],[],[]⟩) (B4 (⟨U J,U J,U J,U J,O⟩) (⟨U J,O⟩) O) ?_;refine C4 ?_;refine F3 (ι:=Nat) { t:=[(1,_,_),(16,_,_),(17,_,_)],bx:=[(.l 1,_)],ow:=[] } (fun k=>[(18,true,xi (k : Int))]) (fun k=>[]) (fun k=>k≤n.steps.length∧errs (spE E4) (n.steps.drop k)=errs (spE E4) n.steps) (fun k=>n.steps.length - k) (0) (by simp) (B4 (⟨U J,U J,U J,U J,O⟩) (⟨U J,O⟩) O) ?_
  intro k hok
  dsimp only [List.cons_append,List.nil_append]
  obtain ⟨hk,hi⟩:=hok
  refine A8 (A6 ?_);refine A5 J J J (B7 J J gU gU J) ?_;refine B0 ?_;refine A8 ?_;refine B9 J (fun hc2=>?_) (fun hc2=>?_)
  ·try simp only [nn,B3,T.rows_len,Fs.rows_len,Sp.rows_len,Gl.rows_len] at hc2
   have hlt : k < n.steps.length:=by omega
   have hd:=O7 (d:=default) (k:=k) (l:=n.steps) (by omega) hi
   have hm:=hs _ (Em (d:=default) hlt)
   have hf : spE E4 (n.steps.getD k default)=if E4 (n.steps.getD k default).frm=false∨E4 (n.steps.getD k default).dst=false then 2 else msgE E4 (n.steps.getD k default).msg:=rfl
   refine C0 ?_;refine A8 ?_;refine C4 ?_;refine A8 (A6 ?_);refine A5 J J J (C2 J J gU gU J J J (fun hh=>Sp.rows_at (by first|omega|(simp at hh ⊢; omega)))) ?_;refine A5 J J J (D4 J gU J J J J) ?_;refine C3 J (E1 J J J) ?_;refine C3 J (C7 J J J J J J J) ?_;refine B0 ?_;refine A8 ?_;refine A8 (A6 ?_);refine A5 J J J (B1 J gU J J) ?_;refine A5 J J J (B2 J gU J J J J) ?_;refine C8 J J J J J J gU gU (S2 _) J ?_;refine A5 J J J (A7 J gU) ?_;refine A5 J J J (B1 J gU J J) ?_;refine A5 J J J (B2 J (fun hh=>hh) J J J J) ?_;refine C8 J J J J J J gU (fun hh=>gA ((fun hh=>hh) hh) (rfl)) (S2 _) J ?_;refine A5 J J J (E5 J J gU (fun _ hi=>gP J hi)) ?_;refine B0 ?_;refine B5 (s:=⟨[(1,_,_),(5,_,_),(16,_,_),(17,_,_),(18,_,_),(29,_,_)],[(.l 1,_),(.l 5,_)],[],[]⟩) (B4 (⟨U J,U J,U J,U J,U J,U J,O⟩) (⟨U J,U J,O⟩) O) ?_;refine B9 J (fun hc3=>?_) (fun hc3=>?_)
   ·try simp only [nn,B3,T.rows_len,Fs.rows_len,Sp.rows_len,Gl.rows_len] at hc3
    rw[if_pos (by grind)] at hf
    have := hd.1 (by rw[hf]; simp)
    refine A8 (A6 ?_);refine A5 J J J (A9 J gU) ?_;refine B0 ?_;refine C1 ?_
    repeat(first|refine tR ?_|refine bR ?_)
    refine C5 J ?_ O
    (rw[e1,this,hf]; rfl)
   ·try simp only [nn,B3,T.rows_len,Fs.rows_len,Sp.rows_len,Gl.rows_len] at hc3
    rw[if_neg (by grind)] at hf
    refine C0 ?_;refine A8 (A6 ?_);refine A5 J J J (B1 J gU J J) ?_;refine A5 J J J (B8 J gU J J J J J) ?_;refine C8 J J J J J J gU gU (El (n.steps.getD k default).msg hm) J ?_;refine A5 J J J (A9 J gU) ?_;refine B0 ?_;refine A8 (A6 ?_);refine A5 J J J (A7 J gU) ?_;refine A5 J J J (B7 J J gU gU J) ?_;refine B0 ?_;refine B5 (s:=⟨[(1,_,_),(6,_,_),(16,_,_),(17,_,_),(18,_,_),(34,_,_)],[(.l 1,_)],[],[]⟩) (B4 (⟨U J,U J,U J,U J,U J,U J,O⟩) (⟨U J,O⟩) O) ?_;refine B9 J (fun hc4=>?_) (fun hc4=>?_)
    ·try simp only [nn,B3,T.rows_len,Fs.rows_len,Sp.rows_len,Gl.rows_len] at hc4
     have := hd.1 (by rw[hf]; exact hc4)
     refine A8 (A6 ?_);refine A5 J J J (A7 J gU) ?_;refine A5 J J J (A9 J gU) ?_;refine B0 ?_;refine C1 ?_
     repeat(first|refine tR ?_|refine bR ?_)
     refine C5 J ?_ O
     (rw[e1,this,hf,if_pos hc4]; rfl)
    ·try simp only [nn,B3,T.rows_len,Fs.rows_len,Sp.rows_len,Gl.rows_len] at hc4
     refine C0 ?_;refine A6 ?_;refine A5 J J J (D0 J J gU gU J (IntWalk.i64_in _ (by omega))) ?_;refine A5 J J J (A7 J gU) ?_;refine B0 ?_;refine ⟨k + 1,?_,?_,B4 (⟨⟨_,rfl,?_⟩,⟨U J,U J,U J,O⟩⟩) (⟨U J,O⟩) O⟩
     all_goals (first|rfl|omega|exact ⟨by omega,hd.2 (by rw[hf]; simpa using hc4)⟩)
  ·try simp only [nn,B3,T.rows_len,Fs.rows_len,Sp.rows_len,Gl.rows_len] at hc2
   have hz:=X1 (by omega) hi
   rw[hz,if_neg (by simp)] at e1
   refine E2 ?_
   repeat(first|refine D5 ?_|refine D6 ?_|refine D2 J ?_)
   refine A8 ?_;refine A8 (A6 ?_);refine A5 J J J (B1 J gU J J) ?_;refine A5 J J J (B2 J gU J J J J) ?_;refine D9 J J J J J gU J J ?_ (fun hh=>by simp at hh); intro hlen;refine A5 J J J (A7 J gU) ?_;refine B0 ?_;refine B5 (s:=⟨[(38,_,_),(39,_,_),(40,_,_)],[],[],[]⟩) (B4 (⟨U J,U J,U J,O⟩) O O) ?_;refine C4 ?_;refine F3 (ι:=Nat) { t:=[(38,_,_),(39,_,_)],bx:=[],ow:=[] } (fun k=>[(40,true,xi (k : Int))]) (fun k=>[]) (fun k=>k≤n.goals.length∧errs (N9 E4) (n.goals.drop k)=errs (N9 E4) n.goals) (fun k=>n.goals.length - k) (0) (by simp) (B4 (⟨U J,U J,U J,O⟩) O O) ?_
   intro k hok2
   dsimp only [List.cons_append,List.nil_append]
   obtain ⟨hk2,hi2⟩:=hok2
   refine A8 (A6 ?_);refine A5 J J J (B7 J J gU gU J) ?_;refine B0 ?_;refine A8 ?_;refine B9 J (fun hc5=>?_) (fun hc5=>?_)
   ·try simp only [nn,B3,T.rows_len,Fs.rows_len,Sp.rows_len,Gl.rows_len] at hc5
    have hlt : k < n.goals.length:=by omega
    have hd:=O7 (d:=default) (k:=k) (l:=n.goals) (by omega) hi2
    have hm:=hg _ (Em (d:=default) hlt)
    refine C0 ?_;refine A8 ?_;refine C4 ?_;refine A8 (A6 ?_);refine A5 J J J (C2 J J gU gU J J J (fun hh=>Gl.rows_at (by first|omega|(simp at hh ⊢; omega)))) ?_;refine A5 J J J (D4 J gU J J J J) ?_;refine C3 J (E1 J J J) ?_;refine C3 J (C7 J J J J J J J) ?_;refine B0 ?_;refine A8 (A6 ?_);refine A5 J J J (B8 J gU J J J J J) ?_;refine C8 J J J J J J gU gU (Xf (n.goals.getD k default) hm) J ?_;refine A5 J J J (A9 J gU) ?_;refine B0 ?_;refine B5 (s:=⟨[(9,_,_),(38,_,_),(39,_,_),(40,_,_)],[],[],[]⟩) (B4 (⟨U J,U J,U J,U J,O⟩) O O) ?_;refine A8 (A6 ?_);refine A5 J J J (A7 J gU) ?_;refine A5 J J J (B7 J J gU gU J) ?_;refine B0 ?_;refine B9 J (fun hc6=>?_) (fun hc6=>?_)
    ·try simp only [nn,B3,T.rows_len,Fs.rows_len,Sp.rows_len,Gl.rows_len] at hc6
     have := hd.1 hc6
     refine A8 (A6 ?_);refine A5 J J J (A7 J gU) ?_;refine A5 J J J (A9 J gU) ?_;refine B0 ?_;refine C1 ?_
     repeat(first|refine tR ?_|refine bR ?_)
     refine C5 J ?_ O
     (rw[e1,this]; rfl)
    ·try simp only [nn,B3,T.rows_len,Fs.rows_len,Sp.rows_len,Gl.rows_len] at hc6
     refine C0 ?_;refine A6 ?_;refine A5 J J J (D0 J J gU gU J (IntWalk.i64_in _ (by omega))) ?_;refine A5 J J J (A7 J gU) ?_;refine B0 ?_;refine ⟨k + 1,?_,?_,B4 (⟨⟨_,rfl,?_⟩,⟨U J,U J,O⟩⟩) O O⟩
     all_goals (first|rfl|omega|exact ⟨by omega,hd.2 (by simpa using hc6)⟩)
   ·try simp only [nn,B3,T.rows_len,Fs.rows_len,Sp.rows_len,Gl.rows_len] at hc5
    have hz2:=X1 (by omega) hi2
    refine E2 ?_
    repeat(first|refine D5 ?_|refine D6 ?_|refine D2 J ?_)
    refine A8 (A6 ?_);refine A5 J J J (A9 J gU) ?_;refine B0 ?_;refine C1 ?_
    repeat(first|refine tR ?_|refine bR ?_)
    refine C5 J ?_ O
    (rw[e1,hz2]; rfl)
open Go.RowKit (Below)
theorem Eb (l : List T) (t : T) : X.v (.c (.sl 4 (T.rows l++[t.cells])))=xl (l++[t]):=by simp [xl,T.rows_eq]
end Go.Proofs.YteidahabkfgfjaaGreat
namespace Go.Proofs.YteidahabkfgfjaaGreat
open Go Go.Abs
def pbx (l : List Tk) (p : PS) : List C:=[.sl 5 (Tk.rows l), .i .i64 (p.at' : Int), .b p.bad]
theorem Yq {l : List Tk} {a : Int} {b : Bool} {p : PS} (h1 : a=p.at') (h2 : b=p.bad) : ([.sl 5 (Tk.rows l), .i .i64 a, .b b] : List C)=pbx l p:=by rw[h1,h2]; rfl
theorem Tj (l : List (List UInt8)) (s : List UInt8) : Ctr sys 53 [xss l,xs s] [] (xi (idxF (fun x=>decide (s=x)) l)) none []:=by
 have hrl:=B3 l
 refine D1 Tryz.func53 J J J J J J ?_;refine A8 (A6 ?_);refine A5 J J J (A9 J gU) ?_;refine B0 ?_;refine A8 ?_;refine A8 (A6 ?_);refine A5 J J J (A7 J gU) ?_;refine D9 J J J J J gU J J ?_ (fun hh=>by simp at hh); intro hlen;refine A5 J J J (A7 J gU) ?_;refine B0 ?_;refine C4 ?_;refine F3 (ι:=Nat) { t:=[(0,_,_),(1,_,_),(7,_,_)],bx:=[],ow:=[] } (fun k=>[(8,true,xi (k : Int))]) (fun k=>[]) (fun k=>k≤l.length∧(if idxF (fun x=>decide (s=x)) (l.drop k) < 0 then -1 else idxF (fun x=>decide (s=x)) (l.drop k) + k)=idxF (fun x=>decide (s=x)) l) (fun k=>l.length - k) (0) (⟨by simp,(Dh _ _).trans (Fl _ _)⟩) (B4 (⟨U J,U J,U J,U J,O⟩) O O) ?_
 intro k hok
 dsimp only [List.cons_append,List.nil_append]
 obtain ⟨hk,hi⟩:=hok
 refine A8 (A6 ?_);refine A5 J J J (B7 J J gU gU J) ?_;refine B0 ?_;refine A8 ?_;refine B9 J (fun hc=>?_) (fun hc=>?_)
 ·try simp only [nn,B3,T.rows_len,Tk.rows_len] at hc
  have hd:=Ev (k:=k) (l:=l) (by omega) hi
  refine C0 ?_;refine A8 ?_;refine C4 ?_;refine A8 (A6 ?_);refine A5 J J J (A7 J gU) ?_;refine A5 J J J (A9 J gU) ?_;refine B0 ?_;refine A8 (A6 ?_);refine A5 J J J (A7 J gU) ?_;refine A5 J J J (A7 J gU) ?_;refine A5 J J J (A7 J gU) ?_;refine A5 J J J (C2 J J gU gU J J J (fun hh=>L1 (by first|omega|(simp at hh ⊢; omega)))) ?_;refine A5 J J J (E3 J gU J J J) ?_;refine A5 J J J (G0 J J gU gU J) ?_;refine B0 ?_;refine B5 (s:=⟨[(0,_,_),(1,_,_),(5,_,_),(7,_,_),(8,_,_),(16,_,_)],[],[],[]⟩) (B4 (⟨U J,U J,U J,U J,U J,U J,O⟩) O O) ?_;refine B9 J (fun hc2=>?_) (fun hc2=>?_)
  ·try simp only [nn,B3,T.rows_len,Tk.rows_len] at hc2
   refine A8 (A6 ?_);refine A5 J J J (A7 J gU) ?_;refine A5 J J J (A9 J gU) ?_;refine B0 ?_;refine C1 ?_
   repeat(first|refine tR ?_|refine bR ?_)
   refine C5 J ?_ O;exact H2 (hd.1 (by simpa using hc2)).symm
  ·try simp only [nn,B3,T.rows_len,Tk.rows_len] at hc2
   refine C0 ?_;refine A6 ?_;refine A5 J J J (D0 J J gU gU J (IntWalk.i64_in _ (by omega))) ?_;refine A5 J J J (A7 J gU) ?_;refine B0 ?_;refine ⟨k + 1,?_,?_,B4 (⟨⟨_,rfl,?_⟩,⟨U J,U J,U J,O⟩⟩) O O⟩
   all_goals (first|rfl|omega|exact ⟨by omega,hd.2 (by simpa using hc2)⟩)
 ·try simp only [nn,B3,T.rows_len,Tk.rows_len] at hc
  refine E2 ?_
  repeat(first|refine D5 ?_|refine D6 ?_|refine D2 J ?_)
  refine A8 (A6 ?_);refine A5 J J J (A9 J gU) ?_;refine B0 ?_;refine C1 ?_
  repeat(first|refine tR ?_|refine bR ?_)
  refine C5 J ?_ O;exact H2 (Hp (by omega) hi).symm
theorem R7 (s : List UInt8) : ∀ l : List (List UInt8),(l.any fun x=>decide (s=x))=l.contains s
 | []=>rfl
 | x :: l=>by
  rw[List.any_cons,List.contains_cons,R7 s l]
  congr 1
  rw[Bool.eq_iff_iff]; simp
theorem O3 (l : List (List UInt8)) (s : List UInt8) : Ctr sys 77 [xss l,xs s] [] (xb (l.contains s)) none []:=by
 refine D1 Tryz.func77 J J J J J J ?_;refine A8 (A6 ?_);refine A5 J J J (A9 J gU) ?_;refine B0 ?_;refine A8 (A6 ?_);refine A5 J J J (A7 J gU) ?_;refine A5 J J J (A7 J gU) ?_;refine C8 J J J J J J gU gU (Tj _ _) J ?_;refine A5 J J J (B7 J J gU gU J) ?_;refine A5 J J J (A9 J gU) ?_;refine B0 ?_;refine C1 ?_
 repeat(first|refine tR ?_|refine bR ?_)
 refine C5 J ?_ O;exact M0 ((Z0 _ l).trans (R7 s l))
end Go.Proofs.YteidahabkfgfjaaGreat
namespace Go.Abs
variable {Z : Pg}
theorem Zr {N : Nat} {ops : Array Oper} {st : St} {o : Oper} {d : Nat} {x : X} (hg : G8 ops st o=some false) (hd : o.dst=some d) (hN : Nat.ble (d + 1) N=true) : Op1 Z N ops o st (st.put d (false,x)):=by
 intro E G a w hr hE K Q hK
 have hdN : d < E.nt:=by rw[hE.nt]; exact Nat.le_of_ble_eq_true hN
 rw[J6 hr hg,hd]
 rw[hd] at hK
 simp only [Bool.false_eq_true,if_false]
 exact hK G undef w (hr.put hdN (fun hf=>by simp at hf) (fun _=>rfl))
theorem Ve {N : Nat} {ops : Array Oper} {rest : List Oper} {K : St→Prop} {st : St} {o : Oper} {d : Nat} (x : X) (hg : G8 ops st o=some false) (hd : o.dst=some d) (hN : Nat.ble (d + 1) N=true)
  (h : AL Z N ops rest K (st.put d (false,x))) : AL Z N ops (o :: rest) K st:=U7 (Zr hg hd hN) h
end Go.Abs
namespace Go.Abs
def uBD (s : St) (os : OS) : Bool:=os.all fun e=>match s.own (.b (.o e.1) e.2.1) with
 | some z=>Nat.beq z e.2.2
 | none=>false
theorem Oo {T : List (Option TyI)} {rs : List ResultVar} {res x : X} {bs' : List (List C)} {os : OS} {s : St} (h : resX T s rs=some x) (hx : x=res) (hb : subB s (U5 0 bs')) (ho : uBD s os=true) : retO T rs res bs' os .box .normal s:=by
 have h1 : retS T rs res none bs' .ret s:=C5 h hx hb
 refine ⟨h1.1,h1.2.2,fun e he=>?_⟩
 have := List.all_eq_true.1 ho e he
 split at this
 ·rename_i z hz; rw[hz,Nat.eq_of_beq_eq_true this]
 ·simp at this
end Go.Abs
namespace Go.Abs
variable {Z : Pg}
section
variable {N : Nat} {st s0 : St} {ops : Array Oper} {B : List Nat} {q : Nat} {rest : List Oper} {acc : List Lnk} {o : Oper} {Q : St→Prop} {d : Nat}
end
theorem Gj {st : St} {ty : TypeId} {x i : Operand} {t : TypeId} {g gi gate : Bool} {k : IntKind} {m : Int} {j sz : Nat} {es : List (List C)} {row : List C} {ti : TyI} {e by' : Nat} (h : lk Z.T st ty x=some (g, .v (.c (.sl sz es)))) (hi : lk Z.T st ty i=some (gi, .v (.c (.i k m))))
  (hg : gate=true→g=true) (hgi : gate=true→gi=true) (ht : tyAt Z.T t=some ti) (hel : ti.el=some (e,sz,by')) (hn : gate=true→m=(j : Int)) (hj : gate=true→es[j]? = some row) : PureOk Z st (.indexAddr t x i) ty gate (.v (.ro row)) :=
 fun o E G a w h1 h2 h3 h4=>C2 h hi hg hgi ht hel (hn h4) hj o E G a w h1 h2 h3 h4
theorem Bm (j' : Nat) {N : Nat} {ops : Array Oper} {rest : List Oper} {K : St→Prop} {st : St} {o : Oper} {d k : Nat} {x : Operand} {t : TypeId} {sz e by' L m0 : Nat} {cs : List C} {xs : List (List C)} {ti : TyI}
  (ho : o.op = .call { callee:=.builtin .append,args:=#[.tmp k,x],argTypes:=#[t,t] }) (hg : G8 ops st o=some true) (hd : o.dst=some d)
  (hs : st.get k=some (true, .v (.ms (.l m0) sz 0 L))) (hw : st.own (.t k)=some sz) (hb : st.box (.l m0)=some cs) (hx : lk Z.T st t x=some (true, .v (.c (.sl sz xs))))
  (ht : tyAt Z.T t=some ti) (hel : ti.el=some (e,sz,by')) (hN : Nat.ble (d + 1) N=true) (hkd : Nat.beq k d=false) (hf1 : st.freshO (.l j',true)=true) (hf2 : st.freshO (.l m0,false)=true) (hcl : cs.length=L * sz) (hx1 : 1≤xs.length)
  (hbig : (L + xs.length) * by'≤140737488355328) (hmax : L + xs.length≤9223372036854775807)
  (h : AL Z N ops rest K (st.msApp d k j' (.l m0) sz (L + xs.length) (cs++xs.flatten))) (hz : Z.old=false:=by rfl) : AL Z N ops (o :: rest) K st :=
 U7 (Dn hg (by
  rw[hd,ho]
  exact Td hs hw hx ht hel hN hkd ⟨_,rfl⟩ (St.freshO_ok hf1) (St.freshO_ok hf2) hcl hx1 hbig hmax (uCc hb hcl) (hz:=hz))) h
end Go.Abs
namespace Go.Abs
def uCf (s : St) (n : Nm) (L : Nat) (os : OS) : Bool:=os.all fun e=>Nat.beq e.1 0 && Nat.blt e.2.1 L && match s.own (.b n e.2.1) with
 | some z=>Nat.beq z e.2.2
 | none=>false
theorem J3 {T : List (Option TyI)} {res x : X} {bs' : List (List C)} {os : OS} {s : St} {b t : Nat} {r : List ResultVar} {n : Nm} {cs : List C} {ti : TyI} (h : resX T s (.cell b t :: r)=some x) (hx : x=res) (hb : subB s (U5 0 bs')) (hne : r≠[])
  (hg : s.get b=some (true, .v (.ptr n 0))) (hbn : s.box n=some cs) (ht : tyAt T t=some ti) (hagg : ti.agg=true) (hln : Nat.beq cs.length ti.n=true) (ho : uCf s n cs.length os=true) : retO T (.cell b t :: r) res bs' os .res .ret s:=by
 have h1 : retS T (.cell b t :: r) res none bs' .ret s:=C5 h hx hb
 refine ⟨h1.1,h1.2.2,b,t,r,n,cs,ti,rfl,hne,hg,hbn,ht,hagg,hln,fun e he=>?_⟩
 have := List.all_eq_true.1 ho e he
 rw[Bool.and_eq_true,Bool.and_eq_true] at this
 obtain ⟨⟨h2,h3⟩,h4⟩:=this
 refine ⟨Nat.eq_of_beq_eq_true h2,?_,?_⟩
 ·split at h4
  ·rename_i z hz; rw[hz,Nat.eq_of_beq_eq_true h4]
  ·simp at h4
 ·have := Nat.le_of_ble_eq_true h3; omega
end Go.Abs
namespace Go.Abs
variable {Z : Pg}
theorem All2.app {α β : Type} {R : α→β→Prop} : ∀ {us : List α} {bs : List β} {cs : List α} {ds : List β},All2 R us bs→All2 R cs ds→All2 R (us++cs) (bs++ds)
 | [],[],_,_,_,k=>k
 | _ :: _,_ :: _,_,_,h,k=>⟨h.1,All2.app h.2 k⟩
 | [],_ :: _,_,_,h,_=>h.elim
 | _ :: _,[],_,_,h,_=>h.elim
theorem Qo {w : World} {G : Gh} : ∀ {ys : List Y} {vs : List Value},All2 (YRep w G) ys vs→All2 (XRep w G) (ys.map X.v) vs
 | [],[],_=>O
 | _ :: _,_ :: _,h=>⟨h.1,Qo h.2⟩
 | [],_ :: _,h=>h.elim
 | _ :: _,[],h=>h.elim
theorem Kl {Z' : Pg} {N : Nat} {ops : Array Oper} {st : St} {o : Oper} {d : Nat} {fo : Operand} {args : Array Operand} {ts : Array TypeId} {f : FuncId} {caps : List Y} {xs cxs : List X} {res : X} {ps : List Pass} {os : OS} {fv : Value} {H : List Value→Prop}
  (hP : Z'.P=Z.P) (hgv : ∀ (E : Env) (G : Gh) (a : Act) (w : World),Rel E G st a w→GlOk Z w (G.passedO ps os)→GlOk Z' w (G.passedO ps os))
  (ho : o.op = .call { callee:=.value fo,args:=args,argTypes:=ts }) (hg : G8 ops st o=some true)
  (ha : M2 Z.T st ts.toList args.toList=some (true,xs)) (htr : cxs.map (X.tr ps)=xs++caps.map X.v) (htrok : Z7 ps cxs=true)
  (hps : ∀ p ∈ ps,st.box p.n=some p.cs) (hnd : M9 st ps=true) (hosb : osB ps os st=true)
  (hs : CtrX Z' H f cxs (ps.map Pass.old) os res (ps.map Pass.ds) .box) (hc : res.clean=true) (hd : o.dst=some d) (hN : Nat.ble (d + 1) N=true)
  (E : Env) (G : Gh) (a : Act) (w : World) (hr : Rel E G st a w) (hE : EOk Z N E) (hfe : a.eval fo=fv) {cvs : List Value} (hfn : fv = .func (.func f) #[] cvs.toArray) (hcv : All2 (YRep w G) caps cvs)
  (hH : ∀ us : List Value,us.length=xs.length→H (us++cvs))
  (K' : Act→World→Prop) (Q' : Exit→Act→World→Prop) (hK : ∀ G' v w',Rel E G' (({ st.stores ps with ow:=osPl ps os++(st.stores ps).ow } : St).put d (true,res)) (a.put o.dst v) w'→K' (a.put o.dst v) w') :
  if Region.wanted o (yielded ops a.tmps) then o.wp Z.P a w K' Q' else K' (a.put o.dst undef) w:=by
 rw[J6 hr hg]
 simp only [if_true]
 have hav:=P5 hr ha J
 have hal:=hav.len
 have hav2:=hav.app (Qo hcv)
 rw[← htr] at hav2
 obtain ⟨hen,hsp⟩:=hs
 have hen2 : P8 Z f:=by unfold P8 at hen ⊢; rw[hP] at hen; exact hen
 unfold Oper.wp
 rw[U1 (caps:=cvs) ho (by rw[hfe,hfn]) hen2,Oper.upon_enter]
 have hos:=Rs hosb
 obtain ⟨p1,p2,p3,p4,p5,p6,p7,p8⟩:=Ff hr hE hav2 htrok hps hnd hos
 have p8' : GlOk Z' w (G.passedO ps os):=hgv E G a w hr p8
 have hcall:=hsp E.C w _ _ p1 (hH (args.toList.map a.eval) hal.symm) p2 p3 p4 p5 p6 p7 p8'
 rw[hP] at hcall
 refine hcall.mono ?_
 rintro e w' ⟨v,G',rfl,hfr,h1,h2,h3,h4,h5,h6,h7,h8⟩
 dsimp only
 obtain ⟨hrel,hS2,hown,hbx⟩:=Cy hr hps hnd hos hfr h1 h2 h3 h5 h6 h8
 have hX : XRep w' (G.backO G' w.heap.size ps os) res v:=h4.mono hS2 (fun _ _ _=>rfl) (fun n hn=>by rw[X.clean_has hc n] at hn; simp at hn)
 rw[hd] at hK ⊢
 have hdN : d < E.nt:=by rw[hE.nt]; exact Nat.le_of_ble_eq_true hN
 refine hK _ v w' ((hrel.addOwns (l:=osPl ps os) ?_).put hdN (g:=true) (fun _=>hX) (fun hf=>by simp at hf))
 intro x hx
 obtain ⟨e,he,hex⟩:=List.mem_filterMap.1 hx
 obtain ⟨q,hq,hlt,hqo⟩:=hos e he
 rw[hq] at hex
 simp only [Option.map_some,Option.some.injEq] at hex
 subst hex
 obtain ⟨u,hu,huo⟩:=h7 e he
 have hA : (G.passedO ps os).A (.o e.1)=((G.A q.n).1,(G.A q.n).2 + q.off):=by simp [Gh.passedO,Gh.passed,hq]
 have hu2 : w'.cell? ⟨(G'.A (.o e.1)).1,(G'.A (.o e.1)).2 + e.2.1,none⟩=some u:=hu
 rw[h5,hA] at hu2
 dsimp only at hu2
 rw[Nat.add_assoc] at hu2
 obtain ⟨u0,hu0,_⟩:=hr.ow _ _ hqo
 exact ⟨u,⟨hu2,hbx _ _ _ hu0.2⟩,hown _ u e q hq (Az hnd q (List.mem_of_getElem? hq)) huo⟩
theorem Bh {N : Nat} {ops : Array Oper} {rest : List Oper} {K : St→Prop} {st : St} {o : Oper} {d : Nat} {fo : Operand} {args : Array Operand} {ts : Array TypeId} {f : FuncId} {caps : List Y} {xs cxs : List X} {res : X} (ps : List Pass) (os : OS)
  (ho : o.op = .call { callee:=.value fo,args:=args,argTypes:=ts }) (hg : G8 ops st o=some true)
  (hf : lk Z.T st 0 fo=some (true, .fn f caps)) (ha : M2 Z.T st ts.toList args.toList=some (true,xs)) (htr : cxs.map (X.tr ps)=xs++caps.map X.v) (htrok : Z7 ps cxs=true)
  (hps : ∀ p ∈ ps,st.box p.n=some p.cs) (hnd : M9 st ps=true) (hosb : osB ps os st=true)
  (hs : CtrO Z f cxs (ps.map Pass.old) os res (ps.map Pass.ds) .box) (hc : res.clean=true) (hd : o.dst=some d) (hN : Nat.ble (d + 1) N=true)
  (h : AL Z N ops rest K (({ st.stores ps with ow:=osPl ps os++(st.stores ps).ow } : St).put d (true,res))) : AL Z N ops (o :: rest) K st:=by
 refine U7 (fun E G a w hr hE K' Q' hK=>?_) h
 obtain ⟨cvs,hfv,hcv⟩:=F4 hr hf rfl
 exact Kl (H:=fun _=>True) J (fun _ _ _ _ _ h=>h) ho hg ha htr htrok hps hnd hosb ⟨hs.1,fun cc w G vs hcc _=>hs.2 cc w G vs hcc⟩ hc hd hN E G a w hr hE J hfv hcv (fun _ _=>O) K' Q' hK
section
variable {N : Nat} {V V' : Act→Prop} {ops : Array Oper} {rest : List Oper} {K : St→Prop} {st st' : St} {o : Oper}
end
theorem S7 {T : List (Option TyI)} {rs : List ResultVar} {res x : X} {bs' : List (List C)} {os : OS} {s : St} (h : resX T s rs=some x) (hx : x=res) (hb : subB s (U5 0 bs')) (ho : uBD s os=true) : retO T rs res bs' os .box .ret s:=Oo h hx hb ho
end Go.Abs
namespace Go.Abs
variable {Z : Pg}
def uAv (es : List (List UInt8 × Value)) : Option Obj→Prop:=fun o=>∃ ms clock,o=some (.map ms clock)∧ms.toList.map (fun e=>(e.key,e.val))=es.map fun p=>((.string ⟨p.1.toArray⟩ : Value),p.2)
theorem mapIs_at {w : World} {b : Nat} {es : List (List UInt8 × Value)} : uAv es w.heap[b]? ↔ MapAt w b es:=Iff.rfl
def Pg.add (Z : Pg) (b : Nat) (es : List (List UInt8 × Value)) : Pg:={ Z with gv:=(b,uAv es) :: Z.gv }
theorem Ka {N : Nat} {c : Code} {Q : Exit→St→Prop} {st : St} (b : Nat) (es : List (List UInt8 × Value)) (hm : (b,uAv es) ∈ Z.gv) (h : AWP Z N c Q (st.addMap b false es)) : AWP Z N c Q st:=by
 intro E G a w hr hE
 have hg:=hE.at hr _ hm
 exact h E G a w (hr.addMap (mapIs_at.1 hg.2.1) (fun q=>by cases q) fun o=>⟨fun n=>hg.2.2.1 o n,fun p=>hg.2.2.2 o p⟩) hE
theorem Ctr.add {b : Nat} {es : List (List UInt8 × Value)} {f : FuncId} {args : List X} {bs bs' : List (List C)} {res : X} {ro : Option Nat} (h : Ctr Z f args bs res ro bs') : Ctr (Z.add b es) f args bs res ro bs':=Ctr.wk (Z:=Z) (Z':=Z.add b es) J (fun g hg=>List.mem_cons_of_mem _ hg) h
theorem uBC {E : Env} {G G' : Gh} {st : St} {a : Act} {w : World} (hr : Rel E G st a w) {b i : Nat} {fl : Bool} {es : List (List UInt8 × Value)} (hm : st.mp[i]? = some (b,fl,es)) (h : GlOk Z w G') (h1 : ∀ o n,G'.W b o ≠ .box n) (h2 : ∀ o p,G'.W b o ≠ .own p) : GlOk (Z.add b es) w G':=by
 intro g hg
 rcases List.mem_cons.1 hg with q | q
 ·subst q
  have := hr.mem_map hm
  exact ⟨this.1.lt,mapIs_at.2 this.1,h1,h2⟩
 ·exact h g q
theorem Wp {N : Nat} {ops : Array Oper} {st : St} {o : Oper} {gate g gf : Bool} {d : Nat} {fo : Operand} {args : Array Operand} {ts : Array TypeId} {f : FuncId} {caps : List Y} {xs : List X} {res : X} {ro : Option Nat} {b i : Nat} {fl : Bool} {es : List (List UInt8 × Value)} (hm : st.mp[i]? = some (b,fl,es))
  (ho : o.op = .call { callee:=.value fo,args:=args,argTypes:=ts }) (hg : G8 ops st o=some gate) (hd : o.dst=some d) (hN : Nat.ble (d + 1) N=true)
  (hf : lk Z.T st 0 fo=some (gf, .fn f caps)) (ha : M2 Z.T st ts.toList args.toList=some (g,xs)) (hgf : gate=true→gf=true) (hga : gate=true→g=true)
  (hs : Ctr (Z.add b es) f (xs++caps.map .v) [] res ro []) (hc : res.clean=true) : Op1 Z N ops o st (st.ret d gate res ro):=by
 intro E G a w hr hE K' Q' hK
 have hdN : d < E.nt:=by rw[hE.nt]; exact Nat.le_of_ble_eq_true hN
 rw[J6 hr hg,hd]
 rw[hd] at hK
 cases gate with
 | false =>
  simp only [Bool.false_eq_true,if_false]
  have : st.ret d false res ro=st.put d (false,res):=by unfold St.ret; split <;> rfl
  rw[this] at hK
  exact hK G undef w (hr.put hdN (fun hf=>by simp at hf) (fun _=>rfl))
 | true =>
  simp only [if_true]
  obtain ⟨cvs,hfv,hcv⟩:=F4 hr hf (hgf rfl)
  have hav:=P5 hr ha (hga J)
  obtain ⟨hen,hsp⟩:=hs
  have hen : P8 Z f:=hen
  unfold Oper.wp
  rw[U1 ho hfv hen,Oper.upon_enter]
  have hmono : ∀ {x : X} {v : Value},XRep w G x v→XRep w G.pure x v:=fun hx=>hx.mono (fun b o hs=>(G.pure_imm b o).2 hs) (fun _ _ _=>rfl) (fun _ _=>rfl)
  have hcv' : All2 (XRep w G) (caps.map X.v) cvs:=by
   have : ∀ (us : List Y) (bs : List Value),All2 (YRep w G) us bs→All2 (XRep w G) (us.map X.v) bs:=by
    intro us
    induction us with
    | nil=>intro bs h; cases bs <;> exact h
    | cons y ys ih=>intro bs h; cases bs with
     | nil=>exact h.elim
     | cons b bs=>exact ⟨h.1,ih bs h.2⟩
   exact this _ _ hcv
  refine (hsp w G.pure _ ((hav.append hcv').mono fun _ _=>hmono) ?_ ?_ ?_ ?_ (uBC hr hm ((hE.at hr).pure) (fun o' n h=>by rcases G.pure_cases b o' with h' | h' <;> rw[h'] at h <;> simp at h) (fun o' n h=>by rcases G.pure_cases b o' with h' | h' <;> rw[h'] at h <;> simp at h))).mono ?_
  ·intro b1 o' hb
   refine hr.wf b1 o' ?_
   intro e; apply hb; unfold Gh.pure; simp [e]
  ·intro j cs hj; simp at hj
  ·intro b1 o' n hn; rcases G.pure_cases b1 o' with h' | h' <;> rw[h'] at hn <;> simp at hn
  ·intro b1 o' p hn; rcases G.pure_cases b1 o' with h' | h' <;> rw[h'] at hn <;> simp at hn
  ·rintro e w' ⟨v,G',rfl,hfr,h1,h2,h3,h4,h5,h6,h7,h8⟩
   dsimp only
   have hfr' : Fr (fun _ _=>False) w.heap.size w w':=hfr.mono (Nat.le_refl _) (fun b1 o' _ ⟨n,hn⟩=>by rcases G.pure_cases b1 o' with h' | h' <;> rw[h'] at hn <;> simp at hn)
   have g1 : ∀ b1 o',G.W b1 o' = .imm→G'.W b1 o' = .imm:=fun b1 o' hi=>h1 b1 o' ((G.pure_imm b1 o').2 hi)
   have g2 : ∀ b1 o',b1 < w.heap.size→G'.W b1 o' = .imm→G.W b1 o' = .imm:=fun b1 o' hb hi=>(G.pure_imm b1 o').1 (h2 b1 o' hb hi)
   let G2:=G.back G' w.heap.size (.own (.t d))
   have hrel : Rel E G2 st a w':=hr.grow hfr' (fun b1 o' hb=>by simp [G2,Gh.back,hb]) (SameA.refl _ _) (fun b1 o' hb=>by
    dsimp only [G2,Gh.back] at hb
    split at hb
    ·rename_i hlt; exact Nat.lt_of_lt_of_le hlt hfr'.size
    ·refine h3 b1 o' ?_
     intro e; rw[e] at hb; simp at hb)
   have hX : XRep w' G2 res v:=h4.mono (fun b1 o'=>Gh.back_imm g2 b1 o') (fun _ _ _=>rfl) (fun n hn=>by rw[X.clean_has hc n] at hn; simp at hn)
   have hput:=hrel.put hdN (g:=true) (fun _=>hX) (fun hf=>by simp at hf)
   cases hro : ro with
   | none =>
    rw[hro] at hK
    rw[hd]
    exact hK G2 v w' hput
   | some sz =>
    rw[hro] at hK
    rw[hd]
    refine hK G2 v w' (hput.addOwn (v:=v) ?_ ?_)
    ·show (a.put (some d) v).tmps[d]? = _
     rw[K2 (by rw[hr.nt]; exact hdN)]; simp
    ·rcases h7 sz hro with h7 | ⟨blk,len,cap,e,k1,k2,k3,k4⟩
     ·exact .inl h7
     ·refine .inr ⟨blk,len,cap,e,k1,⟨k2.1,Nat.le_trans (Nat.le_trans E.C_le (Nat.le_trans hr.hB hr.fr.size)) k2.2.1,fun _ _ _ hh=>by simp at hh⟩,k3,fun o' ho1 ho2=>?_⟩
      obtain ⟨k5,k6⟩:=k4 o' ho1 ho2
      refine ⟨?_,k6⟩
      have hnb : ¬ blk < w.heap.size := by have := h8 _ _ k5; omega
      simp [G2,Gh.back,hnb,k5]
theorem Pq {N : Nat} {ops : Array Oper} {rest : List Oper} {K : St→Prop} {st : St} {o : Oper} {gate g gf : Bool} {d : Nat} {fo : Operand} {args : Array Operand} {ts : Array TypeId} {f : FuncId} {caps : List Y} {xs : List X} {res : X} {ro : Option Nat} {b : Nat} {fl : Bool} {es : List (List UInt8 × Value)} (i : Nat) (hm : st.mp[i]? = some (b,fl,es))
  (ho : o.op = .call { callee:=.value fo,args:=args,argTypes:=ts }) (hg : G8 ops st o=some gate) (hd : o.dst=some d) (hN : Nat.ble (d + 1) N=true)
  (hf : lk Z.T st 0 fo=some (gf, .fn f caps)) (ha : M2 Z.T st ts.toList args.toList=some (g,xs)) (hgf : gate=true→gf=true) (hga : gate=true→g=true)
  (hs : Ctr (Z.add b es) f (xs++caps.map .v) [] res ro []) (hc : res.clean=true)
  (h : AL Z N ops rest K (st.ret d gate res ro)) : AL Z N ops (o :: rest) K st:=U7 (Wp hm ho hg hd hN hf ha hgf hga hs hc) h
theorem Xr {N : Nat} {ops : Array Oper} {rest : List Oper} {K : St→Prop} {st : St} {o : Oper} {d : Nat} {fo : Operand} {args : Array Operand} {ts : Array TypeId} {f : FuncId} {caps : List Y} {xs cxs : List X} {res : X} {b : Nat} {fl : Bool} {es : List (List UInt8 × Value)} (i : Nat) (hm : st.mp[i]? = some (b,fl,es)) (ps : List Pass) (os : OS)
  (ho : o.op = .call { callee:=.value fo,args:=args,argTypes:=ts }) (hg : G8 ops st o=some true)
  (hf : lk Z.T st 0 fo=some (true, .fn f caps)) (ha : M2 Z.T st ts.toList args.toList=some (true,xs)) (htr : cxs.map (X.tr ps)=xs++caps.map X.v) (htrok : Z7 ps cxs=true)
  (hps : ∀ p ∈ ps,st.box p.n=some p.cs) (hnd : M9 st ps=true) (hosb : osB ps os st=true)
  (hs : CtrO (Z.add b es) f cxs (ps.map Pass.old) os res (ps.map Pass.ds) .box) (hc : res.clean=true) (hd : o.dst=some d) (hN : Nat.ble (d + 1) N=true)
  (h : AL Z N ops rest K (({ st.stores ps with ow:=osPl ps os++(st.stores ps).ow } : St).put d (true,res))) : AL Z N ops (o :: rest) K st:=by
 refine U7 (fun E G a w hr hE K' Q' hK=>?_) h
 obtain ⟨cvs,hfv,hcv⟩:=F4 hr hf rfl
 refine Kl (Z:=Z) (Z':=Z.add b es) (H:=fun _=>True) J (fun E G a w hr h=>uBC hr hm h (fun o n hn=>?_) (fun o p hp=>?_)) ho hg ha htr htrok hps hnd hosb ⟨hs.1,fun cc w G vs hcc _=>hs.2 cc w G vs hcc⟩ hc hd hN E G a w hr hE J hfv hcv (fun _ _=>O) K' Q' hK
 ·obtain ⟨_,p,_,_,q,_⟩:=Gh.passed_box (Gh.passedO_box hn)
  exact ((hr.mem_map hm).2.2 o).1 _ q
 ·obtain ⟨q,hq,_⟩:=Gh.passedO_own hp
  exact ((hr.mem_map hm).2.2 o).2 q hq
def CtrM (Z : Pg) (f : FuncId) (args : List X) (res : Nat→X) (es : List (List UInt8 × Value)) : Prop :=
 P8 Z f ∧ ∀ (w : World) (G : Gh) (vs : List Value),All2 (XRep w G) args vs→(∀ b o,G.W b o ≠ .none→b < w.heap.size)→(∀ b o n,G.W b o ≠ .box n)→(∀ b o p,G.W b o ≠ .own p)→GlOk Z w G →
  Calls Z.P f vs.toArray w fun e w'=>∃ v G' b,e = .returned v∧Fr (fun _ _=>False) w.heap.size w w' ∧
   (∀ b o,G.W b o = .imm→G'.W b o = .imm)∧(∀ b o,b < w.heap.size→G'.W b o = .imm→G.W b o = .imm)∧(∀ b o,G'.W b o ≠ .none→b < w'.heap.size)∧(∀ b o n,G'.W b o ≠ .box n)∧(∀ b o p,G'.W b o ≠ .own p)∧XRep w' G' (res b) v∧w.heap.size≤b∧MapAt w' b es
def retM (T : List (Option TyI)) (rs : List ResultVar) (res : Nat→X) (es : List (List UInt8 × Value)) : Exit→St→Prop
 | .normal,s | .ret,s=>∃ b i : Nat,s.mp[i]? = some (b,true,es)∧resX T s rs=some (res b)
 | _,_=>False
theorem Np {f : FuncId} {fn : Func} {c : Code} {N : Nat} {rs : List ResultVar} {args : List X} {res : Nat→X} {es : List (List UInt8 × Value)}
  (hf : Z.P.funcs[f]? = some fn) (hb : fn.body = some c) (hname : (fn.name == "runtime.NumGoroutine") = false) (hN : fn.ntmps = N) (hrs : fn.results = rs.toArray) (hlen' : Nat.ble args.length N = true) (hc : ∀ b, (res b).clean = true)
  (h : AWP Z N c (retM Z.T rs res es) (st0 args [])) (hx : ∀ A,Z.ex A:=by intro _; exact O) : CtrM Z f args res es:=by
 have hlen : args.length≤N:=Nat.le_of_ble_eq_true hlen'
 refine ⟨⟨fn,hf,by rw[hb]; rfl,hname⟩,?_⟩
 intro w G vs hvs hwf hbox hown hgl
 let E : Env:={ B:=w.heap.size,w0:=w,W0:=G.W,A0:=fun j=>G.A (.o j),nt:=N }
 let a : Act:={ tmps:=vs.toArray++Array.replicate (fn.ntmps - vs.toArray.size) undef,defers:=[] }
 have hal : args.length=vs.length:=hvs.len
 have hrel : Rel E G (st0 args []) a w:={
  df:=rfl
  tm:=by
   intro k g x hk
   obtain ⟨i,y,h1,h2,h3⟩:=Z2 0 args k (g,x) hk
   simp only [Prod.mk.injEq] at h3
   obtain ⟨rfl,rfl⟩:=h3
   obtain ⟨v,hv,hx⟩:=hvs.get i x h2
   have hi : i < vs.length:=(List.getElem?_eq_some_iff.1 hv).1
   refine ⟨v,?_,fun _=>hx,fun hg=>by simp at hg⟩
   show (vs.toArray++_)[k]? = _
   rw[h1,Nat.zero_add,Array.getElem?_append_left (by simpa using hi)]
   simpa using hv
  bx:=by
   intro n cs hn
   obtain ⟨i,h1,h2⟩:=N8 0 [] n cs hn
   rw[h1,Nat.zero_add]
   simp at h2
  ow:=by intro p sz hp; simp [St.own,st0,getO] at hp
  wf:=hwf
  olB:=fun b o n _ hn=>.inl ⟨n,hn⟩
  olO:=fun b o p _ hn=>⟨p,hn⟩
  nt:=by
   show (vs.toArray++Array.replicate (fn.ntmps - vs.toArray.size) undef).size=N
   simp; omega
  oA:=fun _=>rfl
  im:=fun b o h=>h
  im':=fun b o _ h=>.inl h
  fr:=Fr.refl _ _ _
  hB:=Nat.le_refl _
  lo:=fun b o _=>⟨fun n hn=>by exact absurd hn (hbox b o n),fun _ p=>hown b o p⟩
  bd:=fun t k cs hn=>by
   obtain ⟨i,h1,_⟩:=N8 0 [] _ cs hn
   simp at h1
  mp:=fun x hx=>by cases hx }
 refine calls_of_wp hf hb ?_
 have hwp:=h E G a w hrel ⟨rfl,fun _=>rfl,fun g hg=>⟨(hgl g hg).1,(hgl g hg).2.1,fun o hm=>by
  rcases hm with ⟨n,hn⟩ | ⟨p,hp⟩
  ·exact (hgl g hg).2.2.1 o n hn
  ·exact (hgl g hg).2.2.2 o p hp⟩,hx _⟩
 refine wp_mono hwp ?_
 rintro e a' w' ⟨G',s,hq,hr'⟩
 have key : (∃ b i : Nat,s.mp[i]? = some (b,true,es)∧resX Z.T s rs=some (res b)) →
   a'.defers=[] ∧ ∃ v,(results fn a'.tmps).run Z.P w' = .ok v w' ∧ ∃ u G' b,Ending.returned v = .returned u∧Fr (fun _ _=>False) w.heap.size w w' ∧
    (∀ b o,G.W b o = .imm→G'.W b o = .imm)∧(∀ b o,b < w.heap.size→G'.W b o = .imm→G.W b o = .imm)∧(∀ b o,G'.W b o ≠ .none→b < w'.heap.size)∧(∀ b o n,G'.W b o ≠ .box n)∧(∀ b o p,G'.W b o ≠ .own p)∧XRep w' G' (res b) u∧w.heap.size≤b∧MapAt w' b es:=by
  rintro ⟨b,i,hmi,hres⟩
  have hmm:=hr'.mem_map hmi
  refine ⟨hr'.df,?_⟩
  unfold resX at hres
  have hys : ∃ ys,Z1 Z.T s rs=some ys∧res b=Ao ys:=by
   split at hres
   ·rename_i ys hy; simp only [Option.some.injEq] at hres; exact ⟨ys,hy,hres.symm⟩
   ·simp at hres
  obtain ⟨ys,hys,hrb⟩:=hys
  obtain ⟨us,hrun,hall,hone⟩:=T3 hr' hys
  have hresv : ∃ v,(results fn a'.tmps).run Z.P w' = .ok v w'∧XRep w' G' (Ao ys) v:=by
   have hr0 : (results fn a'.tmps).run Z.P w' = .ok (if h : us.toArray.size=1 then us.toArray[0] else .tuple us.toArray) w':=by
    rw[Av,hrs,List.mapM_toArray]
    simp only [Sem.run_bind,Sem.run_map,hrun,Result.andThen_ok,Sem.run_pure]
   exact ⟨_,hr0,Jo hall⟩
  obtain ⟨v,hv1,hv2⟩:=hresv
  refine ⟨v,hv1,?_⟩
  have hfr : Fr (fun _ _=>False) w.heap.size w w':=hr'.fr.mono (Nat.le_refl _) fun b o _ hm=>by
   rcases hm with ⟨n,hn⟩ | ⟨p,hp⟩
   ·exact absurd hn (hbox b o n)
   ·exact absurd hp (hown b o p)
  let G2 : Gh:={ A:=G'.A,W:=fun b o=>match G'.W b o with | .imm=>.imm | _=>.none }
  have hS : ∀ b o,G'.S b o→G2.S b o:=fun b o hs=>by unfold Gh.S at *; simp [G2,hs]
  have hI : ∀ b o,G2.W b o = .imm→G'.W b o = .imm:=fun b o hi=>by
   simp only [G2] at hi
   split at hi
   ·assumption
   ·simp at hi
  rw[← hrb] at hv2
  refine ⟨v,G2,b,rfl,hfr,fun b o hi=>hS b o (hr'.im b o hi),fun b o hb hi=>?_,fun b o hn=>?_,fun b o n hn=>?_,fun b o p hn=>?_,?_,hmm.2.1 J,hmm.1⟩
  ·rcases hr'.im' b o hb (hI b o hi) with h1 | ⟨p,hp⟩
   ·exact h1
   ·exact absurd hp (hown b o p)
  ·refine hr'.wf b o ?_
   intro he; apply hn; simp [G2,he]
  ·simp only [G2] at hn
   split at hn <;> simp at hn
  ·simp only [G2] at hn
   split at hn <;> simp at hn
  ·exact hv2.mono hS (fun _ _ _=>rfl) (fun _ _=>rfl)
 cases e <;> first
  | exact key hq
  | exact hq.elim
theorem Hs {N : Nat} {ops : Array Oper} {rest : List Oper} {K : St→Prop} {st : St} {o : Oper} {d : Nat} {fo : Operand} {args : Array Operand} {ts : Array TypeId} {f : FuncId} {xs : List X} {res : Nat→X} {es : List (List UInt8 × Value)}
  (ho : o.op = .call { callee:=.value fo,args:=args,argTypes:=ts }) (hg : G8 ops st o=some true) (hd : o.dst=some d) (hN : Nat.ble (d + 1) N=true)
  (hf : lk Z.T st 0 fo=some (true, .fn f [])) (ha : M2 Z.T st ts.toList args.toList=some (true,xs))
  (hs : CtrM Z f xs res es) (hc : ∀ b,(res b).clean=true) (h : ∀ b,AL Z N ops rest K ((st.put d (true,res b)).addMap b false es)) : AL Z N ops (o :: rest) K st:=by
 intro E G a w hr hE K' hK
 have hdN : d < E.nt:=by rw[hE.nt]; exact Nat.le_of_ble_eq_true hN
 unfold wpList
 rw[J6 hr hg,if_pos J]
 refine .inl ?_
 obtain ⟨cvs,hfv,hcv⟩:=F4 hr hf rfl
 have hcv0 : cvs=[]:=by cases cvs with
  | nil=>rfl
  | cons _ _=>exact hcv.elim
 subst hcv0
 have hav:=P5 hr ha J
 obtain ⟨hen,hsp⟩:=hs
 unfold Oper.wp
 rw[U1 ho hfv hen,Oper.upon_enter,List.append_nil]
 have hmono : ∀ {x : X} {v : Value},XRep w G x v→XRep w G.pure x v:=fun hx=>hx.mono (fun b o hs=>(G.pure_imm b o).2 hs) (fun _ _ _=>rfl) (fun _ _=>rfl)
 refine (hsp w G.pure _ (hav.mono fun _ _=>hmono) ?_ ?_ ?_ ((hE.at hr).pure)).mono ?_
 ·intro b o' hb
  refine hr.wf b o' ?_
  intro e; apply hb; unfold Gh.pure; simp [e]
 ·intro b o' n hn; rcases G.pure_cases b o' with h' | h' <;> rw[h'] at hn <;> simp at hn
 ·intro b o' p hn; rcases G.pure_cases b o' with h' | h' <;> rw[h'] at hn <;> simp at hn
 ·rintro e w' ⟨v,G',b,rfl,hfr,h1,h2,h3,h5,h6,h4,h7,h8⟩
  dsimp only
  have g2 : ∀ b o',b < w.heap.size→G'.W b o' = .imm→G.W b o' = .imm:=fun b o' hb hi=>(G.pure_imm b o').1 (h2 b o' hb hi)
  let G2:=G.back G' w.heap.size .none
  have hrel : Rel E G2 st a w':=hr.grow hfr (fun b o' hb=>by simp [G2,Gh.back,hb]) (SameA.refl _ _) (fun b o' hb=>by
   dsimp only [G2,Gh.back] at hb
   split at hb
   ·rename_i hlt; exact Nat.lt_of_lt_of_le hlt hfr.size
   ·refine h3 b o' ?_
    intro e; rw[e] at hb; simp at hb)
  have hX : XRep w' G2 (res b) v:=h4.mono (fun b o'=>Gh.back_imm g2 b o') (fun _ _ _=>rfl) (fun n hn=>by rw[X.clean_has (hc b) n] at hn; simp at hn)
  have hput:=hrel.put hdN (g:=true) (fun _=>hX) (fun hf=>by simp at hf)
  rw[hd]
  have hnb : ¬ b < w.heap.size:=by omega
  exact h b E G2 _ _ (hput.addMap (b:=b) (f:=false) (es:=es) h8 (fun q=>by cases q) (fun o'=>by
   dsimp only [G2,Gh.back]
   rw[if_neg hnb]
   constructor
   ·intro n hn; split at hn <;> simp at hn
   ·intro p hn; split at hn <;> simp at hn)) hE K' hK
end Go.Abs
namespace Go.Proofs.YteidahabkfgfjaaGreat
open Go Go.Abs
abbrev xtb (R : List (List UInt8)) (u : Value) : X:=.v (.agg [.sl 1 (strR R), .o u])
theorem T5 (t : T) (w : List UInt8) (k : Int) : Ctr sys 78 [xm t,xs w,xi k] [] (xb (isT t w k)) none []:=by
 have hr:=T.rows_len t.kids
 refine D1 Tryz.func78 J J J J J J ?_;refine A8 (A6 ?_);refine C3 J (D8 J J J J) ?_;refine A5 J J J (A9 J gU) ?_;refine B0 ?_;refine A8 (A6 ?_);refine A5 J J J (B1 J gU J J) ?_;refine A5 J J J (B2 J gU J J J J) ?_;refine A5 J J J (B7 J J gU gU J) ?_;refine A5 J J J (A7 J gU) ?_;refine A5 J J J (B1 J gU J J) ?_;refine A5 J J J (B2 J (fun hh=>hh) J J J J) ?_;refine A5 J J J (A7 J gU) ?_;refine A5 J J J (G0 J J (fun hh=>hh) (fun hh=>hh) J) ?_;refine A5 J J J (E0 J J gU (fun _ hi=>gP J hi)) ?_;refine A5 J J J (A7 J gU) ?_;refine H3 (s:=⟨[(2,_,_),(3,_,_),(16,_,_)],[(.l 3,_)],[],[]⟩) (B4 (⟨U J,U J,U J,O⟩) (⟨U J,O⟩) O) ?_;refine A5 J J J (B1 J gU J J) ?_;refine A5 J J J (B2 J (fun hh=>hh) J J J J) ?_;refine A5 J J J (G7 J (fun hh=>hh) J J) ?_;refine A5 J J J (A7 J gU) ?_;refine A5 J J J (B7 J J (fun hh=>hh) (fun hh=>hh) J) ?_;refine A5 J J J (E0 J J gU (fun _ hi=>gP J hi)) ?_;refine A5 J J J (A9 J gU) ?_
 refine B0 ?_;refine C1 ?_
 repeat(first|refine tR ?_|refine bR ?_)
 refine C5 J ?_ O;refine M0 ?_
 rw[Bool.eq_iff_iff]
 simp [isT,hr,and_assoc]
theorem Dd (R : List (List UInt8)) (u : Value) (t : T) : Ctr sys 81 [xtb R u,xm t] [] (xb (Bk R t)) none []:=by
 refine D1 Tryz.func81 J J J J J J ?_;refine A8 (A6 ?_);refine C3 J (D8 J J J J) ?_;refine C3 J (D8 J J J J) ?_;refine A5 J J J (A9 J gU) ?_;refine B0 ?_;refine A8 (A6 ?_);refine A5 J J J (B1 J gU J J) ?_;refine A5 J J J (B2 J gU J J J J) ?_;refine A5 J J J (B7 J J gU gU J) ?_;refine A5 J J J (A7 J gU) ?_;refine A5 J J J (B1 J gU J J) ?_;refine A5 J J J (B2 J (fun hh=>hh) J J J J) ?_;refine A5 J J J (B1 J gU J J) ?_;refine A5 J J J (B2 J (fun hh=>hh) J J J J) ?_;refine C8 J J J J J J gU (fun hh=>gA ((fun hh=>hh) hh) (gA ((fun hh=>hh) hh) (rfl))) (O3 _ _) J ?_;refine H3 (s:=⟨[(8,_,_),(13,_,_)],[],[],[]⟩) (B4 (⟨U J,U J,O⟩) O O) ?_;refine A5 J J J (E0 J J gU (fun _ hi=>gP J hi)) ?_;refine A5 J J J (A9 J gU) ?_;refine B0 ?_;refine C1 ?_
 repeat(first|refine tR ?_|refine bR ?_)
 refine C5 J ?_ O;refine M0 ?_
 rw[Bool.eq_iff_iff]
 simp [Bk]
theorem Jp (R : List (List UInt8)) (u : Value) (t : T) : Ctr sys 80 [xtb R u,xm t] [] (xb (Aa R t)) none []:=by
 have hr:=T.rows_len t.kids
 refine D1 Tryz.func80 J J J J J J ?_;refine A8 (A6 ?_);refine C3 J (D8 J J J J) ?_;refine C3 J (D8 J J J J) ?_;refine A5 J J J (A9 J gU) ?_;refine B0 ?_;refine A8 ?_;refine awp_drawn' (by kernel_rfl) ?_;refine D7 J J J J J J J gU J J J J J ?_;refine E7 J J J J J J J gU gU (T5 _ _ _) J ?_;refine B6 J J J J (A7 J gU) ?_;refine D7 J J J J J J J gU J J J J J ?_;refine B6 J J J J (B1 J gU J J) ?_;refine G5 J J J J J J J (fun hh=>hh) J J J J ?_;refine B6 J J J J (C2 (j:=0) J J (fun hh=>hh) gU J J (by first|omega|(simp at hh ⊢; omega)|(simp [isT] at hh ⊢; omega)) (fun hh=>T.rows_at (by first|omega|(simp at hh ⊢; omega)|(simp [isT] at hh ⊢; omega)))) ?_;refine B6 J J J J (D4 J (fun hh=>hh) J J J J) ?_;refine E7 J J J J J J J gU (fun hh=>gA ((fun hh=>hh) hh) (gA ((fun hh=>hh) hh) (rfl))) (Dd _ _ _) J ?_;refine B6 J J J J (E0 J J gU (fun _ hi=>gP J hi)) ?_;refine B6 J J J J (A9 J gU) ?_;refine F9 (by kernel_rfl) ?_;refine C1 ?_
 repeat(first|refine tR ?_|refine bR ?_)
 refine C5 J ?_ O
 rfl
theorem Ls (R : List (List UInt8)) (u : Value) (t : T) : Ctr sys 79 [xtb R u,xm t] [] (xb (pubT R t)) none []:=by
 have hr:=T.rows_len t.kids
 refine D1 Tryz.func79 J J J J J J ?_;refine A8 (A6 ?_);refine C3 J (D8 J J J J) ?_;refine C3 J (D8 J J J J) ?_;refine A5 J J J (A9 J gU) ?_;refine B0 ?_;refine A8 ?_;refine awp_drawn' (by kernel_rfl) ?_;refine D7 J J J J J J J gU J J J J J ?_;refine E7 J J J J J J J gU gU (T5 _ _ _) J ?_;refine B6 J J J J (A7 J gU) ?_;refine D7 J J J J J J J gU J J J J J ?_;refine B6 J J J J (B1 J gU J J) ?_;refine G5 J J J J J J J (fun hh=>hh) J J J J ?_;refine B6 J J J J (C2 (j:=0) J J (fun hh=>hh) gU J J (by first|omega|(simp at hh ⊢; omega)|(simp [isT] at hh ⊢; omega)) (fun hh=>T.rows_at (by first|omega|(simp at hh ⊢; omega)|(simp [isT] at hh ⊢; omega)))) ?_;refine B6 J J J J (D4 J (fun hh=>hh) J J J J) ?_;refine E7 J J J J J J J gU (fun hh=>gA ((fun hh=>hh) hh) (gA ((fun hh=>hh) hh) (rfl))) (Jp _ _ _) J ?_;refine B6 J J J J (E0 J J gU (fun _ hi=>gP J hi)) ?_;refine B6 J J J J (A9 J gU) ?_;refine F9 (by kernel_rfl) ?_;refine C1 ?_
 repeat(first|refine tR ?_|refine bR ?_)
 refine C5 J ?_ O
 rfl
theorem Lo (R : List (List UInt8)) (u : Value) (a b : List UInt8) : Ctr sys 40 [xtb R u,xs a,xs b] [] (xi (twoE R a b)) none []:=by
 refine D1 Tryz.func40 J J J J J J ?_;refine A8 (A6 ?_);refine C3 J (D8 J J J J) ?_;refine A5 J J J (A9 J gU) ?_;refine B0 ?_;refine A8 ?_;refine C4 ?_;refine A8 (A6 ?_);refine A5 J J J (B1 J gU J J) ?_;refine A5 J J J (B2 J gU J J J J) ?_;refine A5 J J J (A7 J gU) ?_;refine C8 J J J J J J gU gU (O3 _ _) J ?_;refine A5 J J J (F8 J gU) ?_;refine A5 J J J (A7 J gU) ?_;refine A5 J J J (B1 J gU J J) ?_;refine A5 J J J (B2 J (fun hh=>hh) J J J J) ?_;refine A5 J J J (A7 J gU) ?_;refine C8 J J J J J J gU (fun hh=>gA ((fun hh=>hh) hh) (gA ((fun hh=>hh) hh) (rfl))) (O3 _ _) J ?_;refine H3 (s:=⟨[(1,_,_),(2,_,_),(13,_,_),(17,_,_)],[],[],[]⟩) (B4 (⟨U J,U J,U J,U J,O⟩) O O) ?_;refine A5 J J J (F8 J (fun hh=>hh)) ?_;refine A5 J J J (E5 J J gU (fun _ hi=>gP J hi)) ?_;refine A5 J J J (A9 J gU) ?_;refine B0 ?_;refine B9 J (fun hc=>?_) (fun hc=>?_)
 ·try simp only [nn,B3,nq] at hc
  refine A8 (A6 ?_);refine A5 J J J (A9 J gU) ?_;refine B0 ?_;refine C1 ?_
  repeat(first|refine tR ?_|refine bR ?_)
  refine C5 J ?_ O
  (rw[twoE,if_pos hc]; rfl)
 ·try simp only [nn,B3,nq] at hc
  have h1 : ¬(R.contains a=false∨R.contains b=false):=by simpa using hc
  refine A8 (A6 ?_);refine A5 J J J (A7 J gU) ?_;refine A5 J J J (A7 J gU) ?_;refine A5 J J J (G0 J J gU gU J) ?_;refine A5 J J J (A9 J gU) ?_;refine B0 ?_;refine B5 (s:=⟨[(20,_,_)],[],[],[]⟩) (B4 (⟨U J,O⟩) O O) ?_;refine B9 J (fun hc2=>?_) (fun hc2=>?_)
  ·try simp only [nn,B3,nq] at hc2
   refine A8 (A6 ?_);refine A5 J J J (A9 J gU) ?_;refine B0 ?_;refine C1 ?_
   repeat(first|refine tR ?_|refine bR ?_)
   refine C5 J ?_ O
   (rw[twoE,if_neg h1,if_pos hc2]; rfl)
  ·try simp only [nn,B3,nq] at hc2
   refine C0 ?_;refine A8 (A6 ?_);refine A5 J J J (A9 J gU) ?_;refine B0 ?_;refine C1 ?_
   repeat(first|refine tR ?_|refine bR ?_)
   refine C5 J ?_ O
   (rw[twoE,if_neg h1,if_neg hc2]; rfl)
theorem Bq (n : Nar) : CtrM sys 39 [xn n] (fun b=>xtb n.roles (.map (some b))) (mapL (nmsL n)):=by
 have l1:=B3 n.roles
 have l2:=Fs.rows_len n.fresh
 have l3:=B3 n.tags
 refine Np Tryz.func39 J J J J J (fun _=>rfl) ?_;refine A8 (A6 ?_);refine C3 J (D8 J J J J) ?_;refine C3 J (E1 J J J) ?_;refine B0 ?_;refine A8 (A6 ?_);refine A5 J J J (B1 J gU J J) ?_;refine A5 J J J (B2 J gU J J J J) ?_;refine Sw J J J J (fun bm12=>?_);refine A5 J J J (H6 J Tryz.underlying63 J gU) ?_;refine C3 J (E1 J J J) ?_;refine C3 J (C7 J J J J J J J) ?_;refine B0 ?_;refine B5 (s:={ t:=[(1,_,_),(2,_,_),(3,_,_)],bx:=[(.l 1,_),(.l 2,_),(.l 3,_)],ow:=[],mp:=_ }) (B4 (⟨U J,U J,U J,O⟩) (⟨U J,U J,U J,O⟩) O (.inr J)) ?_;refine A8 ?_;refine A8 (A6 ?_);refine A5 J J J (B1 J gU J J) ?_;refine A5 J J J (B2 J gU J J J J) ?_;refine D9 J J J J J gU J J ?_ (fun hh=>by simp at hh); intro hlen;refine A5 J J J (A7 J gU) ?_;refine B0 ?_;refine C4 ?_;refine Hz (ι:=Nat) { t:=[(1,_,_),(2,_,_),(3,_,_),(15,_,_),(16,_,_)],bx:=[(.l 1,_),(.l 2,_),(.l 3,_)],ow:=[] } (fun k=>[(17,true,xi (k : Int))]) (fun k=>[]) (fun k=>[(bm12,true,mapL ((n.roles.take k).map fun r=>(r,1)))]) (fun k=>k≤n.roles.length) (fun k=>n.roles.length - k) (0) (by simp) (B4 (⟨U J,U J,U J,U J,U J,U J,O⟩) (⟨U J,U J,U J,O⟩) O (.inr J)) ?_
 intro k hoka
 dsimp only [List.cons_append,List.nil_append]
 refine A8 (A6 ?_);refine A5 J J J (B7 J J gU gU J) ?_;refine B0 ?_;refine A8 ?_;refine B9 J (fun hc=>?_) (fun hc=>?_)
 ·try simp only [nn,B3,nq] at hc
  have hT : mapL ((n.roles.take (k + 1)).map fun r=>(r,1))=mput (mapL ((n.roles.take k).map fun r=>(r,1))) (n.roles.getD k []) (iv 1):=by
   rw[I0 (d:=[]) (by omega),List.map_append,List.map_cons,List.map_nil,Cb]
  refine C0 ?_;refine A8 ?_;refine C4 ?_;refine A8 (A6 ?_);refine A5 J J J (C2 J J gU gU J J J (fun hh=>L1 (by first|omega|(simp at hh ⊢; omega)|(simp [isT] at hh ⊢; omega)))) ?_;refine A5 J J J (E3 J gU J J J) ?_;refine A5 J J J (A9 J gU) ?_;refine B0 ?_;refine A6 ?_;refine A5 J J J (B1 J gU J J) ?_;refine A5 J J J (B2 J gU J J J J) ?_;refine A5 J J J (A7 J gU) ?_;refine C3 J (W5 J J J J Tryz.underlying61 Tryz.underlying9 (fun _ _ _ h=>by cases h; rfl)) ?_;refine B0 ?_;refine B5 (s:={ t:=[(1,_,_),(2,_,_),(3,_,_),(15,_,_),(16,_,_),(17,_,_)],bx:=[(.l 1,_),(.l 2,_),(.l 3,_)],ow:=[],mp:=_ }) (B4 (⟨U J,U J,U J,U J,U J,U J,O⟩) (⟨U J,U J,U J,O⟩) O (.inr J)) ?_;refine A6 ?_;refine A5 J J J (D0 J J gU gU J (IntWalk.i64_in _ (by omega))) ?_;refine A5 J J J (A7 J gU) ?_;refine B0 ?_;refine ⟨k + 1,?_,?_,B4 (⟨⟨_,rfl,?_⟩,⟨U J,U J,U J,U J,U J,O⟩⟩) (⟨U J,U J,U J,O⟩) O (.inr ?_)⟩
  all_goals (first|rfl|omega|(rw[hT]; done)|(rw[hT]; rfl))
 ·try simp only [nn,B3,nq] at hc
  have hk : k=n.roles.length:=by omega
  subst hk
  rw[List.take_length]
  refine E2 ?_
  repeat(first|refine D5 ?_|refine D6 ?_|refine D2 J ?_)
  refine A8 ?_;refine A8 (A6 ?_);refine A5 J J J (B1 J gU J J) ?_;refine A5 J J J (B2 J gU J J J J) ?_;refine D9 J J J J J gU J J ?_ (fun hh=>by simp at hh); intro hlen;refine A5 J J J (A7 J gU) ?_;refine B0 ?_;refine B5 (s:={ t:=[(1,_,_),(2,_,_),(3,_,_),(26,_,_),(27,_,_),(28,_,_)],bx:=[(.l 1,_),(.l 2,_),(.l 3,_)],ow:=[],mp:=_ }) (B4 (⟨U J,U J,U J,U J,U J,U J,O⟩) (⟨U J,U J,U J,O⟩) O (.inr J)) ?_;refine C4 ?_;refine Hz (ι:=Nat) { t:=[(1,_,_),(2,_,_),(3,_,_),(26,_,_),(27,_,_)],bx:=[(.l 1,_),(.l 2,_),(.l 3,_)],ow:=[] } (fun j=>[(28,true,xi (j : Int))]) (fun j=>[]) (fun j=>[(bm12,true,mapL (n.roles.map (fun r=>(r,1))++(n.fresh.take j).map fun f=>(f.name,f.sort)))]) (fun j=>j≤n.fresh.length) (fun j=>n.fresh.length - j) (0) (by omega) (B4 (⟨U J,U J,U J,U J,U J,U J,O⟩) (⟨U J,U J,U J,O⟩) O (.inr (by (simp <;> rfl)))) ?_
  intro j hokb
  dsimp only [List.cons_append,List.nil_append]
  refine A8 (A6 ?_);refine A5 J J J (B7 J J gU gU J) ?_;refine B0 ?_;refine A8 ?_;refine B9 J (fun hc2=>?_) (fun hc2=>?_)
  ·try simp only [nn,B3,nq] at hc2
   have hT : mapL (n.roles.map (fun r=>(r,1))++(n.fresh.take (j + 1)).map fun f=>(f.name,f.sort))=mput (mapL (n.roles.map (fun r=>(r,1))++(n.fresh.take j).map fun f=>(f.name,f.sort))) (n.fresh.getD j default).name (iv (n.fresh.getD j default).sort):=by
    rw[I0 (d:=default) (by omega),List.map_append,List.map_cons,List.map_nil,← List.append_assoc,Cb]
   refine C0 ?_;refine A8 ?_;refine C4 ?_;refine A8 (A6 ?_);refine A5 J J J (C2 J J gU gU J J J (fun hh=>Fs.rows_at (by first|omega|(simp at hh ⊢; omega)|(simp [isT] at hh ⊢; omega)))) ?_;refine A5 J J J (D4 J gU J J J J) ?_;refine C3 J (E1 J J J) ?_;refine C3 J (C7 J J J J J J J) ?_;refine B0 ?_;refine A6 ?_;refine A5 J J J (B1 J gU J J) ?_;refine A5 J J J (B2 J gU J J J J) ?_;refine A5 J J J (B1 J gU J J) ?_;refine A5 J J J (B2 J gU J J J J) ?_;refine A5 J J J (B1 J gU J J) ?_;refine A5 J J J (B2 J gU J J J J) ?_;refine C3 J (W5 J J J J Tryz.underlying61 Tryz.underlying9 (fun _ _ _ h=>by cases h; rfl)) ?_;refine B0 ?_;refine B5 (s:={ t:=[(1,_,_),(2,_,_),(3,_,_),(26,_,_),(27,_,_),(28,_,_)],bx:=[(.l 1,_),(.l 2,_),(.l 3,_)],ow:=[],mp:=_ }) (B4 (⟨U J,U J,U J,U J,U J,U J,O⟩) (⟨U J,U J,U J,O⟩) O (.inr J)) ?_;refine A6 ?_;refine A5 J J J (D0 J J gU gU J (IntWalk.i64_in _ (by omega))) ?_;refine A5 J J J (A7 J gU) ?_;refine B0 ?_;refine ⟨j + 1,?_,?_,B4 (⟨⟨_,rfl,?_⟩,⟨U J,U J,U J,U J,U J,O⟩⟩) (⟨U J,U J,U J,O⟩) O (.inr ?_)⟩
   all_goals (first|rfl|omega|(rw[hT]; done)|(rw[hT]; rfl))
  ·try simp only [nn,B3,nq] at hc2
   have hj : j=n.fresh.length:=by omega
   subst hj
   rw[List.take_length]
   refine E2 ?_
   repeat(first|refine D5 ?_|refine D6 ?_|refine D2 J ?_)
   refine A8 ?_;refine A8 (A6 ?_);refine A5 J J J (B1 J gU J J) ?_;refine A5 J J J (B2 J gU J J J J) ?_;refine D9 J J J J J gU J J ?_ (fun hh=>by simp at hh); intro hlen;refine A5 J J J (A7 J gU) ?_;refine B0 ?_;refine B5 (s:={ t:=[(2,_,_),(3,_,_),(40,_,_),(41,_,_),(42,_,_)],bx:=[(.l 2,_),(.l 3,_)],ow:=[],mp:=_ }) (B4 (⟨U J,U J,U J,U J,U J,O⟩) (⟨U J,U J,O⟩) O (.inr J)) ?_;refine C4 ?_;refine Hz (ι:=Nat) { t:=[(2,_,_),(3,_,_),(40,_,_),(41,_,_)],bx:=[(.l 2,_),(.l 3,_)],ow:=[] } (fun i=>[(42,true,xi (i : Int))]) (fun i=>[]) (fun i=>[(bm12,true,mapL (n.roles.map (fun r=>(r,1))++(n.fresh.map (fun f=>(f.name,f.sort))++(n.tags.take i).map fun g=>(g,5))))]) (fun i=>i≤n.tags.length) (fun i=>n.tags.length - i) (0) (by omega) (B4 (⟨U J,U J,U J,U J,U J,O⟩) (⟨U J,U J,O⟩) O (.inr (by (simp <;> rfl)))) ?_
   intro i hokc
   dsimp only [List.cons_append,List.nil_append]
   refine A8 (A6 ?_);refine A5 J J J (B7 J J gU gU J) ?_;refine B0 ?_;refine A8 ?_;refine B9 J (fun hc3=>?_) (fun hc3=>?_)
   ·try simp only [nn,B3,nq] at hc3
    have hT : mapL (n.roles.map (fun r=>(r,1))++(n.fresh.map (fun f=>(f.name,f.sort))++(n.tags.take (i + 1)).map fun g=>(g,5)))=mput (mapL (n.roles.map (fun r=>(r,1))++(n.fresh.map (fun f=>(f.name,f.sort))++(n.tags.take i).map fun g=>(g,5)))) (n.tags.getD i []) (iv 5):=by
     rw[I0 (d:=[]) (by omega),List.map_append,List.map_cons,List.map_nil,← List.append_assoc,← List.append_assoc,← List.append_assoc,Cb]
    refine C0 ?_;refine A8 ?_;refine C4 ?_;refine A8 (A6 ?_);refine A5 J J J (C2 J J gU gU J J J (fun hh=>L1 (by first|omega|(simp at hh ⊢; omega)|(simp [isT] at hh ⊢; omega)))) ?_;refine A5 J J J (E3 J gU J J J) ?_;refine A5 J J J (A9 J gU) ?_;refine B0 ?_;refine A6 ?_;refine A5 J J J (B1 J gU J J) ?_;refine A5 J J J (B2 J gU J J J J) ?_;refine A5 J J J (A7 J gU) ?_;refine C3 J (W5 J J J J Tryz.underlying61 Tryz.underlying9 (fun _ _ _ h=>by cases h; rfl)) ?_;refine B0 ?_;refine B5 (s:={ t:=[(2,_,_),(3,_,_),(40,_,_),(41,_,_),(42,_,_)],bx:=[(.l 2,_),(.l 3,_)],ow:=[],mp:=_ }) (B4 (⟨U J,U J,U J,U J,U J,O⟩) (⟨U J,U J,O⟩) O (.inr J)) ?_;refine A6 ?_;refine A5 J J J (D0 J J gU gU J (IntWalk.i64_in _ (by omega))) ?_;refine A5 J J J (A7 J gU) ?_;refine B0 ?_;refine ⟨i + 1,?_,?_,B4 (⟨⟨_,rfl,?_⟩,⟨U J,U J,U J,U J,O⟩⟩) (⟨U J,U J,O⟩) O (.inr ?_)⟩
    all_goals (first|rfl|omega|(rw[hT]; done)|(rw[hT]; rfl))
   ·try simp only [nn,B3,nq] at hc3
    have hi : i=n.tags.length:=by omega
    subst hi
    rw[List.take_length]
    refine E2 ?_
    repeat(first|refine D5 ?_|refine D6 ?_|refine D2 J ?_)
    refine A8 (A6 ?_);refine A5 J J J (B8 J gU J J J J J) ?_;refine C3 J (C7 J J J J J J J) ?_;refine B0 ?_;refine C1 ?_
    repeat(first|refine tR ?_|refine bR ?_)
    refine ⟨_,0,rfl,?_⟩
    rfl
theorem N7 {l : List Tk} {p : PS} {c : List UInt8} (h : symQ l p c=true) : p.at' < l.length∧p.bad=false:=by
 simp only [symQ,Bool.and_eq_true,decide_eq_true_eq,Bool.not_eq_true'] at h
 exact ⟨h.1.1.2,h.1.1.1⟩
theorem J4 (l : List Tk) (c : List UInt8) (p : PS) : p.at'≤(E9 l c p).at'∧(p.at'≤l.length→(E9 l c p).at'≤l.length):=by
 unfold E9
 split
 ·rename_i h; have := (N7 h).1; simp only [PS.go]; omega
 ·simp [PS.off]
theorem G9 (l : List Tk) (ws : List (List UInt8)) (p : PS) : p.at'≤(C9 l ws p).2.at'∧(p.at'≤l.length→(C9 l ws p).2.at'≤l.length):=by
 unfold C9
 split
 ·rename_i h
  simp only [namQ,Bool.and_eq_true,decide_eq_true_eq] at h
  have := h.1.1.2
  simp only [PS.go]; omega
 ·simp [PS.off]
theorem Dl {α : Type} {l : List Tk} {f : PS→α × PS} {p : PS} {out : List α} (h : symQ l p [44]=false) : ∀ n,L7 l f n p out=(out,p)
 | 0=>rfl
 | n + 1=>by rw[L7,h]; rfl
theorem Qu {α : Type} {l : List Tk} {f : PS→α × PS} {p : PS} {out : List α} {n : Nat} (h : symQ l p [44]=true) : L7 l f (n + 1) p out=L7 l f n (f p.go).2 (out++[(f p.go).1]):=by rw[L7,if_pos h]
theorem Ns {α : Type} {l : List Tk} {f : PS→α × PS} (hf : ∀ p,p.at'≤(f p).2.at'∧(p.at'≤l.length→(f p).2.at'≤l.length)) : ∀ (n : Nat) (p : PS) (out : List α),p.at'≤(L7 l f n p out).2.at'∧(p.at'≤l.length→(L7 l f n p out).2.at'≤l.length)
 | 0,p,out=>by simp [L7]
 | n + 1,p,out=>by
  rw[L7]
  split
  ·rename_i h
   have h1:=(N7 h).1
   have h2:=hf p.go
   have h3:=Ns hf n (f p.go).2 (out++[(f p.go).1])
   have hg : p.go.at'=p.at' + 1:=rfl
   omega
  ·simp
theorem R5 {α : Type} {l : List Tk} {f : PS→α × PS} (hf : ∀ p,p.at'≤(f p).2.at'∧(p.at'≤l.length→(f p).2.at'≤l.length)) (p : PS) : p.at'≤(H1 l f p).2.at'∧(p.at'≤l.length→(H1 l f p).2.at'≤l.length):=by
 have h1:=hf p
 have h2:=Ns hf (l.length + 1) (f p).2 [(f p).1]
 unfold H1; omega
theorem Ba (l : List Tk) : ∀ (n : Nat) (p : PS),p.at'≤(J2 l n p).2.at'∧(p.at'≤l.length→(J2 l n p).2.at'≤l.length)
 | 0,p=>by simp [J2]
 | n + 1,p=>by
  have ih:=Ba l n
  have hg : ∀ q : PS,q.go.at'=q.at' + 1:=fun _=>rfl
  rw[J2]
  split
  ·rename_i h
   have h1:=(N7 h).1
   have h2:=ih p.go
   have h3:=J4 l [44] (J2 l n p.go).2
   have h4:=R5 ih (E9 l [44] (J2 l n p.go).2)
   have h5:=J4 l [62] (H1 l (J2 l n) (E9 l [44] (J2 l n p.go).2)).2
   have := hg p
   dsimp only; omega
  ·have h1:=G9 l [] p
   split
   ·rename_i h
    have h2:=(N7 h).1
    split
    ·rename_i h3
     have h4:=(N7 h3).1
     have := hg (C9 l [] p).2
     have := hg (C9 l [] p).2.go
     dsimp only; omega
    ·have h3:=R5 ih (C9 l [] p).2.go
     have h4:=J4 l [41] (H1 l (J2 l n) (C9 l [] p).2.go).2
     have := hg (C9 l [] p).2
     dsimp only; omega
   ·exact h1
noncomputable def sysO : Pg:={ P:=Tryz.prog,T:=tab,ok:=uAf,mix:=uAg,gv:=[],old:=true }
theorem up {f : FuncId} {args : List X} {bs bs' : List (List C)} {res : X} {ro : Option Nat} (h : Ctr sys f args bs res ro bs') : Ctr sysO f args bs res ro bs':=h.wk J fun _ hg=>hg
theorem N1 {l : List Tk} {c : List UInt8} {p : PS} (h : p.at'≤l.length) : (E9 l c p).at'≤l.length:=(J4 l c p).2 h
theorem K5 {l : List Tk} {ws : List (List UInt8)} {p : PS} (h : p.at'≤l.length) : (C9 l ws p).2.at'≤l.length:=(G9 l ws p).2 h
theorem le3 {l : List Tk} {x : Nat} (hl : l.length≤2000000) (h : x≤l.length) : x≤3000000:=by omega
end Go.Proofs.YteidahabkfgfjaaGreat
namespace Go.Proofs.YteidahabkfgfjaaGreat
open Go Go.Abs Go.Proofs Go.Shelf
theorem Jt (l : List UInt8) (c : UInt8) : decide (0≤Lib.indexByte l c)=l.contains c:=by
 induction l with
 | nil=>rfl
 | cons b l ih =>
  have hge:=Lib.indexByte_ge l c
  rw[Bool.eq_iff_iff] at ih ⊢
  simp only [decide_eq_true_eq,List.contains_iff_mem,List.mem_cons] at ih ⊢
  by_cases h : b=c
  ·subst h; simp [Lib.indexByte]
  ·have h2 : ¬ c=b:=fun q=>h q.symm
   simp only [Lib.indexByte,beq_iff_eq,h,h2,if_false,false_or]
   rw[← ih]
   split <;> omega
theorem Wk (s : List UInt8) : Ctr sys 76 [xs s,xs [35]] [] (xb (s.contains 35)) none []:=by
 rw[← Jt]
 refine Ni [.string ⟨s.toArray⟩, .string ⟨#[35]⟩] ⟨_,Tryz.func76,by kernel_rfl,by kernel_rfl⟩ (fun w G vs h=>?_) (fun w=>Any.strings_Contains_one uBd ⟨s.toArray⟩ 35 w) (fun w G=>CRep.b _)
 match vs,h with
 | [u,v],⟨h1,h2,_⟩=>rw[XRep.str h1,XRep.str h2]
theorem ps1 {st : St} {a : Pass} (ha : st.box a.n=some a.cs) : ∀ p ∈ [a],st.box p.n=some p.cs:=by
 intro p hp
 rw[List.mem_singleton.1 hp]; exact ha
def nxE (seen : List (List UInt8)) (s : List UInt8) (fr : Bool) : Int:=if s.contains 35=true then 2 else if fr=true∧(s=[101]∨s=[103]) then 1 else if seen.contains s=true then 5 else 0
def nxS (seen : List (List UInt8)) (s : List UInt8) (fr : Bool) : List (List UInt8):=if nxE seen s fr=0 then seen++[s] else seen
theorem Tt (R seen : List (List UInt8)) (x : List UInt8 × Option (List UInt8)) : dclE R seen x=if nxE seen x.1 x.2.isSome≠0 then nxE seen x.1 x.2.isSome else match x.2 with
  | some r=>if R.contains r=true then 0 else 13
  | none=>0:=by
 unfold dclE nxE
 by_cases h1 : x.1.contains 35=true
 ·rw[if_pos h1,if_pos h1,if_pos (by simp)]
 ·rw[if_neg h1,if_neg h1]
  by_cases h2 : x.2.isSome=true∧(x.1=[101]∨x.1=[103])
  ·rw[if_pos h2,if_pos h2,if_pos (by simp)]
  ·rw[if_neg h2,if_neg h2]
   by_cases h3 : seen.contains x.1=true
   ·rw[if_pos h3,if_pos h3,if_pos (by simp)]
   ·rw[if_neg h3,if_neg h3,if_neg (by simp)]
    obtain ⟨a,o⟩:=x
    cases o <;> rfl
theorem Kd (R seen : List (List UInt8)) (s : List UInt8) : dclE R seen (s,none)=nxE seen s false:=by
 rw[Tt]
 split
 ·rfl
 ·rename_i h; exact (Decidable.not_not.1 h).symm
theorem Xa (R seen : List (List UInt8)) (s r : List UInt8) : dclE R seen (s,some r)=if nxE seen s true≠0 then nxE seen s true else if R.contains r=true then 0 else 13:=Tt R seen (s,some r)
theorem Fh (seen : List (List UInt8)) (s : List UInt8) (fr : Bool) (hs : seen.length≤900000) : CtrO sysO 75 [xs s,xb fr, .v (.ptr (.o 0) 0)] [[.sl 1 (strR seen)]] [(0,0,1)] (xi (nxE seen s fr)) [[.sl 1 (strR (nxS seen s fr))]] .box:=by
 have hr:=B3 seen
 refine K8 Tryz.func75 J J J J J J J ?_;refine A8 (A6 ?_);refine A5 J J J (A9 J gU) ?_;refine B0 ?_;refine A8 ?_;refine C4 ?_;refine A8 (A6 ?_);refine A5 J J J (A7 J gU) ?_;refine C8 J J J J J J gU gU (up (Wk _)) J ?_;refine A5 J J J (A9 J gU) ?_;refine B0 ?_;refine B9 J (fun hc=>?_) (fun hc=>?_)
 ·try simp only [nn,B3,nq] at hc
  have h1 : nxE seen s fr=2:=by rw[nxE,if_pos hc]
  have h2 : nxS seen s fr=seen:=by rw[nxS,if_neg (by rw[h1]; simp)]
  rw[h1,h2]
  refine A8 (A6 ?_);refine A5 J J J (A9 J gU) ?_;refine B0 ?_;refine C1 ?_
  repeat(first|refine tR ?_|refine bR ?_)
  refine S7 J ?_ (⟨⟨_,rfl,?_⟩,O⟩) (by kernel_rfl)
  all_goals rfl
 ·try simp only [nn,B3,nq] at hc
  have n1 : ¬ s.contains 35=true:=by simpa using hc
  refine A8 (A6 ?_);refine A5 J J J (A7 J gU) ?_;refine A5 J J J (A7 J gU) ?_;refine A5 J J J (A7 J gU) ?_;refine A5 J J J (G0 J J (fun hh=>hh) gU J) ?_;refine A5 J J J (A7 J (fun hh=>hh)) ?_;refine A5 J J J (A7 J gU) ?_;refine A5 J J J (G0 J J (fun hh=>hh) gU J) ?_;refine A5 J J J (E5 J J (fun hh=>hh) (fun hh hi=>gP hh hi)) ?_;refine H3 (s:=⟨[(0,_,_),(2,_,_),(11,_,_),(17,_,_)],[(.o 0,_)],[(.b (.o 0) 0,_)],[]⟩) (B4 (⟨U J,U J,U J,U J,O⟩) (⟨U J,O⟩) (⟨rfl,O⟩)) ?_;refine A5 J J J (E0 J J gU (fun _ hi=>gP J hi)) ?_;refine A5 J J J (A9 J gU) ?_;refine B0 ?_;refine B9 J (fun hc2=>?_) (fun hc2=>?_)
  ·try simp only [nn,B3,nq] at hc2
   have h1 : nxE seen s fr=1:=by rw[nxE,if_neg n1,if_pos hc2]
   have h2 : nxS seen s fr=seen:=by rw[nxS,if_neg (by rw[h1]; simp)]
   rw[h1,h2]
   refine A8 (A6 ?_);refine A5 J J J (A9 J gU) ?_;refine B0 ?_;refine C1 ?_
   repeat(first|refine tR ?_|refine bR ?_)
   refine S7 J ?_ (⟨⟨_,rfl,?_⟩,O⟩) (by kernel_rfl)
   all_goals rfl
  ·try simp only [nn,B3,nq] at hc2
   have n2 : ¬ (fr=true∧(s=[101]∨s=[103])):=by
    rintro ⟨q1,q2⟩
    rcases hc2 with z | z
    ·rw[q1] at z; cases z
    ·rcases q2 with q | q
     ·exact z.1 q
     ·exact z.2 q
   refine A8 (A6 ?_);refine A5 J J J (B2 J gU J J J J) ?_;refine A5 J J J (A7 J gU) ?_;refine C8 J J J J J J gU gU (up (O3 _ _)) J ?_;refine A5 J J J (A9 J gU) ?_;refine B0 ?_;refine B5 (s:=⟨[(0,_,_),(2,_,_),(19,_,_)],[(.o 0,_)],[(.b (.o 0) 0,_)],[]⟩) (B4 (⟨U J,U J,U J,O⟩) (⟨U J,O⟩) (⟨rfl,O⟩)) ?_;refine B9 J (fun hc3=>?_) (fun hc3=>?_)
   ·try simp only [nn,B3,nq] at hc3
    have h1 : nxE seen s fr=5:=by rw[nxE,if_neg n1,if_neg n2,if_pos hc3]
    have h2 : nxS seen s fr=seen:=by rw[nxS,if_neg (by rw[h1]; simp)]
    rw[h1,h2]
    refine A8 (A6 ?_);refine A5 J J J (A9 J gU) ?_;refine B0 ?_;refine C1 ?_
    repeat(first|refine tR ?_|refine bR ?_)
    refine S7 J ?_ (⟨⟨_,rfl,?_⟩,O⟩) (by kernel_rfl)
    all_goals rfl
   ·try simp only [nn,B3,nq] at hc3
    have h1 : nxE seen s fr=0:=by rw[nxE,if_neg n1,if_neg n2,if_neg (by rw[hc3]; simp)]
    have h2 : nxS seen s fr=seen++[s]:=by rw[nxS,if_pos h1]
    rw[h1,h2]
    refine C0 ?_;refine A8 (A6 ?_);refine C3 J (I5 J J J J J J J) ?_;refine A5 J J J (A7 J gU) ?_;refine E8 (xs:=[_]) J J J J J J J J J gU J ?_;refine C3 J (F7 J J J J J J J (by first|omega|(simp only [List.length_append,List.length_singleton,B3]; omega)) (by first|omega|(simp only [List.length_append,List.length_singleton,B3]; omega))) ?_;refine C3 J (H8 J J J J J J J) ?_;refine B0 ?_;refine A8 (A6 ?_);refine A5 J J J (A9 J gU) ?_;refine B0 ?_;refine C1 ?_
    repeat(first|refine tR ?_|refine bR ?_)
    refine S7 J ?_ (⟨⟨_,rfl,?_⟩,O⟩) (by kernel_rfl)
    all_goals first|rfl|(rw[Bi]; rfl)
theorem Gv {R seen : List (List UInt8)} {D : List (List UInt8 × Option (List UInt8))} {j : Nat} {x : List UInt8 × Option (List UInt8)} (hx : D[j]? = some x) (h : dclE R seen x=0) : decA R seen (D.drop j)=decA R (seen++[x.1]) (D.drop (j + 1)):=by
 obtain ⟨hj,he⟩:=List.getElem?_eq_some_iff.1 hx
 rw[List.drop_eq_getElem_cons hj,decA,he,if_neg (by simp [h])]
theorem U3 {R seen : List (List UInt8)} {D : List (List UInt8 × Option (List UInt8))} {j : Nat} {x : List UInt8 × Option (List UInt8)} (hx : D[j]? = some x) (h : dclE R seen x≠0) : decA R seen (D.drop j)=dclE R seen x:=by
 obtain ⟨hj,he⟩:=List.getElem?_eq_some_iff.1 hx
 rw[List.drop_eq_getElem_cons hj,decA,he,if_pos h]
theorem Qt {n : Nar} {k : Nat} (h : k < n.roles.length) : (dclL n)[k]? = some (n.roles.getD k [],none):=by
 rw[dclL,List.getElem?_append_left (by simpa using h),List.getElem?_map,List.getD_eq_getElem?_getD,List.getElem?_eq_getElem h]; rfl
theorem Kz {n : Nar} {k : Nat} (h : k < n.fresh.length) : (dclL n)[n.roles.length + k]? = some ((n.fresh.getD k default).name,some (n.fresh.getD k default).role):=by
 rw[dclL,List.getElem?_append_right (by simp),List.getElem?_append_left (by simp; omega),List.getElem?_map,List.getD_eq_getElem?_getD,List.length_map,Nat.add_sub_cancel_left,List.getElem?_eq_getElem h]; rfl
theorem Va {n : Nar} {k : Nat} (h : k < n.tags.length) : (dclL n)[n.roles.length + (n.fresh.length + k)]? = some (n.tags.getD k [],none):=by
 rw[dclL,List.getElem?_append_right (by simp),List.getElem?_append_right (by simp),List.getElem?_map,List.getD_eq_getElem?_getD,List.length_map,Nat.add_sub_cancel_left,List.length_map,Nat.add_sub_cancel_left,List.getElem?_eq_getElem h]; rfl
theorem uA4 (n : Nar) : (dclL n).length=n.roles.length + (n.fresh.length + n.tags.length):=by simp [dclL]
theorem Ms {seen : List (List UInt8)} {s : List UInt8} {fr : Bool} (h : nxE seen s fr=0) : nxS seen s fr=seen++[s]:=by rw[nxS,if_pos h]
set_option maxHeartbeats 4000000 in
theorem Ir (n : Nar) (h1 : n.roles.length≤100000) (h2 : n.fresh.length≤100000) (h3 : n.tags.length≤100000) : Ctr sysO 38 [xn n] [] (xi (decE n)) none []:=by
 have l1:=B3 n.roles
 have l2:=Fs.rows_len n.fresh
 have l3:=B3 n.tags
 refine D1 Tryz.func38 J J J J J J ?_;refine A8 (A6 ?_);refine C3 J (D8 J J J J) ?_;refine A5 J J J (A9 J gU) ?_;refine B0 ?_;refine A8 (A6 ?_);refine C3 J (Fp J J J J) ?_;refine B0 ?_;refine A8 (A6 ?_);refine A5 J J J (Y6 (ys:=[.ptr (.l 3) 0]) J) ?_;refine A5 J J J (A9 J gU) ?_;refine B0 ?_;refine B5 (s:=⟨[(1,_,_),(4,_,_)],[(.l 1,_),(.l 3,_)],[],[]⟩) (B4 (⟨U J,U J,O⟩) (⟨U J,U J,O⟩) O) ?_;refine A8 ?_;refine A8 (A6 ?_);refine A5 J J J (B1 J gU J J) ?_;refine A5 J J J (B2 J gU J J J J) ?_;refine D9 J J J J J gU J J ?_ (fun hh=>by simp at hh); intro hlen;refine A5 J J J (A7 J gU) ?_;refine B0 ?_;refine C4 ?_;refine Cf (.l 3) 0 1 J J J ?_;refine F3 (ι:=Nat) { t:=[(1,_,_),(4,_,_),(16,_,_),(17,_,_)],bx:=[(.l 1,_)],ow:=[(.b (.l 3) 0,_)] } (fun k=>[(18,true,xi (k : Int))]) (fun k=>[((.l 3),[.sl 1 (strR (n.roles.take k))])]) (fun k=>k≤n.roles.length∧decA n.roles (n.roles.take k) ((dclL n).drop k)=decE n) (fun k=>n.roles.length - k) (0) (⟨by omega,by simp [decE]⟩) (B4 (⟨U J,U J,U J,U J,U J,O⟩) (⟨U J,U J,O⟩) (⟨rfl,O⟩)) ?_
 intro k hoka
 dsimp only [List.cons_append,List.nil_append]
 obtain ⟨hk,hi⟩:=hoka
 have lt:=List.length_take_le k n.roles
 refine A8 (A6 ?_);refine A5 J J J (B7 J J gU gU J) ?_;refine B0 ?_;refine A8 ?_;refine B9 J (fun hc=>?_) (fun hc=>?_)
 ·try simp only [nn,B3,nq] at hc
  have hlt : k < n.roles.length:=by omega
  have hx:=Qt hlt
  have hd:=Kd n.roles (n.roles.take k) (n.roles.getD k [])
  have hT:=I0 (l:=n.roles) (d:=[]) hlt
  refine C0 ?_;refine A8 ?_;refine C4 ?_;refine A8 (A6 ?_);refine A5 J J J (C2 J J gU gU J J J (fun hh=>L1 (by first|omega|(simp at hh ⊢; omega)))) ?_;refine A5 J J J (E3 J gU J J J) ?_;refine A5 J J J (A9 J gU) ?_;refine B0 ?_;refine A8 (A6 ?_);refine A5 J J J (A7 J gU) ?_;refine A5 J J J (A7 J gU) ?_;refine Bh [⟨.l 3,0,[.sl 1 (strR (n.roles.take k))],[.sl 1 (strR (nxS (n.roles.take k) (n.roles.getD k []) false))]⟩] [(0,0,1)] J J J J J J (ps1 J) J J (Fh _ _ _ (by omega)) J J J ?_;refine A5 J J J (A9 J gU) ?_;refine B0 ?_;refine B5 (s:=⟨[(1,_,_),(4,_,_),(7,_,_),(16,_,_),(17,_,_),(18,_,_)],[(.l 1,_),(.l 3,_)],[(.b (.l 3) 0,_)],[]⟩) (B4 (⟨U J,U J,U J,U J,U J,U J,O⟩) (⟨U J,U J,O⟩) (⟨rfl,O⟩)) ?_;refine A8 (A6 ?_);refine A5 J J J (A7 J gU) ?_;refine A5 J J J (B7 J J gU gU J) ?_;refine B0 ?_;refine B9 J (fun hc2=>?_) (fun hc2=>?_)
  ·try simp only [nn,B3,nq] at hc2
   have he:=U3 hx (by rw[hd]; exact hc2)
   rw[hi,hd] at he
   refine A8 (A6 ?_);refine A5 J J J (A7 J gU) ?_;refine A5 J J J (A9 J gU) ?_;refine B0 ?_;refine C1 ?_
   repeat(first|refine tR ?_|refine bR ?_)
   refine C5 J ?_ O
   (rw[he]; rfl)
  ·try simp only [nn,B3,nq] at hc2
   have he:=Gv hx (hd.trans hc2)
   rw[hi] at he
   have hS:=Ms hc2
   refine C0 ?_;refine A6 ?_;refine A5 J J J (D0 J J gU gU J (IntWalk.i64_in _ (by omega))) ?_;refine A5 J J J (A7 J gU) ?_;refine B0 ?_;refine ⟨k + 1,?_,?_,B4 (⟨⟨_,rfl,?_⟩,⟨U J,U J,U J,U J,O⟩⟩) (⟨⟨_,rfl,?_⟩,⟨U J,O⟩⟩) (⟨rfl,O⟩)⟩
   all_goals (first|rfl|omega|(rw[hS,hT]; rfl)|(rw[hT]; exact ⟨by omega,he.symm⟩))
 ·try simp only [nn,B3,nq] at hc
  have hke : k=n.roles.length:=by omega
  subst hke
  rw[List.take_length] at hi lt ⊢
  refine E2 ?_
  repeat(first|refine D5 ?_|refine D6 ?_|refine D2 J ?_)
  refine A8 ?_;refine A8 (A6 ?_);refine A5 J J J (B1 J gU J J) ?_;refine A5 J J J (B2 J gU J J J J) ?_;refine D9 J J J J J gU J J ?_ (fun hh=>by simp at hh); intro hlen;refine A5 J J J (A7 J gU) ?_;refine B0 ?_;refine B5 (s:=⟨[(1,_,_),(4,_,_),(30,_,_),(31,_,_),(32,_,_)],[(.l 1,_),(.l 3,_)],[(.b (.l 3) 0,_)],[]⟩) (B4 (⟨U J,U J,U J,U J,U J,O⟩) (⟨U J,U J,O⟩) (⟨rfl,O⟩)) ?_;refine C4 ?_;refine F3 (ι:=Nat) { t:=[(1,_,_),(4,_,_),(30,_,_),(31,_,_)],bx:=[(.l 1,_)],ow:=[(.b (.l 3) 0,_)] } (fun j=>[(32,true,xi (j : Int))]) (fun j=>[((.l 3),[.sl 1 (strR (n.roles++(n.fresh.take j).map Fs.name))])]) (fun j=>j≤n.fresh.length∧decA n.roles (n.roles++(n.fresh.take j).map Fs.name) ((dclL n).drop (n.roles.length + j))=decE n) (fun j=>n.fresh.length - j) (0) (⟨by omega,by simpa using hi⟩) (B4 (⟨U J,U J,U J,U J,U J,O⟩) (⟨⟨_,rfl,by simp⟩,⟨U J,O⟩⟩) (⟨rfl,O⟩)) ?_
  intro j hokb
  dsimp only [List.cons_append,List.nil_append]
  obtain ⟨hj,hi2⟩:=hokb
  have lt2:=List.length_take_le j n.fresh
  refine A8 (A6 ?_);refine A5 J J J (B7 J J gU gU J) ?_;refine B0 ?_;refine A8 ?_;refine B9 J (fun hc3=>?_) (fun hc3=>?_)
  ·try simp only [nn,B3,nq] at hc3
   have hlt : j < n.fresh.length:=by omega
   have hx:=Kz hlt
   have hd:=Xa n.roles (n.roles++(n.fresh.take j).map Fs.name) (n.fresh.getD j default).name (n.fresh.getD j default).role
   have hT:=I0 (l:=n.fresh) (d:=default) hlt
   refine C0 ?_;refine A8 ?_;refine C4 ?_;refine A8 (A6 ?_);refine A5 J J J (C2 J J gU gU J J J (fun hh=>Fs.rows_at (by first|omega|(simp at hh ⊢; omega)))) ?_;refine A5 J J J (D4 J gU J J J J) ?_;refine C3 J (E1 J J J) ?_;refine C3 J (C7 J J J J J J J) ?_;refine B0 ?_;refine A8 ?_;refine A8 (A6 ?_);refine A5 J J J (A7 J gU) ?_;refine A5 J J J (B1 J gU J J) ?_;refine A5 J J J (B2 J gU J J J J) ?_;refine Bh [⟨.l 3,0,[.sl 1 (strR (n.roles++(n.fresh.take j).map Fs.name))],[.sl 1 (strR (nxS (n.roles++(n.fresh.take j).map Fs.name) (n.fresh.getD j default).name true))]⟩] [(0,0,1)] J J J J J J (ps1 J) J J (Fh _ _ _ (by simp only [List.length_append,List.length_map]; omega)) J J J ?_;refine A5 J J J (A9 J gU) ?_;refine B0 ?_;refine B5 (s:=⟨[(1,_,_),(4,_,_),(9,_,_),(10,_,_),(30,_,_),(31,_,_),(32,_,_)],[(.l 1,_),(.l 3,_),(.l 9,_)],[(.b (.l 3) 0,_)],[]⟩) (B4 (⟨U J,U J,U J,U J,U J,U J,U J,O⟩) (⟨U J,U J,U J,O⟩) (⟨rfl,O⟩)) ?_;refine A8 (A6 ?_);refine A5 J J J (A7 J gU) ?_;refine A5 J J J (B7 J J gU gU J) ?_
   refine B0 ?_;refine B9 J (fun hc4=>?_) (fun hc4=>?_)
   ·try simp only [nn,B3,nq] at hc4
    rw[if_pos hc4] at hd
    have he:=U3 hx (by rw[hd]; exact hc4)
    rw[hi2,hd] at he
    refine A8 (A6 ?_);refine A5 J J J (A7 J gU) ?_;refine A5 J J J (A9 J gU) ?_;refine B0 ?_;refine C1 ?_
    repeat(first|refine tR ?_|refine bR ?_)
    refine C5 J ?_ O
    (rw[he]; rfl)
   ·try simp only [nn,B3,nq] at hc4
    rw[if_neg (by simpa using hc4)] at hd
    have hS:=Ms hc4
    refine C0 ?_;refine A8 (A6 ?_);refine A5 J J J (B1 J gU J J) ?_;refine A5 J J J (B2 J gU J J J J) ?_;refine A5 J J J (B1 J gU J J) ?_;refine A5 J J J (B2 J gU J J J J) ?_;refine C8 J J J J J J gU gU (up (O3 _ _)) J ?_;refine A5 J J J (F8 J gU) ?_;refine B0 ?_;refine B5 (s:=⟨[(1,_,_),(4,_,_),(30,_,_),(31,_,_),(32,_,_),(48,_,_)],[(.l 1,_),(.l 3,_)],[(.b (.l 3) 0,_)],[]⟩) (B4 (⟨U J,U J,U J,U J,U J,U J,O⟩) (⟨U J,U J,O⟩) (⟨rfl,O⟩)) ?_;refine B9 J (fun hc5=>?_) (fun hc5=>?_)
    ·try simp only [nn,B3,nq] at hc5
     have hd : dclE n.roles (n.roles++(n.fresh.take j).map Fs.name) ((n.fresh.getD j default).name,some (n.fresh.getD j default).role)=13:=by rw[hd]; exact if_neg (by rw[hc5]; simp)
     have he:=U3 hx (by rw[hd]; simp)
     rw[hi2,hd] at he
     refine A8 (A6 ?_);refine A5 J J J (A9 J gU) ?_;refine B0 ?_;refine C1 ?_
     repeat(first|refine tR ?_|refine bR ?_)
     refine C5 J ?_ O
     (rw[he]; rfl)
    ·try simp only [nn,B3,nq] at hc5
     have hd : dclE n.roles (n.roles++(n.fresh.take j).map Fs.name) ((n.fresh.getD j default).name,some (n.fresh.getD j default).role)=0:=by rw[hd]; exact if_pos hc5
     have he:=Gv hx hd
     rw[hi2] at he
     refine C0 ?_;refine A6 ?_;refine A5 J J J (D0 J J gU gU J (IntWalk.i64_in _ (by omega))) ?_;refine A5 J J J (A7 J gU) ?_;refine B0 ?_;refine ⟨j + 1,?_,?_,B4 (⟨⟨_,rfl,?_⟩,⟨U J,U J,U J,U J,O⟩⟩) (⟨⟨_,rfl,?_⟩,⟨U J,O⟩⟩) (⟨rfl,O⟩)⟩
     all_goals (first|rfl|omega|(rw[hS,hT]; simp <;> rfl)|(rw[hT]; exact ⟨by omega,by rw[he]; simp [Nat.add_assoc]⟩))
  ·try simp only [nn,B3,nq] at hc3
   have hje : j=n.fresh.length:=by omega
   subst hje
   rw[List.take_length] at hi2 lt2 ⊢
   refine E2 ?_
   repeat(first|refine D5 ?_|refine D6 ?_|refine D2 J ?_)
   refine A8 ?_;refine A8 (A6 ?_);refine A5 J J J (B1 J gU J J) ?_;refine A5 J J J (B2 J gU J J J J) ?_;refine D9 J J J J J gU J J ?_ (fun hh=>by simp at hh); intro hlen;refine A5 J J J (A7 J gU) ?_;refine B0 ?_;refine B5 (s:=⟨[(4,_,_),(51,_,_),(52,_,_),(53,_,_)],[(.l 3,_)],[(.b (.l 3) 0,_)],[]⟩) (B4 (⟨U J,U J,U J,U J,O⟩) (⟨U J,O⟩) (⟨rfl,O⟩)) ?_;refine C4 ?_;refine F3 (ι:=Nat) { t:=[(4,_,_),(51,_,_),(52,_,_)],bx:=[],ow:=[(.b (.l 3) 0,_)] } (fun i=>[(53,true,xi (i : Int))]) (fun i=>[((.l 3),[.sl 1 (strR (n.roles++(n.fresh.map Fs.name++n.tags.take i)))])]) (fun i=>i≤n.tags.length∧decA n.roles (n.roles++(n.fresh.map Fs.name++n.tags.take i)) ((dclL n).drop (n.roles.length + (n.fresh.length + i)))=decE n) (fun i=>n.tags.length - i) (0) (⟨by omega,by simpa using hi2⟩) (B4 (⟨U J,U J,U J,U J,O⟩) (⟨⟨_,rfl,by simp⟩,O⟩) (⟨rfl,O⟩)) ?_
   intro i hokc
   dsimp only [List.cons_append,List.nil_append]
   obtain ⟨hii,hi3⟩:=hokc
   have lt3:=List.length_take_le i n.tags
   refine A8 (A6 ?_);refine A5 J J J (B7 J J gU gU J) ?_;refine B0 ?_;refine A8 ?_;refine B9 J (fun hc6=>?_) (fun hc6=>?_)
   ·try simp only [nn,B3,nq] at hc6
    have hlt : i < n.tags.length:=by omega
    have hx:=Va hlt
    have hd:=Kd n.roles (n.roles++(n.fresh.map Fs.name++n.tags.take i)) (n.tags.getD i [])
    have hT:=I0 (l:=n.tags) (d:=[]) hlt
    refine C0 ?_;refine A8 ?_;refine C4 ?_;refine A8 (A6 ?_);refine A5 J J J (C2 J J gU gU J J J (fun hh=>L1 (by first|omega|(simp at hh ⊢; omega)))) ?_;refine A5 J J J (E3 J gU J J J) ?_;refine A5 J J J (A9 J gU) ?_;refine B0 ?_;refine A8 (A6 ?_);refine A5 J J J (A7 J gU) ?_;refine A5 J J J (A7 J gU) ?_;refine Bh [⟨.l 3,0,[.sl 1 (strR (n.roles++(n.fresh.map Fs.name++n.tags.take i)))],[.sl 1 (strR (nxS (n.roles++(n.fresh.map Fs.name++n.tags.take i)) (n.tags.getD i []) false))]⟩] [(0,0,1)] J J J J J J (ps1 J) J J (Fh _ _ _ (by simp only [List.length_append,List.length_map]; omega)) J J J ?_;refine A5 J J J (A9 J gU) ?_;refine B0 ?_;refine B5 (s:=⟨[(4,_,_),(13,_,_),(51,_,_),(52,_,_),(53,_,_)],[(.l 3,_)],[(.b (.l 3) 0,_)],[]⟩) (B4 (⟨U J,U J,U J,U J,U J,O⟩) (⟨U J,O⟩) (⟨rfl,O⟩)) ?_;refine A8 (A6 ?_);refine A5 J J J (A7 J gU) ?_;refine A5 J J J (B7 J J gU gU J) ?_;refine B0 ?_;refine B9 J (fun hc7=>?_) (fun hc7=>?_)
    ·try simp only [nn,B3,nq] at hc7
     have he:=U3 hx (by rw[hd]; exact hc7)
     rw[hi3,hd] at he
     refine A8 (A6 ?_);refine A5 J J J (A7 J gU) ?_;refine A5 J J J (A9 J gU) ?_;refine B0 ?_;refine C1 ?_
     repeat(first|refine tR ?_|refine bR ?_)
     refine C5 J ?_ O
     (rw[he]; rfl)
    ·try simp only [nn,B3,nq] at hc7
     have he:=Gv hx (hd.trans hc7)
     rw[hi3] at he
     have hS:=Ms hc7
     refine C0 ?_;refine A6 ?_;refine A5 J J J (D0 J J gU gU J (IntWalk.i64_in _ (by omega))) ?_;refine A5 J J J (A7 J gU) ?_;refine B0 ?_;refine ⟨i + 1,?_,?_,B4 (⟨⟨_,rfl,?_⟩,⟨U J,U J,U J,O⟩⟩) (⟨⟨_,rfl,?_⟩,O⟩) (⟨rfl,O⟩)⟩
     all_goals (first|rfl|omega|(rw[hS,hT]; simp <;> rfl)|(rw[hT]; exact ⟨by omega,by rw[he]; simp [Nat.add_assoc]⟩))
   ·try simp only [nn,B3,nq] at hc6
    have hie : i=n.tags.length:=by omega
    subst hie
    rw[List.drop_of_length_le (by rw[uA4]; omega)] at hi3
    refine E2 ?_
    repeat(first|refine D5 ?_|refine D6 ?_|refine D2 J ?_)
    refine A8 (A6 ?_);refine A5 J J J (A9 J gU) ?_;refine B0 ?_;refine C1 ?_
    repeat(first|refine tR ?_|refine bR ?_)
    refine C5 J ?_ O
    (rw[← hi3]; rfl)
theorem Jw (n : Nar) (h1 : n.roles.length≤100000) (h2 : n.fresh.length≤100000) (h3 : n.tags.length≤100000) : Ctr sys 38 [xn n] [] (xi (decE n)) none []:=(Ir n h1 h2 h3).wk J fun _ h=>h
end Go.Proofs.YteidahabkfgfjaaGreat
namespace Go.Proofs.YteidahabkfgfjaaGreat
open Go Go.Abs
def mapI (l : List (List UInt8 × Int)) (k : List UInt8) : Int:=((l.reverse.find? fun x=>decide (x.1=k)).map (·.2)).getD 0
theorem Wf (l : List (List UInt8 × Int)) (k : List UInt8) : mval (mapL l) k (.int .i64 0)=iv (mapI l k):=by
 rw[mval,Nq,mapI]
 cases l.reverse.find? fun x=>decide (x.1=k) <;> rfl
theorem Mc {w : World} {S : Nat→Nat→Prop} (l : List (List UInt8 × Int)) (k : List UInt8) : CRep w S (.i .i64 (mapI l k)) (mval (mapL l) k (.int .i64 0)):=by
 rw[Wf]; exact CRep.i _ _
def lkN (R : List (List UInt8)) (t : T) : List T:=t.kids.take ((J1 R t).getD 0)
theorem Tr {R : List (List UInt8)} {t : T} {k : Nat} (h : J1 R t=some k) (hl : t.kids.length≤k) : xl t.kids=xl (lkN R t):=by
 rw[lkN,h,Option.getD_some,List.take_of_length_le hl]
theorem Yg {R : List (List UInt8)} {t : T} (h : J1 R t=some 1) : X.v (.c (.sl 4 ((T.rows t.kids).take 1)))=xl (lkN R t):=by
 rw[lkN,h,Option.getD_some,xl,T.rows_eq,T.rows_eq,List.map_take]
theorem uAl {R : List (List UInt8)} {t : T} (h : J1 R t=some 0) : X.v (.c (.sl 4 []))=xl (lkN R t):=by
 rw[lkN,h]; rfl
theorem uBk {R : List (List UInt8)} {t x : T} (h : x ∈ lkN R t) : x.size < t.size:=M5 (List.mem_of_mem_take h)
theorem Ym {R K : List (List UInt8)} {t : T} (h : t.kind=3) (hk : J1 R t≠none) : O1 R K t=errs (O1 R K) (lkN R t):=by
 rw[R6,if_neg (by omega)]
 cases hl : J1 R t with
 | none=>exact absurd hl hk
 | some k=>rw[lkN,hl]; rfl
theorem Z3 {α : Type} {f : α→Int} {d : α} {l : List α} {k : Nat} (hk : k < l.length) (h : ∀ j,j < k→f (l.getD j d)=0) (hx : f (l.getD k d)≠0) : errs f l=f (l.getD k d):=by
 induction l generalizing k with
 | nil=>simp at hk
 | cons x r ih =>
  cases k with
  | zero=>rw[errs,if_pos (by simpa using hx)]; rfl
  | succ k =>
   have h0:=h 0 (by omega)
   rw[errs,if_neg (by simpa using h0),ih (k:=k) (by simpa using hk) (fun j hj=>by simpa using h (j + 1) (by omega)) (by simpa using hx)]
   rfl
theorem V9 {α : Type} {f : α→Int} {d : α} {l : List α} (h : ∀ j,j < l.length→f (l.getD j d)=0) : errs f l=0:=by
 refine errs_zero.2 fun x hx=>?_
 obtain ⟨j,hj,rfl⟩:=List.mem_iff_getElem.1 hx
 have := h j hj
 rwa [List.getD_eq_getElem?_getD,List.getElem?_eq_getElem hj] at this
theorem J5 {α : Type} {l : List α} {k : Nat} {d : α} (h : k < l.length) : l.getD k d ∈ l:=by
 rw[List.getD_eq_getElem?_getD,List.getElem?_eq_getElem h]; exact List.getElem_mem _
theorem Q2 {α : Type} {f : α→Int} {l : List α} {d : α} {k : Nat} (hi : ∀ j,j < k→f (l.getD j d)=0) (h : f (l.getD k d)=0) : ∀ j,j < k + 1→f (l.getD j d)=0:=by
 intro j hj
 by_cases e : j=k
 ·subst e; exact h
 ·exact hi j (by omega)
def stT (R : List (List UInt8)) (u : Value) (kk : List T) : St:={ t:=[(2,true, .v (.ptr (.l 2) 0)),(7,true,xl kk)],bx:=[(.l 2,[.sl 1 (strR R), .o u])],ow:=[] }
set_option maxHeartbeats 4000000 in
theorem Dj (R : List (List UInt8)) (l : List (List UInt8 × Int)) (b : Nat) : ∀ (n : Nat) (t : T),t.size≤n→n≤900000→Ctr (sys.add b (mapL l)) 41 [xtb R (.map (some b)),xm t] [] (xi (O1 R (l.map (·.1)) t)) none []:=by
 intro n
 induction n with
 | zero=>intro t h; have := t.size_pos; omega
 | succ n ih =>
  intro t ht hn
  have hr:=T.rows_len t.kids
  have hls:=T.len_sizes t.kids
  have hse:=t.size_eq
  refine D1 Tryz.func41 J J J J J J ?_;refine A8 (A6 ?_);refine C3 J (D8 J J J J) ?_;refine C3 J (D8 J J J J) ?_;refine A5 J J J (A9 J gU) ?_;refine B0 ?_;refine A8 ?_;refine A8 (A6 ?_);refine A5 J J J (B1 J gU J J) ?_;refine A5 J J J (B2 J gU J J J J) ?_;refine A5 J J J (B7 J J gU gU J) ?_;refine B0 ?_;refine B5 (s:=⟨[(2,_,_),(3,_,_),(13,_,_)],[(.l 2,_),(.l 3,_)],[],[]⟩) (B4 (⟨U J,U J,U J,O⟩) (⟨U J,U J,O⟩) O) ?_;refine B9 J (fun hc=>?_) (fun hc=>?_)
  ·try simp only [nn,B3,nq] at hc
   refine Ka b (mapL l) (List.mem_cons_self ..) ?_;refine A8 ?_;refine A8 (A6 ?_);refine A5 J J J (B1 J gU J J) ?_;refine A5 J J J (B2 J gU J J J J) ?_;refine A5 J J J (B1 J gU J J) ?_;refine A5 J J J (B2 J gU J J J J) ?_;refine A5 J J J (Cl (i:=0) (c:=.i .i64 (mapI l t.name)) (z:=.int .i64 0) J J gU gU J Tryz.underlying61 Tryz.underlying9 (by kernel_rfl) (fun w S=>Mc l t.name) J) ?_;refine A5 J J J (A7 J gU) ?_;refine A5 J J J (C6 J gU J) ?_;refine A5 J J J (C6 J gU J) ?_;refine A5 J J J (A9 J gU) ?_;refine A5 J J J (A9 J gU) ?_;refine B0 ?_;refine B5 (s:={ t:=[(6,_,_)],bx:=[],ow:=[],mp:=_ }) (B4 (⟨U J,O⟩) O O (.inr J)) ?_;refine A8 (A6 ?_);refine A5 J J J (A7 J gU) ?_;refine A5 J J J (F8 J gU) ?_;refine B0 ?_;refine B9 J (fun hc2=>?_) (fun hc2=>?_)
   ·try simp only [nn,B3,nq] at hc2
    rw[Ce] at hc2
    refine A8 (A6 ?_);refine A5 J J J (A9 J gU) ?_;refine B0 ?_;refine C1 ?_
    repeat(first|refine tR ?_|refine bR ?_)
    refine C5 J ?_ O
    (rw[R6,if_pos hc,if_neg (by rw[hc2]; simp)]; rfl)
   ·try simp only [nn,B3,nq] at hc2
    rw[Ce] at hc2
    refine C0 ?_;refine A8 (A6 ?_);refine A5 J J J (A9 J gU) ?_;refine B0 ?_;refine C1 ?_
    repeat(first|refine tR ?_|refine bR ?_)
    refine C5 J ?_ O
    (rw[R6,if_pos hc,if_pos hc2]; rfl)
  ·try simp only [nn,B3,nq] at hc
   refine C0 ?_;refine A8 (A6 ?_);refine A5 J J J (B1 J gU J J) ?_;refine A5 J J J (B2 J gU J J J J) ?_;refine A5 J J J (A9 J gU) ?_;refine B0 ?_;refine Ul (stT R (.map (some b)) (lkN R t)) (J1 R t≠none) ?_ (fun hj=>?_)
   ·skip
    refine C4 ?_;refine A8 ?_;refine A8 (A6 ?_);refine A5 J J J (B8 J gU J J J J J) ?_;refine C8 J J J J J J gU gU (Ctr.add (T5 _ _ _)) J ?_;refine A5 J J J (A9 J gU) ?_;refine B0 ?_;refine B5 (s:={ t:=[(2,_,_),(3,_,_),(7,_,_),(26,_,_)],bx:=[(.l 2,_),(.l 3,_)],ow:=[],mp:=_ }) (B4 (⟨U J,U J,U J,U J,O⟩) (⟨U J,U J,O⟩) O (.inr J)) ?_;refine B9 J (fun hc3=>?_) (fun hc3=>?_)
    ·have p1 : isT t Fx 2=true:=hc3
     have hk : J1 R t=some 2:=by rw[J1,if_pos (.inl p1)]
     refine C0 ?_;refine B9 J (fun hc4=>?_) (fun hc4=>?_)
     ·skip
      refine C0 ?_;refine ⟨by rw[hk]; simp,B4 ⟨⟨_,rfl,rfl⟩,⟨_,rfl,?_⟩,O⟩ ⟨⟨_,rfl,rfl⟩,O⟩ O⟩;exact tx (Tr hk (by simp [isT] at p1; omega))
     ·exact absurd (p1.symm.trans hc4) (by simp)
    ·have n1 : ¬ isT t Fx 2=true:=by rw[Bool.not_eq_true]; exact hc3
     refine A8 (A6 ?_);refine A5 J J J (B8 J gU J J J J J) ?_;refine C8 J J J J J J gU gU (Ctr.add (T5 _ _ _)) J ?_;refine A5 J J J (A9 J gU) ?_;refine B0 ?_;refine B9 J (fun hc5=>?_) (fun hc5=>?_)
     ·have p1 : isT t wEnc 2=true:=hc5
      have hk : J1 R t=some 2:=by rw[J1,if_pos (.inr p1)]
      refine C0 ?_;refine B9 J (fun hc6=>?_) (fun hc6=>?_)
      ·skip
       refine C0 ?_;refine ⟨by rw[hk]; simp,B4 ⟨⟨_,rfl,rfl⟩,⟨_,rfl,?_⟩,O⟩ ⟨⟨_,rfl,rfl⟩,O⟩ O⟩;exact tx (Tr hk (by simp [isT] at p1; omega))
      ·exact absurd (p1.symm.trans hc6) (by simp)
     ·have n2 : ¬ isT t wEnc 2=true:=by rw[Bool.not_eq_true]; exact hc5
      have m1 : ¬ (isT t Fx 2=true∨isT t wEnc 2=true):=fun q=>q.elim n1 n2
      refine A6 ?_;refine A5 J J J (B8 J gU J J J J J) ?_;refine C8 J J J J J J gU gU (Ctr.add (T5 _ _ _)) J ?_;refine A5 J J J (A9 J gU) ?_;refine B0 ?_;refine B5 (s:={ t:=[(2,_,_),(3,_,_),(7,_,_),(26,_,_)],bx:=[(.l 2,_),(.l 3,_)],ow:=[],mp:=_ }) (B4 (⟨U J,U J,U J,U J,O⟩) (⟨U J,U J,O⟩) O (.inr J)) ?_;refine B9 J (fun hc7=>?_) (fun hc7=>?_)
      ·have p1 : isT t Ob 1=true:=hc7
       have hk : J1 R t=some 1:=by rw[J1,if_neg m1,if_pos p1]
       refine C0 ?_;refine ⟨by rw[hk]; simp,B4 ⟨⟨_,rfl,rfl⟩,⟨_,rfl,?_⟩,O⟩ ⟨⟨_,rfl,rfl⟩,O⟩ O⟩;exact tx (Tr hk (by simp [isT] at p1; omega))
      ·have n3 : ¬ isT t Ob 1=true:=by rw[Bool.not_eq_true]; exact hc7
       refine A8 ?_;refine A8 ?_;refine awp_drawn' (by kernel_rfl) ?_;refine D7 J J J J J J J gU J J J J J ?_;refine E7 J J J J J J J gU gU (Ctr.add (T5 _ _ _)) J ?_;refine B6 J J J J (A7 J gU) ?_;refine D7 J J J J J J J gU J J J J J ?_;refine B6 J J J J (A7 J gU) ?_;refine B6 J J J J (C2 (j:=1) J J (fun hh=>hh) gU J J (by first|omega|(simp at hh ⊢; omega)|(simp [isT] at hh ⊢; omega)) (fun hh=>T.rows_at (by first|omega|(simp at hh ⊢; omega)|(simp [isT] at hh ⊢; omega)))) ?_;refine B6 J J J J (D4 J (fun hh=>hh) J J J J) ?_;refine E7 J J J J J J J gU (fun hh=>gA ((fun hh=>hh) hh) (gA ((fun hh=>hh) hh) (rfl))) (Ctr.add (Ls _ _ _)) J ?_;refine B6 J J J J (E0 J J gU (fun _ hi=>gP J hi)) ?_;refine B6 J J J J (A9 J gU) ?_;refine F9 (by kernel_rfl) ?_;refine B5 (s:={ t:=[(2,_,_),(3,_,_),(7,_,_),(33,_,_)],bx:=[(.l 2,_),(.l 3,_)],ow:=[],mp:=_ }) (B4 (⟨U J,U J,U J,U J,O⟩) (⟨U J,U J,O⟩) O (.inr J)) ?_;refine B9 J (fun hc8=>?_) (fun hc8=>?_)
       ·have p1 : isT t Ic 2=true∧pubT R (kid t 1)=true:=by rw[← Bool.and_eq_true]; exact hc8
        have hk : J1 R t=some 1:=by rw[J1,if_neg m1,if_neg n3,if_pos (.inl p1)]
        have hlen : t.kids.length=2 := by have := p1.1; simp [isT] at this; omega
        refine C0 ?_;refine B9 J (fun hc9=>?_) (fun hc9=>?_)
        ·skip
         refine A6 ?_;refine A5 J J J (A7 J gU) ?_;refine A5 J J J (Am J gU J J (fun _=>rfl) (fun _=>⟨_,_,_,rfl,gU,rfl⟩) (fun hh=>by first|omega|(simp at hh ⊢; omega)|(simp [isT] at hh ⊢; omega)) (fun hh=>by first|omega|(simp at hh ⊢; omega)|(simp [isT] at hh ⊢; omega))) ?_;refine A5 J J J (A9 J gU) ?_;refine B0 ?_;refine ⟨by rw[hk]; simp,B4 ⟨⟨_,rfl,rfl⟩,⟨_,rfl,?_⟩,O⟩ ⟨⟨_,rfl,rfl⟩,O⟩ O⟩;exact tx (Yg hk)
        ·exact absurd (hc8.symm.trans hc9) (by simp)
       ·have n4 : ¬ (isT t Ic 2=true∧pubT R (kid t 1)=true):=by rw[← Bool.and_eq_true,Bool.not_eq_true]; exact hc8
        refine awp_drawn' (by kernel_rfl) ?_;refine D7 J J J J J J J gU J J J J J ?_;refine E7 J J J J J J J gU gU (Ctr.add (T5 _ _ _)) J ?_;refine B6 J J J J (A7 J gU) ?_;refine D7 J J J J J J J gU J J J J J ?_;refine B6 J J J J (A7 J gU) ?_;refine B6 J J J J (C2 (j:=1) J J (fun hh=>hh) gU J J (by first|omega|(simp at hh ⊢; omega)|(simp [isT] at hh ⊢; omega)) (fun hh=>T.rows_at (by first|omega|(simp at hh ⊢; omega)|(simp [isT] at hh ⊢; omega)))) ?_;refine B6 J J J J (D4 J (fun hh=>hh) J J J J) ?_;refine E7 J J J J J J J gU (fun hh=>gA ((fun hh=>hh) hh) (gA ((fun hh=>hh) hh) (rfl))) (Ctr.add (Jp _ _ _)) J ?_;refine B6 J J J J (E0 J J gU (fun _ hi=>gP J hi)) ?_;refine B6 J J J J (A9 J gU) ?_;refine F9 (by kernel_rfl) ?_;refine B5 (s:={ t:=[(2,_,_),(3,_,_),(7,_,_),(33,_,_)],bx:=[(.l 2,_),(.l 3,_)],ow:=[],mp:=_ }) (B4 (⟨U J,U J,U J,U J,O⟩) (⟨U J,U J,O⟩) O (.inr J)) ?_;refine B9 J (fun hc10=>?_) (fun hc10=>?_)
        ·have p1 : isT t Hc 2=true∧Aa R (kid t 1)=true:=by rw[← Bool.and_eq_true]; exact hc10
         have hk : J1 R t=some 1:=by rw[J1,if_neg m1,if_neg n3,if_pos (.inr p1)]
         have hlen : t.kids.length=2 := by have := p1.1; simp [isT] at this; omega
         refine A6 ?_;refine A5 J J J (A7 J gU) ?_;refine A5 J J J (Am J gU J J (fun _=>rfl) (fun _=>⟨_,_,_,rfl,gU,rfl⟩) (fun hh=>by first|omega|(simp at hh ⊢; omega)|(simp [isT] at hh ⊢; omega)) (fun hh=>by first|omega|(simp at hh ⊢; omega)|(simp [isT] at hh ⊢; omega))) ?_;refine A5 J J J (A9 J gU) ?_;refine B0 ?_;refine ⟨by rw[hk]; simp,B4 ⟨⟨_,rfl,rfl⟩,⟨_,rfl,?_⟩,O⟩ ⟨⟨_,rfl,rfl⟩,O⟩ O⟩;exact tx (Yg hk)
        ·have n5 : ¬ (isT t Hc 2=true∧Aa R (kid t 1)=true):=by rw[← Bool.and_eq_true,Bool.not_eq_true]; exact hc10
         have m2 : ¬ ((isT t Ic 2=true∧pubT R (kid t 1)=true)∨(isT t Hc 2=true∧Aa R (kid t 1)=true)):=fun q=>q.elim n4 n5
         refine A8 ?_;refine A8 (A6 ?_);refine A5 J J J (B8 J gU J J J J J) ?_;refine A5 J J J (B8 J gU J J J J J) ?_;refine C8 J J J J J J gU gU (Ctr.add (Ls _ _ _)) J ?_;refine A5 J J J (A9 J gU) ?_;refine B0 ?_;refine B9 J (fun hc11=>?_) (fun hc11=>?_)
         ·have p1 : pubT R t=true:=hc11
          have hk : J1 R t=some 0:=by rw[J1,if_neg m1,if_neg n3,if_neg m2,if_pos (.inl p1)]
          refine C0 ?_;refine B9 J (fun hc12=>?_) (fun hc12=>?_)
          ·skip
           refine A6 ?_;refine A5 J J J (A9 J gU) ?_;refine B0 ?_;refine ⟨by rw[hk]; simp,B4 ⟨⟨_,rfl,rfl⟩,⟨_,rfl,?_⟩,O⟩ ⟨⟨_,rfl,rfl⟩,O⟩ O⟩;exact tx (uAl hk)
          ·exact absurd (hc11.symm.trans hc12) (by simp)
         ·have n6 : ¬ pubT R t=true:=by rw[Bool.not_eq_true]; exact hc11
          refine awp_drawn' (by kernel_rfl) ?_;refine D7 J J J J J J J gU J J J J J ?_;refine E7 J J J J J J J gU gU (Ctr.add (T5 _ _ _)) J ?_;refine B6 J J J J (A7 J gU) ?_;refine D7 J J J J J J J gU J J J J J ?_;refine B6 J J J J (A7 J gU) ?_;refine B6 J J J J (C2 (j:=0) J J (fun hh=>hh) gU J J (by first|omega|(simp at hh ⊢; omega)|(simp [isT] at hh ⊢; omega)) (fun hh=>T.rows_at (by first|omega|(simp at hh ⊢; omega)|(simp [isT] at hh ⊢; omega)))) ?_;refine B6 J J J J (D4 J (fun hh=>hh) J J J J) ?_;refine E7 J J J J J J J gU (fun hh=>gA ((fun hh=>hh) hh) (gA ((fun hh=>hh) hh) (rfl))) (Ctr.add (Dd _ _ _)) J ?_;refine B6 J J J J (E0 J J gU (fun _ hi=>gP J hi)) ?_;refine B6 J J J J (A7 J gU) ?_;refine D7 J J J J J J J gU J J J J J ?_;refine B6 J J J J (A7 J gU) ?_;refine B6 J J J J (C2 (j:=1) J J (fun hh=>hh) gU J J (by first|omega|(simp at hh ⊢; omega)|(simp [isT] at hh ⊢; omega)) (fun hh=>T.rows_at (by first|omega|(simp at hh ⊢; omega)|(simp [isT] at hh ⊢; omega)))) ?_;refine B6 J J J J (D4 J (fun hh=>hh) J J J J) ?_;refine E7 J J J J J J J gU (fun hh=>gA ((fun hh=>hh) hh) (gA ((fun hh=>hh) hh) (rfl))) (Ctr.add (Dd _ _ _)) J ?_
          refine B6 J J J J (E0 J J gU (fun _ hi=>gP J hi)) ?_;refine B6 J J J J (A7 J gU) ?_;refine B6 J J J J (A7 J gU) ?_;refine B6 J J J J (C2 (j:=0) J J (fun hh=>hh) gU J J (by first|omega|(simp at hh ⊢; omega)|(simp [isT] at hh ⊢; omega)) (fun hh=>T.rows_at (by first|omega|(simp at hh ⊢; omega)|(simp [isT] at hh ⊢; omega)))) ?_;refine B6 J J J J (F1 J (fun hh=>hh) J J) ?_;refine B6 J J J J (E3 J (fun hh=>hh) J J J) ?_;refine B6 J J J J (A7 J gU) ?_;refine B6 J J J J (C2 (j:=1) J J (fun hh=>hh) gU J J (by first|omega|(simp at hh ⊢; omega)|(simp [isT] at hh ⊢; omega)) (fun hh=>T.rows_at (by first|omega|(simp at hh ⊢; omega)|(simp [isT] at hh ⊢; omega)))) ?_;refine B6 J J J J (F1 J (fun hh=>hh) J J) ?_;refine B6 J J J J (E3 J (fun hh=>hh) J J J) ?_;refine B6 J J J J (G0 J J (fun hh=>hh) (fun hh=>hh) J) ?_;refine B6 J J J J (E0 J J gU (fun _ hi=>gP J hi)) ?_;refine B6 J J J J (A9 J gU) ?_;refine F9 (by kernel_rfl) ?_;refine B5 (s:={ t:=[(2,_,_),(54,_,_)],bx:=[(.l 2,_)],ow:=[],mp:=_ }) (B4 (⟨U J,U J,O⟩) (⟨U J,O⟩) O (.inr J)) ?_
          refine B9 J (fun hc13=>?_) (fun hc13=>?_)
          ·have p1 : shkT R t=true:=by rw[← hc13]; rfl
           have hk : J1 R t=some 0:=by rw[J1,if_neg m1,if_neg n3,if_neg m2,if_pos (.inr p1)]
           refine A6 ?_;refine A5 J J J (A9 J gU) ?_;refine B0 ?_;refine ⟨by rw[hk]; simp,B4 ⟨⟨_,rfl,rfl⟩,⟨_,rfl,?_⟩,O⟩ ⟨⟨_,rfl,rfl⟩,O⟩ O⟩;exact tx (uAl hk)
          ·have n7 : ¬ shkT R t=true:=by rw[Bool.not_eq_true,← hc13]; rfl
           have hk : J1 R t=none:=by rw[J1,if_neg m1,if_neg n3,if_neg m2,if_neg (fun q=>q.elim n6 n7)]
           refine A8 (A6 ?_);refine A5 J J J (A9 J gU) ?_;refine B0 ?_;refine C1 ?_
           repeat(first|refine tR ?_|refine bR ?_)
           refine C5 J ?_ O
           (rw[R6,if_neg (by omega),hk]; rfl)
   ·have hE:=Ym (K:=l.map (·.1)) hc hj
    have hrk:=T.rows_len (lkN R t)
    rw[hE]
    refine A8 ?_;refine A8 (A6 ?_);refine A5 J J J (A7 J gU) ?_;refine D9 J J J J J gU J J ?_ (fun hh=>by simp at hh); intro hlen;refine A5 J J J (A7 J gU) ?_;refine B0 ?_;refine C4 ?_;refine F3 (ι:=Nat) { t:=[(2,_,_),(85,_,_),(86,_,_)],bx:=[(.l 2,_)],ow:=[],mp:=_ } (fun k=>[(87,true,xi (k : Int))]) (fun k=>[]) (fun k=>k≤(lkN R t).length ∧ ∀ j,j < k→O1 R (l.map (·.1)) ((lkN R t).getD j default)=0) (fun k=>(lkN R t).length - k) (0) (⟨by omega,fun j hj=>by omega⟩) (B4 (⟨U J,U J,U J,U J,O⟩) (⟨U J,O⟩) O (.inr J)) ?_
    intro k hok
    dsimp only [List.cons_append,List.nil_append]
    obtain ⟨hk,hi⟩:=hok
    refine A8 (A6 ?_);refine A5 J J J (B7 J J gU gU J) ?_;refine B0 ?_;refine A8 ?_;refine B9 J (fun hc14=>?_) (fun hc14=>?_)
    ·try simp only [nn,B3,nq] at hc14
     have hlt : k < (lkN R t).length:=by omega
     have hks:=uBk (J5 (d:=default) hlt)
     refine C0 ?_;refine A8 ?_;refine C4 ?_;refine A8 (A6 ?_);refine A5 J J J (C2 J J gU gU J J J (fun hh=>T.rows_at (by first|omega|(simp at hh ⊢; omega)|(simp [isT] at hh ⊢; omega)))) ?_;refine A5 J J J (D4 J gU J J J J) ?_;refine C3 J (E1 J J J) ?_;refine C3 J (C7 J J J J J J J) ?_;refine B0 ?_;refine A8 (A6 ?_);refine A5 J J J (B8 J gU J J J J J) ?_;refine A5 J J J (B8 J gU J J J J J) ?_;refine C8 J J J J J J gU gU (ih ((lkN R t).getD k default) (by omega) (by omega)) J ?_;refine A5 J J J (A9 J gU) ?_;refine B0 ?_;refine B5 (s:={ t:=[(2,_,_),(10,_,_),(85,_,_),(86,_,_),(87,_,_)],bx:=[(.l 2,_)],ow:=[],mp:=_ }) (B4 (⟨U J,U J,U J,U J,U J,O⟩) (⟨U J,O⟩) O (.inr J)) ?_;refine A8 (A6 ?_);refine A5 J J J (A7 J gU) ?_;refine A5 J J J (B7 J J gU gU J) ?_;refine B0 ?_;refine B9 J (fun hc15=>?_) (fun hc15=>?_)
     ·try simp only [nn,B3,nq] at hc15
      refine A8 (A6 ?_);refine A5 J J J (A7 J gU) ?_;refine A5 J J J (A9 J gU) ?_;refine B0 ?_;refine C1 ?_
      repeat(first|refine tR ?_|refine bR ?_)
      refine C5 J ?_ O
      (rw[Z3 hlt hi hc15]; rfl)
     ·try simp only [nn,B3,nq] at hc15
      refine C0 ?_;refine A6 ?_;refine A5 J J J (D0 J J gU gU J (IntWalk.i64_in _ (by omega))) ?_;refine A5 J J J (A7 J gU) ?_;refine B0 ?_;refine ⟨k + 1,?_,?_,B4 (⟨⟨_,rfl,?_⟩,⟨U J,U J,U J,O⟩⟩) (⟨U J,O⟩) O (.inr J)⟩
      all_goals (first|rfl|omega|exact ⟨by omega,Q2 hi hc15⟩)
    ·try simp only [nn,B3,nq] at hc14
     have hke : k=(lkN R t).length:=by omega
     subst hke
     refine E2 ?_
     repeat(first|refine D5 ?_|refine D6 ?_|refine D2 J ?_)
     refine A8 (A6 ?_);refine A5 J J J (A9 J gU) ?_;refine B0 ?_;refine C1 ?_
     repeat(first|refine tR ?_|refine bR ?_)
     refine C5 J ?_ O
     (rw[V9 hi]; rfl)
def idx0 (l : List (List UInt8)) (s : List UInt8) : Int:=if idxF (fun x=>decide (x=s) && decide (s≠[])) l < 0 then 0 else idxF (fun x=>decide (x=s) && decide (s≠[])) l
def chR (l : List Tk) (ws : List (List UInt8)) (p : PS) : Int × PS:=if (C9 l [] p).2.bad=true∨idx0 ws (C9 l [] p).1=0 then (0,p.off) else (idx0 ws (C9 l [] p).1,(C9 l [] p).2)
def J0 : List (List UInt8):=[] :: [] :: sortW
def K3 : List (List UInt8):=[] :: kindW
def W3 : List (List UInt8):=[] :: K1
def Q9 : List (List UInt8):=[[],Jb]
def frRA (l : List Tk) (role : List UInt8) : Nat→PS→List Fs→List Fs × PS
 | 0,p,out=>(out,p)
 | n + 1,p,out =>
  if (chR l J0 (C9 l [] p).2).2.bad=true then (out++[⟨role,(C9 l [] p).1,(chR l J0 (C9 l [] p).2).1⟩],(chR l J0 (C9 l [] p).2).2)
  else if symQ l (chR l J0 (C9 l [] p).2).2 [44]=true then frRA l role n (chR l J0 (C9 l [] p).2).2.go (out++[⟨role,(C9 l [] p).1,(chR l J0 (C9 l [] p).2).1⟩])
  else (out++[⟨role,(C9 l [] p).1,(chR l J0 (C9 l [] p).2).1⟩],(chR l J0 (C9 l [] p).2).2)
def frRd (l : List Tk) (p : PS) (out : List Fs) : List Fs × PS:=frRA l (C9 l [] p).1 (l.length + 1) (E9 l [58] (C9 l [] p).2) out
def Bl (l : List Tk) (line : Int) (p : PS) : Sp × PS :=
 let a:=C9 l [] p
 let b:=C9 l [] (E9 l [62] (E9 l [45] a.2))
 let t:=G4 l (l.length + 1) (E9 l [58] b.2)
 (⟨a.1,b.1,t.1,line⟩,t.2)
def X9 (l : List Tk) (line : Int) (p : PS) : Gl × PS :=
 let k:=chR l K3 p
 let r:=C9 l [] k.2
 let w:=if I8 k.1=true then C9 l [] r.2 else ([],r.2)
 let d:=H1 l (G4 l (l.length + 1)) (E9 l [58] w.2)
 (⟨k.1,r.1,w.1,d.1,line⟩,d.2)
def N4 (l : List Tk) (n : Nar) (line : Int) (k : Int) (q : PS) : Nar × PS :=
 if k=1 then ({ n with roles:=n.roles++(J7 l q).1 },(J7 l q).2)
 else if k=2 then ({ n with fresh:=(frRd l q n.fresh).1 },(frRd l q n.fresh).2)
 else if k=3 then ({ n with tags:=n.tags++(J7 l q).1 },(J7 l q).2)
 else if k=4 then ({ n with steps:=n.steps++[(Bl l line q).1] },(Bl l line q).2)
 else if k=5 then ({ n with goals:=n.goals++[(X9 l line q).1] },(X9 l line q).2)
 else (n,q)
def Z4 (l : List Tk) (n : Nar) (p : PS) : Nar × PS :=
 ((N4 l n (P9 l p) (chR l W3 p).1 (chR l W3 p).2).1,E9 l [59] (N4 l n (P9 l p) (chR l W3 p).1 (chR l W3 p).2).2)
def Q7 (l : List Tk) : Nat→Nar→PS→Nar × PS
 | 0,n,p=>(n,p)
 | m + 1,n,p=>if p.bad=true then (n,p) else if symQ l p [125]=true then (n,p) else Q7 l m (Z4 l n p).1 (Z4 l n p).2
def Qz (l : List Tk) : Nar × PS :=
 let a:=chR l Q9 ⟨0,false⟩
 let b:=C9 l [] a.2
 let r:=Q7 l (l.length + 2) { nar0 with name:=b.1 } (E9 l [123] b.2)
 (r.1,E9 l [125] r.2)
def Keeps {α : Type} (f : PS→α × PS) : Prop:=∀ p : PS,p.bad=true→(f p).2=p
theorem Uk {p : PS} (h : p.bad=true) : p.off=p:=by cases p; simp [PS.off] at h ⊢; exact h
theorem R0 {l : List Tk} {p : PS} {c : List UInt8} (h : p.bad=true) : symQ l p c=false:=by simp [symQ,h]
theorem Vq {l : List Tk} {p : PS} {ws : List (List UInt8)} (h : p.bad=true) : namQ l p ws=false:=by simp [namQ,h]
theorem N2 (l : List Tk) (c : List UInt8) {p : PS} (h : p.bad=true) : E9 l c p=p:=by rw[E9,R0 h]; exact Uk h
theorem K9 (l : List Tk) (ws : List (List UInt8)) : Keeps (C9 l ws):=fun p h=>by rw[C9,Vq h]; exact Uk h
theorem Vo {α : Type} {l : List Tk} {f : PS→α × PS} {p : PS} {out : List α} (n : Nat) (h : p.bad=true) : L7 l f n p out=(out,p):=Dl (R0 h) n
theorem X5 {α : Type} {l : List Tk} {f : PS→α × PS} (hf : Keeps f) : Keeps (H1 l f):=fun p h=>by
 unfold H1; rw[hf p h,Vo _ h]
theorem Br (l : List Tk) (n : Nat) : Keeps (J2 l n):=fun p h=>by
 cases n with
 | zero=>rfl
 | succ n=>rw[J2,if_neg (by rw[R0 h]; simp),K9 l [] p h,if_neg (by rw[R0 h]; simp)]
theorem Ra (l : List Tk) (n : Nat) : Keeps (G4 l n):=fun p h=>by
 cases n with
 | zero=>rfl
 | succ n=>rw[G4,if_neg (by rw[R0 h]; simp),K9 l [] p h,if_neg (by rw[R0 h]; simp)]
theorem Keeps.good {α : Type} {f : PS→α × PS} (hf : Keeps f) {p : PS} (h : (f p).2.bad=false) : p.bad=false:=by
 cases hb : p.bad with
 | false=>rfl
 | true=>rw[hf p hb,hb] at h; exact h
theorem S3 {l : List Tk} {c : List UInt8} {p : PS} (h : (E9 l c p).bad=false) : p.bad=false:=by
 cases hb : p.bad with
 | false=>rfl
 | true=>rw[N2 l c hb,hb] at h; exact h
def Agr {α : Type} (f g : PS→α × PS) : Prop:=∀ p : PS,(f p).2=(g p).2∧((f p).2.bad=false→(f p).1=(g p).1)
theorem Kq {α : Type} {l : List Tk} {f g : PS→α × PS} (h : Agr f g) : ∀ (n : Nat) (p : PS) (out out' : List α),(p.bad=false→out=out') →
  (L7 l f n p out).2=(L7 l g n p out').2∧((L7 l f n p out).2.bad=false→(L7 l f n p out).1=(L7 l g n p out').1)
 | 0,p,out,out',ho=>⟨rfl,ho⟩
 | n + 1,p,out,out',ho=>by
  rw[L7,L7]
  split
  ·rename_i hq
   have hb:=(N7 hq).2
   obtain ⟨e1,e2⟩:=h p.go
   have ih:=Kq (l:=l) h n (f p.go).2 (out++[(f p.go).1]) (out'++[(g p.go).1]) fun hz=>by rw[ho hb,e2 hz]
   rw[e1] at ih ⊢
   exact ih
  ·exact ⟨rfl,ho⟩
theorem Kf {α : Type} {l : List Tk} {f g : PS→α × PS} (h : Agr f g) : Agr (H1 l f) (H1 l g):=fun p=>by
 unfold H1
 obtain ⟨e1,e2⟩:=h p
 have := Kq (l := l) h (l.length + 1) (f p).2 [(f p).1] [(g p).1] fun hz=>by rw[e2 hz]
 rw[e1] at this ⊢
 exact this
theorem Dy (l : List Tk) : ∀ n : Nat,Agr (G4 l n) (J2 l n)
 | 0,p=>⟨rfl,fun _=>rfl⟩
 | n + 1,p=>by
  have ih:=Dy l n
  have ihm:=Kf (l:=l) ih
  rw[G4,J2]
  split
  ·have e1:=(ih p.go).1
   have e2:=(ihm (E9 l [44] (G4 l n p.go).2)).1
   rw[e1] at e2
   have e3 : (E9 l [62] (H1 l (G4 l n) (E9 l [44] (G4 l n p.go).2)).2)=E9 l [62] (H1 l (J2 l n) (E9 l [44] (J2 l n p.go).2)).2:=by rw[e1,e2]
   split
   ·rename_i hb
    exact ⟨e3,fun hz=>by dsimp only at hz; rw[hb] at hz; cases hz⟩
   ·rename_i hb
    refine ⟨e3,fun _=>?_⟩
    have hb : (E9 l [62] (H1 l (G4 l n) (E9 l [44] (G4 l n p.go).2)).2).bad=false:=by simpa using hb
    have h1:=S3 hb
    have h2:=(X5 (l:=l) (Ra l n)).good h1
    have h3:=S3 h2
    dsimp only
    rw[(ih p.go).2 h3,(ihm _).2 h1,e1]
  ·split
   ·split
    ·exact ⟨rfl,fun _=>rfl⟩
    ·have e2:=(ihm (C9 l [] p).2.go).1
     dsimp only
     rw[e2]
     refine ⟨rfl,fun hz=>?_⟩
     rw[← e2] at hz
     rw[(ihm _).2 (S3 hz)]
   ·exact ⟨rfl,fun _=>rfl⟩
theorem Fo {p : List UInt8→Bool} : ∀ {l : List (List UInt8)},(∃ x ∈ l,p x=true)→0≤idxF p l
 | [],h=>by simp at h
 | x :: r,h=>by
  rw[idxF]
  split
  ·omega
  ·rename_i hx
   have : 0≤idxF p r:=Fo (by
    obtain ⟨y,hy,hp⟩:=h
    rcases List.mem_cons.1 hy with q | q
    ·subst q; exact absurd hp hx
    ·exact ⟨y,q,hp⟩)
   rw[if_neg (by omega)]; omega
theorem Qw {p : List UInt8→Bool} : ∀ {l : List (List UInt8)},(∀ x ∈ l,p x=false)→idxF p l = -1
 | [],_=>rfl
 | x :: r,h=>by
  rw[idxF,if_neg (by rw[h x (by simp)]; simp),Qw fun y hy=>h y (by simp [hy]),if_pos (by omega)]
theorem Iq {p q : List UInt8→Bool} : ∀ {l : List (List UInt8)},(∀ x ∈ l,p x=q x)→idxF p l=idxF q l
 | [],_=>rfl
 | x :: r,h=>by rw[idxF,idxF,h x (by simp),Iq fun y hy=>h y (by simp [hy])]
theorem Dk (s : List UInt8) : ∀ l : List (List UInt8),I7 l s=idxF (fun x=>decide (x=s)) l
 | []=>rfl
 | x :: l=>by
  rw[I7,idxF,Dk s l]
  by_cases h : x=s
  ·rw[if_pos h,if_pos (by simp [h])]
  ·have h' : ¬decide (x=s)=true:=by simp [h]
   rw[if_neg h,if_neg h']
theorem Df {l : List (List UInt8)} {s : List UInt8} (h : l.contains s=true) : 0≤I7 l s:=by
 rw[Dk]
 exact Fo ⟨s,by simpa using h,by simp⟩
theorem uAP {ws : List (List UInt8)} (hne : [] ∉ ws) (s : List UInt8) : ∀ k : Nat,0 < k→idx0 (List.replicate k []++ws) s=if ws.contains s=true then I7 ws s + k else 0:=by
 have key : ∀ k : Nat,idxF (fun x=>decide (x=s) && decide (s≠[])) (List.replicate k []++ws)=if ws.contains s=true then I7 ws s + k else -1:=by
  intro k
  induction k with
  | zero =>
   show idxF _ ws=_
   split
   ·rename_i hc
    have hm : s ∈ ws:=by simpa using hc
    have hs : s≠[]:=fun q=>hne (q ▸ hm)
    rw[Dk,show ((0 : Nat) : Int)=0 from J,Int.add_zero]
    exact Iq fun x _=>by simp [hs]
   ·rename_i hc
    refine Qw fun x hx=>?_
    have : x≠s:=fun q=>by subst q; exact hc (by simpa using hx)
    simp [this]
  | succ k ih =>
   rw[List.replicate_succ,List.cons_append,idxF,if_neg (by simp),ih]
   split
   ·rename_i hc
    have := Df hc
    rw[if_neg (by omega)]; push_cast; omega
   ·rw[if_pos (by omega)]
 intro k hk
 unfold idx0
 rw[key k]
 split
 ·rename_i hc
  have := Df hc
  rw[if_neg (by omega)]
 ·rw[if_pos (by omega)]
theorem Md (l : List Tk) {ws : List (List UInt8)} (hne : [] ∉ ws) (h0 : ws≠[]) (k : Nat) (hk : 0 < k) (p : PS) :
  chR l (List.replicate k []++ws) p=(if namQ l p ws=true then I7 ws (C9 l ws p).1 + k else 0,(C9 l ws p).2):=by
 unfold chR
 rw[uAP hne _ k hk]
 by_cases h1 : namQ l p []=true
 ·have e1 : C9 l [] p=((l.getD p.at' tk0).text,p.go):=by rw[C9,if_pos h1]
  have hb : p.bad=false:=by
   simp only [namQ,Bool.and_eq_true,Bool.not_eq_true'] at h1; exact h1.1.1.1
  rw[e1]
  dsimp only
  by_cases hc : ws.contains (l.getD p.at' tk0).text=true
  ·have h2 : namQ l p ws=true:=by
    simp only [namQ,Bool.and_eq_true] at h1 ⊢
    exact ⟨h1.1,by rw[hc]; simp⟩
   have e2 : C9 l ws p=((l.getD p.at' tk0).text,p.go):=by rw[C9,if_pos h2]
   have := Df hc
   rw[if_pos hc,if_neg (by rintro (q | q); { simp [PS.go,hb] at q }; { omega }),if_pos h2,e2]
  ·have h2 : ¬namQ l p ws=true:=by
    simp only [namQ,Bool.and_eq_true,Bool.or_eq_true]
    rintro ⟨_,q | q⟩
    ·exact h0 (by simpa using q)
    ·exact hc q
   have e2 : C9 l ws p=([],p.off):=by rw[C9,if_neg h2]
   rw[if_neg hc,if_pos (.inr J),if_neg h2,e2]
 ·have e1 : C9 l [] p=([],p.off):=by rw[C9,if_neg h1]
  have h2 : ¬namQ l p ws=true:=by
   intro q
   apply h1
   simp only [namQ,Bool.and_eq_true] at q ⊢
   exact ⟨q.1,by simp⟩
  have e2 : C9 l ws p=([],p.off):=by rw[C9,if_neg h2]
  rw[e1,if_pos (.inl J),if_neg h2,e2]
theorem Fc {l : List Tk} {ws : List (List UInt8)} {p : PS} (h : (C9 l ws p).2.bad=false) : namQ l p ws=true:=by
 cases hq : namQ l p ws with
 | true=>rfl
 | false=>rw[C9,hq] at h; simp [PS.off] at h
theorem Tz (l : List Tk) (p : PS) : (chR l J0 p).2=(C9 l sortW p).2∧((chR l J0 p).2.bad=false→(chR l J0 p).1=2 + I7 sortW (C9 l sortW p).1):=by
 have h : chR l J0 p=_:=Md l (ws:=sortW) (by decide) (by decide) 2 (by omega) p
 rw[h]
 refine ⟨rfl,fun hb=>?_⟩
 rw[if_pos (Fc hb)]; omega
theorem uBg (l : List Tk) (p : PS) : (chR l K3 p).2=(C9 l kindW p).2∧(chR l K3 p).1=1 + I7 kindW (C9 l kindW p).1:=by
 have h : chR l K3 p=_:=Md l (ws:=kindW) (by decide) (by decide) 1 (by omega) p
 rw[h]
 refine ⟨rfl,?_⟩
 split
 ·omega
 ·rename_i hq
  rw[C9,if_neg hq]; rfl
theorem uAS (l : List Tk) (p : PS) : (chR l W3 p).2=(C9 l K1 p).2∧(chR l W3 p).1=1 + I7 K1 (C9 l K1 p).1:=by
 have h : chR l W3 p=_:=Md l (ws:=K1) (by decide) (by decide) 1 (by omega) p
 rw[h]
 refine ⟨rfl,?_⟩
 split
 ·omega
 ·rename_i hq
  rw[C9,if_neg hq]; rfl
theorem uAQ (l : List Tk) (p : PS) : (chR l Q9 p).2=(C9 l [Jb] p).2:=by
 have h : chR l Q9 p=_:=Md l (ws:=[Jb]) (by decide) (by decide) 1 (by omega) p
 rw[h]
theorem Rt {l : List Tk} {role : List UInt8} {p : PS} {out : List Fs} (h : p.bad=true) : ∀ n,N3 l role n p out=(out,p)
 | 0=>rfl
 | n + 1=>by rw[N3,if_pos h]
theorem uAq (l : List Tk) (role : List UInt8) : ∀ (n : Nat) (p : PS) (out : List Fs),0 < n→l.length < n + p.at' →
  (frRA l role n p out).2=(N3 l role n p out).2∧((frRA l role n p out).2.bad=false→(frRA l role n p out).1=(N3 l role n p out).1)
 | 0,p,out,h,_=>by omega
 | n + 1,p,out,_,hn=>by
  have hc:=Tz l (C9 l [] p).2
  have hk:=K9 l []
  have hk2:=K9 l sortW
  by_cases hp : p.bad=true
  ·have e1:=hk p hp
   have e2 : (chR l J0 (C9 l [] p).2).2=p:=by rw[hc.1,e1,hk2 p hp]
   rw[frRA,N3,if_pos hp,e2,if_pos hp]
   exact ⟨rfl,fun q=>by dsimp only at q; rw[hp] at q; cases q⟩
  ·rw[frRA,N3,if_neg hp,hc.1]
   split
   ·rename_i hb
    rw[if_neg (by rw[R0 hb]; simp)]
    exact ⟨rfl,fun q=>by dsimp only at q; rw[hb] at q; cases q⟩
   ·rename_i hb
    have hb : (C9 l sortW (C9 l [] p).2).2.bad=false:=by simpa using hb
    have hv:=hc.2 (by rw[hc.1]; exact hb)
    rw[hv]
    split
    ·rename_i hq
     have h1:=(N7 hq).1
     have h2:=(G9 l [] p).1
     have h3:=(G9 l sortW (C9 l [] p).2).1
     have hg : (C9 l sortW (C9 l [] p).2).2.go.at'=(C9 l sortW (C9 l [] p).2).2.at' + 1:=rfl
     exact uAq l role n _ _ (by omega) (by omega)
    ·exact ⟨rfl,fun _=>rfl⟩
theorem Nc (l : List Tk) (out : List Fs) : Keeps (fun p=>Ag l p out):=fun p h=>by
 show (N3 _ _ _ _ _).2=p
 rw[K9 l [] p h,N2 l [58] h,Rt h]
theorem Qq (l : List Tk) (out : List Fs) : Agr (fun p=>frRd l p out) (fun p=>Ag l p out):=fun p=>by
 refine uAq l _ (l.length + 1) _ out (by omega) ?_
 omega
theorem Pi (l : List Tk) (line : Int) : Keeps (Hb l line):=fun p h=>by
 show (J2 _ _ _).2=p
 rw[K9 l [] p h,N2 l _ h,N2 l _ h,K9 l [] p h,N2 l _ h,Br l _ p h]
theorem Oc (l : List Tk) (line : Int) : Agr (Bl l line) (Hb l line):=fun p=>by
 obtain ⟨e1,e2⟩:=Dy l (l.length + 1) (E9 l [58] (C9 l [] (E9 l [62] (E9 l [45] (C9 l [] p).2))).2)
 refine ⟨e1,fun hb=>?_⟩
 show (⟨_,_,_,_⟩ : Sp)=⟨_,_,_,_⟩
 rw[e2 hb]
theorem Oq (l : List Tk) (line : Int) : Keeps (Ga l line):=fun p h=>by
 show (H1 _ _ _).2=p
 rw[K9 l kindW p h,K9 l [] p h]
 split
 ·rw[K9 l [] p h,N2 l _ h,X5 (Br l _) p h]
 ·rw[N2 l _ h,X5 (Br l _) p h]
theorem Qb (l : List Tk) (line : Int) : Agr (X9 l line) (Ga l line):=fun p=>by
 obtain ⟨c1,c2⟩:=uBg l p
 have hm:=Kf (l:=l) (Dy l (l.length + 1))
 unfold X9 Ga
 dsimp only
 rw[c1,c2]
 obtain ⟨e1,e2⟩:=hm (E9 l [58] (if I8 (1 + I7 kindW (C9 l kindW p).1)=true then C9 l [] (C9 l [] (C9 l kindW p).2).2 else ([],(C9 l [] (C9 l kindW p).2).2)).2)
 exact ⟨e1,fun hb=>by rw[e2 hb]⟩
theorem Ej (l : List Tk) : Keeps (J7 l):=X5 (K9 l [])
theorem Sq (w : List UInt8) : (1 + I7 K1 w=1 ↔ w=Ua)∧(1 + I7 K1 w=2 ↔ w=Mv)∧(1 + I7 K1 w=3 ↔ w=Uw)∧(1 + I7 K1 w=4 ↔ w=wMsg)∧(1 + I7 K1 w=5 ↔ w=Vh):=by
  have e : I7 K1 w=if Ua=w then 0 else if Mv=w then 1 else if Uw=w then 2 else if wMsg=w then 3 else if Vh=w then 4 else -1:=by
    simp only [K1,I7]
    repeat' split
    all_goals omega
  rw[e]
  refine ⟨⟨fun h=>?_,fun h=>?_⟩,⟨fun h=>?_,fun h=>?_⟩,⟨fun h=>?_,fun h=>?_⟩,⟨fun h=>?_,fun h=>?_⟩,⟨fun h=>?_,fun h=>?_⟩⟩
  all_goals first
    | (subst h; decide)
    | (repeat' split at h
       all_goals first
         | (symm; assumption)
         | omega)
theorem Rb (l : List Tk) (n : Nar) (line : Int) (w : List UInt8) : Keeps (V0 l n line w):=fun p h=>by
 unfold V0
 repeat' split
 ·exact Ej l p h
 ·exact Nc l n.fresh p h
 ·exact Ej l p h
 ·exact Pi l line p h
 ·exact Oq l line p h
 ·rfl
theorem Wr (l : List Tk) (n : Nar) (line : Int) (w : List UInt8) (q : PS) : (N4 l n line (1 + I7 K1 w) q).2=(V0 l n line w q).2∧((N4 l n line (1 + I7 K1 w) q).2.bad=false→(N4 l n line (1 + I7 K1 w) q).1=(V0 l n line w q).1):=by
 obtain ⟨h1,h2,h3,h4,h5⟩:=Sq w
 unfold N4 V0
 simp only [h1,h2,h3,h4,h5]
 repeat' split
 ·exact ⟨rfl,fun _=>rfl⟩
 ·obtain ⟨e1,e2⟩:=Qq l n.fresh q
  exact ⟨e1,fun hb=>by have := e2 hb; dsimp only at this ⊢; rw[this]⟩
 ·exact ⟨rfl,fun _=>rfl⟩
 ·obtain ⟨e1,e2⟩:=Oc l line q
  exact ⟨e1,fun hb=>by have := e2 hb; dsimp only at this ⊢; rw[this]⟩
 ·obtain ⟨e1,e2⟩:=Qb l line q
  exact ⟨e1,fun hb=>by have := e2 hb; dsimp only at this ⊢; rw[this]⟩
 ·exact ⟨rfl,fun _=>rfl⟩
theorem Ke (l : List Tk) (role : List UInt8) : ∀ (n : Nat) (p : PS) (out : List Fs),p.at'≤(N3 l role n p out).2.at'∧(p.at'≤l.length→(N3 l role n p out).2.at'≤l.length)
 | 0,p,out=>by simp [N3]
 | n + 1,p,out=>by
  have h1:=G9 l [] p
  have h2:=G9 l sortW (C9 l [] p).2
  rw[N3]
  split
  ·simp
  split
  ·rename_i hq
   have h3:=(N7 hq).1
   have hg : (C9 l sortW (C9 l [] p).2).2.go.at'=(C9 l sortW (C9 l [] p).2).2.at' + 1:=rfl
   have h4:=Ke l role n (C9 l sortW (C9 l [] p).2).2.go (out++[⟨role,(C9 l [] p).1,2 + I7 sortW (C9 l sortW (C9 l [] p).2).1⟩])
   omega
  ·dsimp only; omega
def Fwd {α : Type} (l : List Tk) (f : PS→α × PS) : Prop:=∀ p : PS,p.at'≤(f p).2.at'∧(p.at'≤l.length→(f p).2.at'≤l.length)
theorem Kt (l : List Tk) (out : List Fs) : Fwd l (fun p=>Ag l p out):=fun p=>by
 have h1:=G9 l [] p
 have h2:=J4 l [58] (C9 l [] p).2
 have h3:=Ke l (C9 l [] p).1 (l.length + 1) (E9 l [58] (C9 l [] p).2) out
 show p.at'≤(N3 _ _ _ _ _).2.at'∧(_→(N3 _ _ _ _ _).2.at'≤_)
 omega
theorem Ie (l : List Tk) (line : Int) : Fwd l (Hb l line):=fun p=>by
 have h1:=G9 l [] p
 have h2:=J4 l [45] (C9 l [] p).2
 have h3:=J4 l [62] (E9 l [45] (C9 l [] p).2)
 have h4:=G9 l [] (E9 l [62] (E9 l [45] (C9 l [] p).2))
 have h5:=J4 l [58] (C9 l [] (E9 l [62] (E9 l [45] (C9 l [] p).2))).2
 have h6:=Ba l (l.length + 1) (E9 l [58] (C9 l [] (E9 l [62] (E9 l [45] (C9 l [] p).2))).2)
 show p.at'≤(J2 _ _ _).2.at'∧(_→(J2 _ _ _).2.at'≤_)
 omega
theorem Hf (l : List Tk) (line : Int) : Fwd l (Ga l line):=fun p=>by
 have h1:=G9 l kindW p
 have h2:=G9 l [] (C9 l kindW p).2
 have h3 : (C9 l [] (C9 l kindW p).2).2.at'≤(if I8 (1 + I7 kindW (C9 l kindW p).1)=true then C9 l [] (C9 l [] (C9 l kindW p).2).2 else ([],(C9 l [] (C9 l kindW p).2).2)).2.at'∧((C9 l [] (C9 l kindW p).2).2.at'≤l.length→(if I8 (1 + I7 kindW (C9 l kindW p).1)=true then C9 l [] (C9 l [] (C9 l kindW p).2).2 else ([],(C9 l [] (C9 l kindW p).2).2)).2.at'≤l.length):=by
  split
  ·exact G9 l [] _
  ·simp
 have h4:=J4 l [58] (if I8 (1 + I7 kindW (C9 l kindW p).1)=true then C9 l [] (C9 l [] (C9 l kindW p).2).2 else ([],(C9 l [] (C9 l kindW p).2).2)).2
 have h5:=R5 (Ba l (l.length + 1)) (E9 l [58] (if I8 (1 + I7 kindW (C9 l kindW p).1)=true then C9 l [] (C9 l [] (C9 l kindW p).2).2 else ([],(C9 l [] (C9 l kindW p).2).2)).2)
 show p.at'≤(H1 _ _ _).2.at'∧(_→(H1 _ _ _).2.at'≤_)
 omega
theorem Ia (l : List Tk) (n : Nar) (line : Int) (w : List UInt8) : Fwd l (V0 l n line w):=fun p=>by
 unfold V0
 repeat' split
 ·exact R5 (G9 l []) p
 ·exact Kt l n.fresh p
 ·exact R5 (G9 l []) p
 ·exact Ie l line p
 ·exact Hf l line p
 ·exact ⟨Nat.le_refl _,fun h=>h⟩
theorem Ov (l : List Tk) (n : Nar) (p : PS) (hp : p.at'≤l.length) : (Y9 l n p).2.at'≤l.length∧((Y9 l n p).2.bad=false→p.at' < (Y9 l n p).2.at'):=by
 have h1:=G9 l K1 p
 have h2:=Ia l n (P9 l p) (C9 l K1 p).1 (C9 l K1 p).2
 have h3:=J4 l [59] (V0 l n (P9 l p) (C9 l K1 p).1 (C9 l K1 p).2).2
 have e : (Y9 l n p).2=E9 l [59] (V0 l n (P9 l p) (C9 l K1 p).1 (C9 l K1 p).2).2:=rfl
 rw[e]
 refine ⟨by omega,fun hb=>?_⟩
 have hq:=Fc ((Rb l n _ _).good (S3 hb))
 have : (C9 l K1 p).2.at'=p.at' + 1:=by rw[C9,if_pos hq]; rfl
 omega
theorem Qa (l : List Tk) (n : Nar) : Agr (Z4 l n) (Y9 l n):=fun p=>by
 obtain ⟨c1,c2⟩:=uAS l p
 unfold Z4 Y9
 dsimp only
 rw[c1,c2]
 obtain ⟨e1,e2⟩:=Wr l n (P9 l p) (C9 l K1 p).1 (C9 l K1 p).2
 rw[e1] at e2 ⊢
 exact ⟨rfl,fun hb=>e2 (S3 hb)⟩
theorem Ng (l : List Tk) (m : Nat) (n : Nar) : Keeps (Bn l m n):=fun p h=>by
 cases m with
 | zero=>rfl
 | succ m=>rw[Bn,if_pos h]
theorem Mz (l : List Tk) (m : Nat) (n : Nar) : Keeps (Q7 l m n):=fun p h=>by
 cases m with
 | zero=>rfl
 | succ m=>rw[Q7,if_pos h]
theorem Ld (l : List Tk) : ∀ (m : Nat) (p : PS) (n n' : Nar),(p.bad=false→n=n')→p.at'≤l.length→l.length < m + p.at'∨p.bad=true →
  (E9 l [125] (Q7 l m n p).2)=(Bn l m n' p).2∧((Bn l m n' p).2.bad=false→(Q7 l m n p).1=(Bn l m n' p).1)
 | m,p,n,n',hn,hp,hm=>by
  by_cases hb : p.bad=true
  ·rw[Ng l m n' p hb,Mz l m n p hb,N2 l _ hb]
   exact ⟨rfl,fun q=>by rw[hb] at q; cases q⟩
  ·have hm:=hm.resolve_right hb
   match m with
   | 0=>omega
   | m + 1 =>
    have hb' : p.bad=false:=by simpa using hb
    rw[Bn,Q7,if_neg hb,if_neg hb]
    split
    ·rename_i hq
     dsimp only
     rw[E9,if_pos hq]
     exact ⟨rfl,fun _=>hn hb'⟩
    ·obtain ⟨e1,e2⟩:=Qa l n p
     have hn:=hn hb'
     subst hn
     obtain ⟨a1,a2⟩:=Ov l n p hp
     rw[e1]
     refine Ld l m _ _ _ (fun q=>e2 (by rw[e1]; exact q)) a1 ?_
     cases hz : (Y9 l n p).2.bad with
     | true=>exact .inr J
     | false=>exact .inl (by have := a2 hz; omega)
theorem Zw (l : List Tk) : (Qz l).2=(Z8 l).2∧((Z8 l).2.bad=false→(Qz l).1=(Z8 l).1):=by
 unfold Qz Z8
 dsimp only
 rw[uAQ]
 have h1:=G9 l [Jb] ⟨0,false⟩
 have h2:=G9 l [] (C9 l [Jb] ⟨0,false⟩).2
 have h3:=J4 l [123] (C9 l [] (C9 l [Jb] ⟨0,false⟩).2).2
 exact Ld l _ _ _ _ (fun _=>rfl) (by dsimp only at h1; omega) (.inl (by omega))
structure GoodTk (N : Nat) (t : Tk) : Prop where
 form : (t.kind=1∧t.int=0∧t.str=[]∧I1 ((t.text.getD 0 0).toNat : Int)=true∧nlE t.text=t.text.length∧t.text≠[]∧t.text.length≤24) ∨
  (t.kind=2∧t.text=[]∧t.str=[]∧0≤t.int∧t.int≤9223372036854775807)∨(t.kind=3∧t.text=[]∧t.int=0) ∨
  (t.kind=4∧t.int=0∧t.str=[] ∧ ∃ c,t.text=[c]∧symB c=true)
 s : t.str.length≤N
theorem uBM {c : UInt8} (h : symB c=true) : I1 (c.toNat : Int)≠true∧K4 (c.toNat : Int)≠true∧c.toNat≠34∧c.toNat≠35∧c.toNat≠10∧P2 c=false:=by
 have hm : c ∈ syms:=by simpa [symB] using h
 simp only [syms,List.mem_cons,List.not_mem_nil,or_false] at hm
 rcases hm with rfl | rfl | rfl | rfl | rfl | rfl | rfl | rfl | rfl | rfl | rfl | rfl | rfl | rfl | rfl | rfl | rfl | rfl <;> decide
theorem GoodTk.onl {N : Nat} {t : Tk} (h : GoodTk N t) (k : Int) : GoodTk N (t.onl k):=⟨h.form,h.s⟩
theorem GoodTk.mono {N M : Nat} {t : Tk} (h : GoodTk N t) (hm : N≤M) : GoodTk M t:=⟨h.form,Nat.le_trans h.s hm⟩
theorem lineP_len' : ∀ (n : Nat) (l : List UInt8) (k : Int) (out : List Tk),(J8 n l k out).1.length≤out.length + l.length
 | 0,l,k,out=>by simp [J8]
 | n + 1,l,k,out=>by
  have h1:=Xi l
  rw[J8]
  split
  ·simp
  ·rename_i hq
   have hne : 0 < (M8 l).length:=List.length_pos_iff.2 fun h=>hq (.inl h)
   split
   ·simp
   ·rename_i he
    have h2:=Ix hne
    have h3:=h2.2 (Decidable.not_not.1 he)
    have ih:=lineP_len' n ((M8 l).drop (O9 (M8 l)).2.1) k (out++[(O9 (M8 l)).1.onl k])
    simp only [List.length_drop,List.length_append,List.length_singleton] at ih
    omega
def sumL (L : List (List UInt8)) : Nat:=(L.map List.length).sum
theorem Uq : ∀ (s : List UInt8),sumL (spl s)≤s.length
 | []=>by simp [sumL,spl]
 | b :: l=>by
  have ih:=Uq l
  rw[spl]
  split
  ·simp only [sumL,List.map_cons,List.sum_cons,List.length_nil,List.length_cons] at ih ⊢; omega
  ·split
   ·simp [sumL]
   ·rename_i h; rw[h] at ih
    simp only [sumL,List.map_cons,List.sum_cons,List.length_cons] at ih ⊢; omega
def Apart (r : List UInt8) : Prop:=r=[]∨P2 (r.getD 0 0)=true
def TT (s : List UInt8) (k : Nat) (out : List Tk) : List Tk × Nat × Int:=U9 (spl s) k out
theorem In {l : List UInt8} (h : ∀ b ∈ l,b.toNat≠10) {n m : Nat} (k : Int) (out : List Tk) (hn : l.length < n) (hm : l.length < m) : J8 n l k out=J8 m l k out:=by
 rw[← W2 l.length l (Nat.le_refl _) h n ((H5 l).length + 1) k out hn (by omega),← W2 l.length l (Nat.le_refl _) h m ((H5 l).length + 1) k out hm (by omega)]
theorem He {b : UInt8} {l x : List UInt8} {r : List (List UInt8)} (hb : b.toNat≠10) (h : spl l=x :: r) : spl (b :: l)=(b :: x) :: r:=by
 rw[spl,if_neg hb,h]
theorem Zs {b : UInt8} {l : List UInt8} (hb : b.toNat=10) : spl (b :: l)=[] :: spl l:=by rw[spl,if_pos hb]
theorem Ty : ∀ (w : List UInt8) {l x : List UInt8} {r : List (List UInt8)},(∀ b ∈ w,b.toNat≠10)→spl l=x :: r→spl (w++l)=(w++x) :: r
 | [],_,_,_,_,h=>h
 | b :: w,l,x,r,hw,h=>He (hw b (by simp)) (Ty w (fun c hc=>hw c (by simp [hc])) h)
theorem Ds (s : List UInt8) : ∃ x r,spl s=x :: r:=by
 cases h : spl s with
 | nil=>exact absurd h (Mq s)
 | cons x r=>exact ⟨x,r,rfl⟩
theorem Tb {n : Nat} {l l' : List UInt8} {k : Int} {out : List Tk} (h : M8 l=M8 l') : J8 (n + 1) l k out=J8 (n + 1) l' k out:=by simp only [J8,h]
theorem Is {l l' : List UInt8} {L : List (List UInt8)} {k : Nat} {out out' : List Tk} (h : J8 (l.length + 1) l (k : Int) out=J8 (l'.length + 1) l' (k : Int) out') : U9 (l :: L) k out=U9 (l' :: L) k out':=by
 rw[U9,U9,h]
theorem uAH {w : UInt8} (hw : w.toNat=32∨w.toNat=9∨w.toNat=13) (r : List UInt8) (k : Nat) (out : List Tk) : TT (w :: r) k out=TT r k out:=by
 obtain ⟨x,xs',h⟩:=Ds r
 have hin : wsp.contains w=true:=by
  rcases hw with q | q | q
  ·rw[show w=32 from UInt8.toNat_inj.1 q]; rfl
  ·rw[show w=9 from UInt8.toNat_inj.1 q]; rfl
  ·rw[show w=13 from UInt8.toNat_inj.1 q]; rfl
 have ht : M8 (w :: x)=M8 x:=by unfold M8; rw[List.dropWhile_cons,if_pos hin]
 have hno : ∀ b ∈ x,b.toNat≠10:=Dr r x (by rw[h]; simp)
 unfold TT
 rw[He (by omega) h,h]
 refine Is ?_
 rw[← In hno (n:=x.length + 1 + 1) (m:=x.length + 1) _ _ (by omega) (by omega)]
 exact Tb ht
theorem uCg {b : UInt8} (hb : b.toNat=10) (r : List UInt8) (k : Nat) (out : List Tk) : TT (b :: r) k out=TT r (k + 1) out:=by
 unfold TT
 rw[Zs hb,U9,Kk,if_neg (by simp)]
theorem Ft : ∀ (L : List (List UInt8)) (k : Nat) (out : List Tk),(U9 L k out).1.length≤out.length + sumL L
 | [],k,out=>by simp [U9]
 | l :: L,k,out=>by
  rw[U9]
  split
  ·simp
  ·have h1:=lineP_len' (l.length + 1) l (k : Nat) out
   have ih:=Ft L (k + 1) (J8 (l.length + 1) l (k : Nat) out).1
   simp only [sumL,List.map_cons,List.sum_cons] at ih ⊢
   omega
theorem Si (s : List UInt8) : (tokP s).1.length≤s.length:=by
 unfold tokP
 split
 ·simp
 ·have h1:=Ft (spl s) 1 []
  have h2:=Uq s
  simp only [List.length_nil] at h1
  omega
def nmT (w : List UInt8) : Tk:=⟨1,w,0,[],0⟩
def syT (c : UInt8) : Tk:=⟨4,[c],0,[],0⟩
def uBR : List (List Tk)→List Tk
 | []=>[]
 | x :: r=>x++(r.map fun y=>syT 44 :: y).flatten
def Apt (r : List UInt8) : Prop:=r=[]∨M6 ((r.getD 0 0).toNat : Int)≠true
theorem Uj : ∀ (l r : List UInt8),nmP l=l.length→Apt r→nmP (l++r)=l.length
 | [],r,_,hr=>by
  rcases hr with h | h
  ·subst h; rfl
  ·cases r with
   | nil=>rfl
   | cons c r =>
    rw[List.getD_cons_zero] at h
    show nmP (c :: r)=0
    rw[nmP,if_neg (fun q=>h q.1)]
 | b :: l,r,h,hr=>by
  rw[nmP] at h
  split at h
  ·rename_i hq
   have ih:=Uj l r (by simpa using h) hr
   show nmP (b :: (l++r))=_
   rw[nmP,if_pos,ih]; rfl
   refine ⟨hq.1,fun q=>?_⟩
   cases l with
   | cons d l=>exact hq.2 q
   | nil =>
    obtain ⟨q1,q2⟩:=q
    rcases hr with z | z
    ·subst z; simp at q2
    ·rw[List.nil_append] at q2
     rw[q2] at z
     exact z (by decide)
  ·simp at h
theorem uA3 {l r : List UInt8} (h : nlE l=l.length) (hl : l≠[]) (hr : Apt r) : nlE (l++r)=l.length:=by
 cases l with
 | nil=>exact absurd J hl
 | cons c l =>
  have h1 : nmP l=l.length:=by simp [nlE] at h; omega
  have h2:=Uj l r h1 hr
  simp [nlE,h2]; omega
theorem uAT {r x : List UInt8} {xs' : List (List UInt8)} (hr : Apt r) (h : spl r=x :: xs') : Apt x:=by
 rcases hr with q | q
 ·subst q
  simp only [spl,List.cons.injEq] at h
  exact .inl h.1.symm
 ·cases r with
  | nil=>simp only [spl,List.cons.injEq] at h; exact .inl h.1.symm
  | cons c r =>
   rw[List.getD_cons_zero] at q
   by_cases hc : c.toNat=10
   ·rw[Zs hc] at h
    simp only [List.cons.injEq] at h
    exact .inl h.1.symm
   ·obtain ⟨y,ys,hy⟩:=Ds r
    rw[He hc hy] at h
    simp only [List.cons.injEq] at h
    rw[← h.1]
    exact .inr q
theorem Vk {w r x : List UInt8} {xs' : List (List UInt8)} {t : Tk} {c : UInt8} {l : List UInt8} (h : spl r=x :: xs') (e1 : O9 (w++x)=(t.onl 0,w.length,0)) (e2 : w=c :: l) (e3 : P2 c=false) (e4 : c.toNat≠35)
  (hw : ∀ b ∈ w,b.toNat≠10) (k : Nat) (out : List Tk) : TT (w++r) k out=TT r k (out++[t.onl k]):=by
 have hno:=Dr r x (by rw[h]; simp)
 have hin : ¬wsp.contains c=true:=by
  intro q
  have : c=32∨c=9∨c=13:=by simpa [wsp] using q
  rcases this with rfl | rfl | rfl <;> simp [P2] at e3
 have ht2 : M8 (w++x)=w++x:=by
  rw[e2]
  unfold M8
  show List.dropWhile _ (c :: (l++x))=_
  rw[List.dropWhile_cons,if_neg hin]; rfl
 have hcut : ¬(w++x=[]∨[35,35].isPrefixOf (w++x)=true):=by
  rw[e2]
  rintro (q | q)
  ·cases q
  ·have q : ([35,35] : List UInt8).isPrefixOf (c :: (l++x))=true:=q
   rw[Us] at q
   simp only [Bool.and_eq_true,decide_eq_true_eq] at q
   exact e4 q.1
 unfold TT
 rw[Ty w hw h,h]
 refine Is ?_
 rw[J8,ht2,if_neg hcut,e1,if_neg (by simp)]
 dsimp only
 rw[List.drop_left' J]
 refine In hno _ _ ?_ (by omega)
 rw[List.length_append,e2]; simp only [List.length_cons]; omega
theorem Iz {w : List UInt8} (h : E4 w=true) : w≠[]∧I1 ((w.getD 0 0).toNat : Int)=true∧nlE w=w.length∧w.length≤24:=by
 simp only [E4,Bool.and_eq_true,decide_eq_true_eq] at h
 exact ⟨h.1.1.1,h.1.1.2,h.1.2,h.2⟩
theorem uA7 {w : List UInt8} (h : E4 w=true) : ∀ b ∈ w,b.toNat≠10:=by
 obtain ⟨h1,h2,h3,_⟩:=Iz h
 cases w with
 | nil=>exact absurd J h1
 | cons c r =>
  rw[List.getD_cons_zero] at h2
  intro b hb
  rcases List.mem_cons.1 hb with q | q
  ·subst q; intro z; rw[z] at h2; revert h2; decide
  ·have := Lz r (by unfold nlE at h3; simp at h3; omega)
   exact Fk (by have := List.all_eq_true.1 this b q; exact this)
theorem uAU {w : List UInt8} (hn : E4 w=true) {r : List UInt8} (hr : Apt r) (k : Nat) (out : List Tk) : TT (w++r) k out=TT r k (out++[(nmT w).onl k]):=by
 obtain ⟨x,xs',h⟩:=Ds r
 obtain ⟨h1,h2,h3,h4⟩:=Iz hn
 obtain ⟨c,l,rfl⟩ : ∃ c l,w=c :: l:=by
  cases w with
  | nil=>exact absurd J h1
  | cons c l=>exact ⟨c,l,rfl⟩
 rw[List.getD_cons_zero] at h2
 refine Vk h ?_ J ?_ ?_ (uA7 hn) k out
 ·have e1:=uA3 h3 h1 (uAT hr h)
  unfold O9
  have e2 : ((c :: l)++x).getD 0 0=c:=rfl
  rw[e2,if_pos h2,e1,if_neg (by omega),List.take_left' J]; rfl
 ·rw[Bool.eq_false_iff]; intro q
  have : c.toNat=32∨c.toNat=9∨c.toNat=10∨c.toNat=13:=by simp [P2] at q; omega
  rcases this with q | q | q | q <;> rw[q] at h2 <;> revert h2 <;> decide
 ·intro q; rw[q] at h2; revert h2; decide
theorem uBU {c : UInt8} (hc : symB c=true) (r : List UInt8) (k : Nat) (out : List Tk) : TT (c :: r) k out=TT r k (out++[(syT c).onl k]):=by
 obtain ⟨x,xs',h⟩:=Ds r
 obtain ⟨s1,s2,s3,s4,s5,s6⟩:=uBM hc
 refine Vk (w:=[c]) h ?_ J s6 s4 (by simpa using s5) k out
 unfold O9
 have e2 : ([c]++x).getD 0 0=c:=rfl
 rw[e2,if_neg s1,if_neg s2,if_neg s3,if_pos hc]; rfl
def Toks (b : Bool) (s : List UInt8) (ts : List Tk) : Prop:=∀ (r : List UInt8) (k : Nat) (out : List Tk),b=true∨Apt r → ∃ d l',l'.map (·.nl false)=ts∧TT (s++r) k out=TT r (k + d) (out++l')
def Fr (s : List UInt8) : Prop:=s≠[]∧M6 ((s.getD 0 0).toNat : Int)≠true
theorem Fr.apt {s : List UInt8} (h : Fr s) (r : List UInt8) : Apt (s++r):=by
 cases s with
 | nil=>exact absurd J h.1
 | cons c s=>exact .inr h.2
theorem Toks.nil : Toks true [] []:=fun r k out _=>⟨0,[],rfl,by simp⟩
theorem Toks.weak {b : Bool} {s : List UInt8} {ts : List Tk} (h : Toks true s ts) : Toks b s ts:=fun r k out _=>h r k out (.inl J)
theorem Toks.app {b b' : Bool} {s s' : List UInt8} {ts ts' : List Tk} (h : Toks b s ts) (h' : Toks b' s' ts') (hb : b=true∨Fr s') : Toks b' (s++s') (ts++ts'):=fun r k out hr=>by
 obtain ⟨d,l1,e1,e2⟩:=h (s'++r) k out (hb.elim .inl fun q=>.inr (q.apt r))
 obtain ⟨d',l2,e3,e4⟩:=h' r (k + d) (out++l1) hr
 exact ⟨d + d',l1++l2,by rw[List.map_append,e1,e3],by rw[List.append_assoc,e2,e4,List.append_assoc,Nat.add_assoc]⟩
theorem Toks.name {w : List UInt8} (h : E4 w=true) : Toks false w [nmT w]:=fun r k out hr=>⟨0,[(nmT w).onl k],rfl,uAU h (hr.resolve_left (by simp)) k out⟩
theorem Toks.sym {c : UInt8} (h : symB c=true) : Toks true [c] [syT c]:=fun r k out _=>⟨0,[(syT c).onl k],rfl,uBU h r k out⟩
theorem Toks.sp : Toks true [32] []:=fun r k out _=>⟨0,[],rfl,by rw[List.append_nil]; exact uAH (.inl J) r k out⟩
theorem Toks.nl : Toks true [10] []:=fun r k out _=>⟨1,[],rfl,by rw[List.append_nil]; exact uCg J r k out⟩
theorem Toks.join {α : Type} {f : α→List UInt8} {g : α→List Tk} : ∀ {l : List α},(∀ x ∈ l,Toks false (f x) (g x))→Toks false (Lib.join (l.map f) [44,32]) (uBR (l.map g))
 | [],_=>Toks.nil.weak
 | x :: l,h=>by
  have tail : ∀ {l : List α},(∀ x ∈ l,Toks false (f x) (g x))→Toks false (Lib.joinTail [44,32] (l.map f)) ((l.map g).map fun y=>syT 44 :: y).flatten∧(l=[]∨Fr (Lib.joinTail [44,32] (l.map f))):=by
   intro l
   induction l with
   | nil=>exact fun _=>⟨Toks.nil.weak, .inl J⟩
   | cons y l ih =>
    intro h
    have e : Lib.joinTail [44,32] ((y :: l).map f)=([44]++[32])++(f y++Lib.joinTail [44,32] (l.map f)):=by simp [Lib.joinTail]
    have e2 : (((y :: l).map g).map fun y=>syT 44 :: y).flatten=([syT 44]++[])++(g y++((l.map g).map fun y=>syT 44 :: y).flatten):=by simp
    obtain ⟨i1,i2⟩:=ih fun z hz=>h z (by simp [hz])
    rw[e,e2]
    refine ⟨((Toks.sym (by decide)).app Toks.sp (.inl J)).app ?_ (.inl J), .inr ⟨by simp,by simp; decide⟩⟩
    rcases i2 with q | q
    ·subst q
     simp only [List.map_nil,List.flatten_nil,List.append_nil,Lib.joinTail,List.flatMap_nil]
     exact h y (by simp)
    ·exact (h y (by simp)).app i1 (.inr q)
  rw[List.map_cons,List.map_cons,Lib.join_cons]
  obtain ⟨i1,i2⟩:=tail (l:=l) fun z hz=>h z (by simp [hz])
  show Toks false _ (g x++_)
  rcases i2 with q | q
  ·subst q
   simp only [List.map_nil,List.flatten_nil,List.append_nil,Lib.joinTail,List.flatMap_nil]
   exact h x (by simp)
  ·exact (h x (by simp)).app i1 (.inr q)
mutual
def gdB : T→Bool
 | .mk k n s ks=>decide (s=0) && E4 n && ((decide (k=2) && ks.isEmpty) || decide (k=3)) && gdBs ks
def gdBs : List T→Bool
 | []=>true
 | t :: ts=>gdB t && gdBs ts
end
theorem Yw (t : T) : gdB t=(decide (t.sort=0) && E4 t.name && ((decide (t.kind=2) && t.kids.isEmpty) || decide (t.kind=3)) && gdBs t.kids):=by cases t; rw[gdB]; rfl
theorem Pw : ∀ {l : List T},gdBs l=true → ∀ x ∈ l,gdB x=true
 | [],_,x,h=>by simp at h
 | y :: l,h,x,hx=>by
  rw[gdBs,Bool.and_eq_true] at h
  rcases List.mem_cons.1 hx with q | q
  ·subst q; exact h.1
  ·exact Pw h.2 x q
mutual
theorem uBu : ∀ (t : T),t.nodesE=0→rawE E4 t=0→gdB t=true
 | .mk k n s ks,h1,h2=>by
  rw[T.nodesE] at h1
  rw[rawE] at h2
  rw[gdB]
  split at h1
  ·rename_i hz; exact absurd h1 hz
  ·rename_i hz
   have hz:=Decidable.not_not.1 hz
   split at h2
   ·simp at h2
   ·rename_i hk
    split at h2
    ·simp at h2
    ·rename_i hn
     rw[uAa ks h1 h2]
     unfold N0 at hz
     split at hz
     ·rename_i hq
      have q1 : (k=1∨k=2)∧0≤s∧s≤5∧ks.length=0∨k=3∧s=0:=hq
      have hn : E4 n=true:=by simpa using hn
      rw[hn]
      simp only [Bool.and_true,Bool.and_eq_true,Bool.or_eq_true,decide_eq_true_eq,List.isEmpty_iff]
      refine ⟨by omega,?_⟩
      rcases q1 with ⟨q,_,_,q2⟩ | ⟨q,_⟩
      ·exact .inl ⟨by omega,List.length_eq_zero_iff.1 q2⟩
      ·exact .inr q
     ·simp at hz
theorem uAa : ∀ (ts : List T),T.nodesEs ts=0→Cp E4 ts=0→gdBs ts=true
 | [],_,_=>rfl
 | t :: ts,h1,h2=>by
  rw[T.nodesEs] at h1
  rw[Cp] at h2
  rw[gdBs]
  split at h1
  ·rename_i hz; exact absurd h1 hz
  ·rename_i hz
   split at h2
   ·rename_i hy; exact absurd h2 hy
   ·rename_i hy
    rw[uBu t (Decidable.not_not.1 hz) (Decidable.not_not.1 hy),uAa ts h1 h2]; rfl
end
theorem Yi {t : T} (h : Z9 E4 t=0) : gdB t=true:=by
 unfold Z9 at h
 split at h
 ·rename_i hz; exact absurd h hz
 ·rename_i hz
  have hz:=Decidable.not_not.1 hz
  unfold U6 at hz
  split at hz
  ·rename_i hy; exact absurd hz hy
  ·rename_i hy; exact uBu t (Decidable.not_not.1 hy) h
def At (l : List Tk) (p : PS) (ts : List Tk) : Prop:=p.bad=false∧p.at'≤l.length∧l.drop p.at'=ts
theorem At.cons {l : List Tk} {p : PS} {t : Tk} {ts : List Tk} (h : At l p (t :: ts)) : p.at' < l.length∧l.getD p.at' tk0=t∧At l p.go ts:=by
 obtain ⟨h1,h2,h3⟩:=h
 have hlt : p.at' < l.length:=by
  rcases Nat.lt_or_ge p.at' l.length with q | q
  ·exact q
  ·rw[List.drop_of_length_le q] at h3; cases h3
 rw[Lr (d:=tk0) hlt] at h3
 simp only [List.cons.injEq] at h3
 exact ⟨hlt,h3.1,h1,hlt,h3.2⟩
theorem At.len {l : List Tk} {p : PS} {ts : List Tk} (h : At l p ts) : ts.length + p.at'=l.length:=by
 obtain ⟨h1,h2,h3⟩:=h
 rw[← h3,List.length_drop]; omega
theorem At.good {l : List Tk} {p : PS} {ts : List Tk} (h : At l p ts) : p.bad=false:=h.1
def Pln (ts : List Tk) : Prop:=∀ t ∈ ts,t.int=0∧t.str=[]∧t.line=0
theorem Pln.nil : Pln []:=by intro t h; simp at h
theorem Pln.app {a b : List Tk} (h : Pln a) (h' : Pln b) : Pln (a++b):=fun t ht=>(List.mem_append.1 ht).elim (h t) (h' t)
theorem Pln.nm (w : List UInt8) : Pln [nmT w]:=by intro t h; simp at h; subst h; exact ⟨rfl,rfl,rfl⟩
theorem Pln.cons {t : Tk} {ts : List Tk} (h : Pln [t]) (h' : Pln ts) : Pln (t :: ts):=h.app (a:=[t]) h'
theorem Pln.right {a b : List Tk} (h : Pln (a++b)) : Pln b:=fun t ht=>h t (by simp [ht])
theorem Pln.tail {a : Tk} {b : List Tk} (h : Pln (a :: b)) : Pln b:=fun t ht=>h t (by simp [ht])
def Stop (ts : List Tk) : Prop:=∀ r,ts≠syT 40 :: r
def Sp.el (s : Sp) : Sp:={ s with line:=0 }
def Gl.el (g : Gl) : Gl:={ g with line:=0 }
def Nar.el (n : Nar) : Nar:={ n with steps:=n.steps.map Sp.el,goals:=n.goals.map Gl.el }
inductive Itm where
 | roles (l : List (List UInt8))
 | fresh (role : List UInt8) (l : List (List UInt8 × Int))
 | tags (l : List (List UInt8))
 | step (s : Sp)
 | goal (g : Gl)
def uAk (k : Int) : List UInt8:=sortW.getD (k - 2).toNat []
def uAF (k : Int) : List UInt8:=kindW.getD (k - 1).toNat []
def fsW (f : List UInt8 × Int) : List UInt8:=f.1++([32]++uAk f.2)
def Itm.text : Itm→List UInt8
 | .roles l=>hRole++(Lib.join l [44,32]++[59])
 | .fresh r l=>hFresh++(r++([58,32]++(Lib.join (l.map fsW) [44,32]++[59])))
 | .tags l=>hTag++(Lib.join l [44,32]++[59])
 | .step s=>hMsg++(s.frm++(arrow++(s.dst++([58,32]++(U8 s.msg++[59])))))
 | .goal g=>hGoal++(uAF g.kind++([32]++(g.role++((if I8 g.kind=true then [32]++g.wth else [])++([58,32]++(Ak g.data++[59]))))))
def Itm.ok : Itm→Prop
 | .roles l=>l≠[] ∧ ∀ w ∈ l,E4 w=true
 | .fresh r l=>E4 r=true∧l≠[] ∧ ∀ f ∈ l,E4 f.1=true∧2≤f.2∧f.2≤4
 | .tags l=>l≠[] ∧ ∀ w ∈ l,E4 w=true
 | .step s=>E4 s.frm=true∧E4 s.dst=true∧gdB s.msg=true
 | .goal g=>1≤g.kind∧g.kind≤5∧E4 g.role=true∧(I8 g.kind=true→E4 g.wth=true)∧(I8 g.kind=false→g.wth=[])∧g.data≠[] ∧ ∀ t ∈ g.data,gdB t=true
def Itm.more (f : List UInt8 × Int) : Itm→Itm
 | .fresh r l=>.fresh r (l++[f])
 | i=>i
def glue (f : List UInt8 × Int) : List Itm→List Itm
 | []=>[]
 | [i]=>[i.more f]
 | i :: j :: r=>i :: glue f (j :: r)
theorem Ex (f : List UInt8 × Int) (r : List UInt8) (l : List (List UInt8 × Int)) : ∀ I : List Itm,glue f (I++[.fresh r l])=I++[.fresh r (l++[f])]
 | []=>rfl
 | [i]=>rfl
 | i :: j :: I=>by
  have ih:=Ex f r l (j :: I)
  rw[List.cons_append,List.cons_append] at ih
  rw[List.cons_append,List.cons_append,glue,ih]
  rfl
def Je (fs : List Fs) (k : Nat) : Prop:=0 < k∧(fs.getD (k - 1) default).role=(fs.getD k default).role
instance (fs : List Fs) (k : Nat) : Decidable (Je fs k):=by unfold Je; infer_instance
def Fs.pr (f : Fs) : List UInt8 × Int:=(f.name,f.sort)
def frI (fs : List Fs) : Nat→List Itm
 | 0=>[]
 | k + 1=>if Je fs k then glue (fs.getD k default).pr (frI fs k) else frI fs k++[.fresh (fs.getD k default).role [(fs.getD k default).pr]]
theorem Oe (fs : List Fs) : ∀ k,0 < k → ∃ I l,l≠[]∧frI fs k=I++[.fresh (fs.getD (k - 1) default).role l]
 | 0,h=>by omega
 | k + 1,_=>by
  rw[frI,Nat.add_sub_cancel]
  split
  ·rename_i hs
   obtain ⟨I,l,h1,h2⟩:=Oe fs k hs.1
   rw[h2,Ex,hs.2]
   exact ⟨I,_,by simp,rfl⟩
  ·exact ⟨_,_,by simp,rfl⟩
theorem Ol {fs : List Fs} {k : Nat} (hs : Je fs k) : ∃ I l,l≠[]∧frI fs k=I++[.fresh (fs.getD k default).role l]∧frI fs (k + 1)=I++[.fresh (fs.getD k default).role (l++[(fs.getD k default).pr])]:=by
 obtain ⟨I,l,h1,h2⟩:=Oe fs k hs.1
 rw[hs.2] at h2
 exact ⟨I,l,h1,h2,by rw[frI,if_pos hs,h2,Ex]⟩
theorem Um {fs : List Fs} {k : Nat} (hs : ¬Je fs k) : frI fs (k + 1)=frI fs k++[.fresh (fs.getD k default).role [(fs.getD k default).pr]]:=by rw[frI,if_neg hs]
theorem Vi (fs : List Fs) : ∀ k,(frI fs k).length≤k
 | 0=>by simp [frI]
 | k + 1=>by
  have ih:=Vi fs k
  by_cases hs : Je fs k
  ·obtain ⟨I,l,_,h2,h3⟩:=Ol hs
   rw[h2] at ih
   rw[h3]
   simp only [List.length_append,List.length_singleton] at ih ⊢; omega
  ·rw[Um hs]
   simp only [List.length_append,List.length_singleton]; omega
theorem Ys (sep x : List UInt8) : Lib.join [x] sep=x:=by rw[Lib.join_cons]; simp [Lib.joinTail]
def Nar.itms (n : Nar) : List Itm:=[.roles n.roles]++(frI n.fresh n.fresh.length++((if n.tags=[] then [] else [.tags n.tags])++(n.steps.map .step++n.goals.map .goal)))
def Py (n : Nar) : List UInt8:=hProt++(n.name++[32,123])
def Nar.lines (n : Nar) : List (List UInt8):=[Py n]++(n.itms.map Itm.text++[[125]])
def nl (L : List (List UInt8)) : List UInt8:=(L.map fun s=>s++[10]).flatten
theorem uB7 (a b : List (List UInt8)) : nl (a++b)=nl a++nl b:=by simp [nl]
theorem Ut : ∀ L : List (List UInt8),L≠[]→Lib.join L [10]++[10]=nl L
 | [],h=>absurd J h
 | [x],_=>by rw[Ys]; simp [nl]
 | x :: y :: L,_=>by
  have ih:=Ut (y :: L) (by simp)
  have e : Lib.join (x :: y :: L) [10]=x++([10]++Lib.join (y :: L) [10]):=by
   rw[Lib.join_cons,Lib.join_cons]; simp [Lib.joinTail]
  have e2 : nl (x :: y :: L)=x++([10]++nl (y :: L)):=by simp [nl]
  rw[e,e2,← ih]; simp
def Nar.text (n : Nar) : List UInt8:=Lib.join n.lines [10]++[10]
theorem Nar.text_eq (n : Nar) : n.text=nl n.lines:=Ut _ (by simp [Nar.lines])
structure MsgOk (t : T) : Prop where
 raw : Z9 E4 t=0
 size : t.size≤40
structure GlOk (g : Gl) : Prop where
 k1 : 1≤g.kind
 k2 : g.kind≤5
 role : E4 g.role=true
 w1 : I8 g.kind=true→E4 g.wth=true
 w0 : I8 g.kind=false→g.wth=[]
 d1 : 1≤g.data.length
 d2 : g.data.length≤4
 data : ∀ t ∈ g.data,MsgOk t
structure NarOk (n : Nar) : Prop where
 name : E4 n.name=true
 r1 : 2≤n.roles.length
 r2 : n.roles.length≤4
 roles : ∀ w ∈ n.roles,E4 w=true
 f2 : n.fresh.length≤12
 fresh : ∀ f ∈ n.fresh,E4 f.role=true∧E4 f.name=true∧2≤f.sort∧f.sort≤4
 t2 : n.tags.length≤8
 tags : ∀ w ∈ n.tags,E4 w=true
 s1 : 1≤n.steps.length
 s2 : n.steps.length≤8
 steps : ∀ s ∈ n.steps,E4 s.frm=true∧E4 s.dst=true∧MsgOk s.msg
 g2 : n.goals.length≤8
 goals : ∀ g ∈ n.goals,GlOk g
theorem uAE {t : T} (h : msgE E4 t=0) : MsgOk t:=by
 unfold msgE at h
 split at h
 ·rename_i hz; exact absurd h hz
 ·rename_i hz
  split at h
  ·simp at h
  ·exact ⟨Decidable.not_not.1 hz,by omega⟩
theorem uAV {g : Gl} (h : N9 E4 g=0) : GlOk g:=by
 unfold N9 at h
 split at h
 ·simp at h
 rename_i h1
 split at h
 ·simp at h
 rename_i h2
 split at h
 ·simp at h
 rename_i h3
 split at h
 ·simp at h
 rename_i h4
 have h5:=errs_zero.1 h
 refine ⟨by omega,by omega,?_,fun ha=>?_,fun ha=>?_,?_,?_,fun t ht=>uAE (h5 t ht)⟩
 ·cases hz : E4 g.role with
  | true=>rfl
  | false=>exact absurd (.inl hz) h2
 ·cases hz : E4 g.wth with
  | true=>rfl
  | false=>exact absurd (.inr ⟨ha,hz⟩) h2
 ·exact Decidable.byContradiction fun q=>h3 ⟨ha,q⟩
 ·cases ha : I8 g.kind with
  | true=>exact Decidable.byContradiction fun q=>h4 (.inl ⟨ha,by omega⟩)
  | false=>exact Decidable.byContradiction fun q=>h4 (.inr ⟨ha,by omega⟩)
 ·cases ha : I8 g.kind with
  | true=>exact Decidable.byContradiction fun q=>h4 (.inl ⟨ha,by omega⟩)
  | false=>exact Decidable.byContradiction fun q=>h4 (.inr ⟨ha,by omega⟩)
theorem uBG {n : Nar} (h : cntE n=0) : 2≤n.roles.length∧n.roles.length≤4∧n.fresh.length≤12∧n.tags.length≤8∧1≤n.steps.length∧n.steps.length≤8∧n.goals.length≤8:=by
 unfold cntE at h
 repeat' split at h
 all_goals first
  | (simp at h; done)
  | omega
theorem Mh {n : Nar} (h : narE E4 n=0) : NarOk n:=by
 unfold narE at h
 split at h
 ·rename_i hz; exact absurd h hz
 rename_i h1
 split at h
 ·rename_i hz; exact absurd h hz
 rename_i h2
 have h1:=Decidable.not_not.1 h1
 have h2:=errs_zero.1 (Decidable.not_not.1 h2)
 have h3:=errs_zero.1 h
 unfold Z6 at h1
 split at h1
 ·simp at h1
 rename_i a1
 split at h1
 ·rename_i hz; exact absurd h1 hz
 rename_i a2
 split at h1
 ·simp at h1
 rename_i a3
 split at h1
 ·rename_i hz; exact absurd h1 hz
 rename_i a4
 split at h1
 ·simp at h1
 rename_i a5
 obtain ⟨c1,c2,c3,c4,c5,c6,c7⟩:=uBG (Decidable.not_not.1 a2)
 have a4:=errs_zero.1 (Decidable.not_not.1 a4)
 refine ⟨by simpa using a1,c1,c2,fun w hw=>List.all_eq_true.1 (by simpa using a3) w hw,c3,fun f hf=>?_,c4,fun w hw=>List.all_eq_true.1 (by simpa using a5) w hw,c5,c6,fun s hs=>?_,c7,fun g hg=>uAV (h3 g hg)⟩
 ·have := a4 f hf
  unfold frE at this
  split at this
  ·simp at this
  rename_i q
  split at this
  ·simp at this
  ·refine ⟨?_,?_,by omega,by omega⟩
   ·cases hz : E4 f.role with
    | true=>rfl
    | false=>exact absurd (.inl hz) q
   ·cases hz : E4 f.name with
    | true=>rfl
    | false=>exact absurd (.inr hz) q
 ·have := h2 s hs
  unfold spE at this
  split at this
  ·simp at this
  rename_i q
  refine ⟨?_,?_,uAE this⟩
  ·cases hz : E4 s.frm with
   | true=>rfl
   | false=>exact absurd (.inl hz) q
  ·cases hz : E4 s.dst with
   | true=>rfl
   | false=>exact absurd (.inr hz) q
theorem Bb {w : List UInt8} (h : E4 w=true) : w.length≤24:=(Iz h).2.2.2
theorem MsgOk.ok {t : T} (h : MsgOk t) : okB t=true:=(uBP h.raw).1
theorem MsgOk.len {t : T} (h : MsgOk t) : (U8 t).length≤1120 := by have := Tu h.ok; have := h.size; omega
theorem Rn : ∀ {l : List T} {M : Nat},(∀ t ∈ l,t.size≤M)→T.sizes l≤M * l.length
 | [],M,_=>by simp [T.sizes]
 | t :: l,M,h=>by
  have h1:=h t (by simp)
  have h2:=Rn (M:=M) fun x hx=>h x (List.mem_cons_of_mem t hx)
  rw[T.sizes,List.length_cons,Nat.mul_succ]; omega
theorem GlOk.sizes {g : Gl} (h : GlOk g) : T.sizes g.data≤160:=by
 have := Rn (M := 40) fun t ht=>(h.data t ht).size
 have := h.d2; omega
theorem GlOk.oks {g : Gl} (h : GlOk g) : ∀ t ∈ g.data,okB t=true:=fun t ht=>(h.data t ht).ok
theorem GlOk.len {g : Gl} (h : GlOk g) : (Ak g.data).length≤4480 := by have := Zl h.oks; have := h.sizes; omega
theorem GlOk.wth {g : Gl} (h : GlOk g) : g.wth.length≤24:=by
 cases ha : I8 g.kind with
 | true=>exact Bb (h.w1 ha)
 | false=>rw[h.w0 ha]; simp
theorem Mn (fs : List Fs) : ∀ k,k≤fs.length → ∀ i ∈ frI fs k,∃ r l,i = .fresh r l∧l≠[]∧l.length≤k ∧ ∀ p ∈ l,∃ f ∈ fs,p=f.pr∧f.role=r
 | 0,_,i,h=>by simp [frI] at h
 | k + 1,hk,i,h=>by
  have ih:=Mn fs k (by omega)
  have hm : fs.getD k default ∈ fs:=by
   rw[List.getD_eq_getElem?_getD,List.getElem?_eq_getElem (by omega)]; exact List.getElem_mem _
  by_cases hs : Je fs k
  ·obtain ⟨I,l,_,h2,h3⟩:=Ol hs
   rw[h3] at h
   rw[h2] at ih
   rcases List.mem_append.1 h with q | q
   ·obtain ⟨r,l',e1,e2,e3,e4⟩:=ih i (by simp [q])
    exact ⟨r,l',e1,e2,by omega,e4⟩
   ·obtain ⟨r,l',e1,e2,e3,e4⟩:=ih _ (List.mem_append.2 (.inr (List.mem_singleton.2 rfl)))
    simp only [Itm.fresh.injEq] at e1
    obtain ⟨rfl,rfl⟩:=e1
    refine ⟨_,_,List.mem_singleton.1 q,by simp,by simp only [List.length_append,List.length_singleton]; omega,fun p hp=>?_⟩
    rcases List.mem_append.1 hp with z | z
    ·exact e4 p z
    ·exact ⟨_,hm,List.mem_singleton.1 z,rfl⟩
  ·rw[Um hs] at h
   rcases List.mem_append.1 h with q | q
   ·obtain ⟨r,l',e1,e2,e3,e4⟩:=ih i q
    exact ⟨r,l',e1,e2,by omega,e4⟩
   ·refine ⟨_,_,List.mem_singleton.1 q,by simp,by simp,fun p hp=>⟨_,hm,List.mem_singleton.1 hp,rfl⟩⟩
def FsOk (fs : List Fs) : Prop:=∀ f ∈ fs,E4 f.role=true∧E4 f.name=true∧2≤f.sort∧f.sort≤4
theorem uBZ {fs : List Fs} (h : FsOk fs) {k : Nat} (hk : k≤fs.length) : ∀ i ∈ frI fs k,i.ok:=by
 intro i hi
 obtain ⟨r,l,rfl,h2,h3,h4⟩:=Mn fs k hk i hi
 refine ⟨?_,h2,fun p hp=>?_⟩
 ·obtain ⟨p,q,rfl⟩ : ∃ p q,l=p :: q:=by
   cases l with
   | nil=>exact absurd J h2
   | cons p q=>exact ⟨p,q,rfl⟩
  obtain ⟨f,hf,_,e⟩:=h4 p (by simp)
  rw[← e]; exact (h f hf).1
 ·obtain ⟨f,hf,e,_⟩:=h4 p hp
  subst e
  exact ⟨(h f hf).2.1,(h f hf).2.2.1,(h f hf).2.2.2⟩
theorem uAC {L : List (List UInt8)} {M : Nat} (h : ∀ x ∈ L,x.length≤M) : Bc L≤(M + 2) * L.length:=by
 induction L with
 | nil=>simp [Bc]
 | cons x L ih =>
  have h1:=h x (by simp)
  have h2:=ih fun y hy=>h y (by simp [hy])
  simp only [Bc,List.map_cons,List.sum_cons,List.length_cons,Nat.mul_succ] at h2 ⊢
  omega
theorem Vf {L : List (List UInt8)} {M : Nat} (h : ∀ x ∈ L,x.length≤M) : (Lib.join L [44,32]).length≤(M + 2) * L.length:=Nat.le_trans (Ca L).1 (uAC h)
theorem Xn (k : Int) : (uAk k).length≤5:=by
 unfold uAk
 have : ∀ j : Nat,(sortW.getD j []).length≤5:=by
  intro j
  match j with
  | 0=>decide
  | 1=>decide
  | 2=>decide
  | j + 3=>simp [sortW,List.getD_eq_getElem?_getD]
 exact this _
theorem Zn {fs : List Fs} (h : FsOk fs) {k : Nat} (hk : k≤fs.length) (h12 : fs.length≤12) : ∀ i ∈ frI fs k,i.text.length≤500:=by
 intro i hi
 have ho:=uBZ h hk i hi
 obtain ⟨r,l,rfl,h2,h3,h4⟩:=Mn fs k hk i hi
 obtain ⟨o1,o2,o3⟩:=ho
 have h5:=Bb o1
 have h6 : (Lib.join (l.map fsW) [44,32]).length≤(30 + 2) * l.length:=by
  have := Vf (L := l.map fsW) (M := 30) fun x hx=>by
   obtain ⟨p,hp,rfl⟩:=List.mem_map.1 hx
   have := Bb (o3 p hp).1
   have := Xn p.2
   simp only [fsW,List.length_append,List.length_cons,List.length_nil]; omega
  rwa [List.length_map] at this
 have : hFresh.length=8:=rfl
 simp only [Itm.text,List.length_append,List.length_cons,List.length_nil]
 omega
theorem Ij {l : List (List UInt8)} (h : ∀ w ∈ l,E4 w=true) : (Lib.join l [44,32]).length≤26 * l.length:=Vf fun x hx=>Bb (h x hx)
theorem Xs {s : Sp} (h1 : E4 s.frm=true) (h2 : E4 s.dst=true) (h3 : MsgOk s.msg) : (Itm.step s).text.length≤1300:=by
 have a:=Bb h1
 have b:=Bb h2
 have c:=h3.len
 have : hMsg.length=10:=rfl
 have : arrow.length=4:=rfl
 simp only [Itm.text,List.length_append,List.length_cons,List.length_nil]; omega
theorem Wj (k : Int) : (uAF k).length≤7:=by
 unfold uAF
 have : ∀ j : Nat,(kindW.getD j []).length≤7:=by
  intro j
  match j with
  | 0=>decide
  | 1=>decide
  | 2=>decide
  | 3=>decide
  | 4=>decide
  | j + 5=>simp [kindW,List.getD_eq_getElem?_getD]
 exact this _
theorem Vw {g : Gl} (h : GlOk g) : (Itm.goal g).text.length≤4600:=by
 have a:=Bb h.role
 have b:=h.wth
 have c:=h.len
 have d:=Wj g.kind
 have : hGoal.length=7:=rfl
 simp only [Itm.text,List.length_append,List.length_cons,List.length_nil]
 split <;> (simp only [List.length_append,List.length_cons,List.length_nil]; omega)
theorem uB9 (L : List (List UInt8)) {M : Nat} (h : ∀ x ∈ L,x.length≤M) : (nl L).length≤(M + 1) * L.length:=by
 induction L with
 | nil=>simp [nl]
 | cons x L ih =>
  have h1:=h x (by simp)
  have h2:=ih fun y hy=>h y (by simp [hy])
  have e : nl (x :: L)=x++([10]++nl L):=by simp [nl]
  rw[e]
  simp only [List.length_append,List.length_cons,List.length_nil,Nat.mul_succ]
  omega
theorem Se {α : Type} (f : α→List UInt8) (l : List α) {M : Nat} (h : ∀ x ∈ l,(f x).length≤M) : (nl (l.map f)).length≤(M + 1) * l.length:=by
 have := uB9 (l.map f) (M := M) fun x hx=>by
  obtain ⟨y,hy,rfl⟩:=List.mem_map.1 hx; exact h y hy
 rwa [List.length_map] at this
theorem NarOk.text_len {n : Nar} (h : NarOk n) : n.text.length≤60000:=by
 rw[n.text_eq]
 have e : n.lines=[Py n]++([(Itm.roles n.roles).text]++((frI n.fresh n.fresh.length).map Itm.text++((if n.tags=[] then [] else [.tags n.tags]).map Itm.text++(n.steps.map (fun s=>(Itm.step s).text)++(n.goals.map (fun g=>(Itm.goal g).text)++[[125]]))))):=by
  unfold Nar.lines Nar.itms
  simp [List.map_map,Function.comp_def]
 rw[e]
 simp only [uB7,List.length_append]
 have h1 : (nl [Py n]).length≤60:=by
  have := Bb h.name
  have : hProt.length=9:=rfl
  simp only [nl,Py,List.map_cons,List.map_nil,List.flatten_cons,List.flatten_nil,List.length_append,List.length_cons,List.length_nil]; omega
 have h2 : (nl [(Itm.roles n.roles).text]).length≤200:=by
  have := Ij h.roles
  have := h.r2
  have : hRole.length=7:=rfl
  simp only [nl,Itm.text,List.map_cons,List.map_nil,List.flatten_cons,List.flatten_nil,List.length_append,List.length_cons,List.length_nil]; omega
 have h3:=Se Itm.text (frI n.fresh n.fresh.length) (Zn h.fresh (Nat.le_refl _) h.f2)
 have h3':=Vi n.fresh n.fresh.length
 have h4 : (nl ((if n.tags=[] then [] else [.tags n.tags]).map Itm.text)).length≤300:=by
  split
  ·simp [nl]
  ·have := Ij h.tags
   have := h.t2
   have : hTag.length=6:=rfl
   simp only [nl,Itm.text,List.map_cons,List.map_nil,List.flatten_cons,List.flatten_nil,List.length_append,List.length_cons,List.length_nil]; omega
 have h5:=Se (fun s=>(Itm.step s).text) n.steps (M:=1300) fun s hs=>by
  obtain ⟨s1,s2,s3⟩:=h.steps s hs
  exact Xs s1 s2 s3
 have h6:=Se (fun g=>(Itm.goal g).text) n.goals (M:=4600) fun g hg=>Vw (h.goals g hg)
 have h7 : (nl [[125]]).length=2:=rfl
 have := h.f2
 have := h.s2
 have := h.g2
 omega
theorem sagree_iff {k : Int} : I8 k=true ↔ k=2∨k=3:=by simp [I8]
theorem Sx (n : Nar) (b : Nat) (g : Gl) (hg : T.sizes g.data≤900000) : Ctr (sys.add b (mapL (nmsL n))) 42 [xtb n.roles (.map (some b)),xg g] [] (xi (P6 n g)) none []:=by
 have hr:=T.rows_len g.data
 have hls:=T.len_sizes g.data
 refine D1 Tryz.func42 J J J J J J ?_;refine A8 (A6 ?_);refine C3 J (D8 J J J J) ?_;refine C3 J (D8 J J J J) ?_;refine A5 J J J (A9 J gU) ?_;refine B0 ?_;refine A8 ?_;refine A8 (A6 ?_);refine A5 J J J (B1 J gU J J) ?_;refine A5 J J J (B2 J gU J J J J) ?_;refine A5 J J J (B1 J gU J J) ?_;refine A5 J J J (B2 J gU J J J J) ?_;refine C8 J J J J J J gU gU (Ctr.add (O3 _ _)) J ?_;refine A5 J J J (F8 J gU) ?_;refine B0 ?_;refine B5 (s:=⟨[(2,_,_),(3,_,_),(14,_,_)],[(.l 2,_),(.l 3,_)],[],[]⟩) (B4 (⟨U J,U J,U J,O⟩) (⟨U J,U J,O⟩) O) ?_;refine B9 J (fun hc=>?_) (fun hc=>?_)
 ·try simp only [nn,B3,nq] at hc
  refine A8 (A6 ?_);refine A5 J J J (A9 J gU) ?_;refine B0 ?_;refine C1 ?_
  repeat(first|refine tR ?_|refine bR ?_)
  refine C5 J ?_ O
  (rw[P6,if_pos hc]; rfl)
 ·try simp only [nn,B3,nq] at hc
  have c1 : ¬ n.roles.contains g.role=false:=by rw[hc]; simp
  refine C0 ?_;refine A8 ?_;refine A8 (A6 ?_);refine A5 J J J (B1 J gU J J) ?_;refine A5 J J J (B2 J gU J J J J) ?_;refine A5 J J J (B7 J J gU gU J) ?_;refine A5 J J J (A7 J gU) ?_;refine A5 J J J (B1 J gU J J) ?_;refine A5 J J J (B2 J (fun hh=>hh) J J J J) ?_;refine A5 J J J (B7 J J (fun hh=>hh) gU J) ?_;refine A5 J J J (E5 J J gU (fun _ hi=>gP J hi)) ?_;refine B0 ?_;refine B5 (s:=⟨[(2,_,_),(3,_,_),(22,_,_)],[(.l 2,_),(.l 3,_)],[],[]⟩) (B4 (⟨U J,U J,U J,O⟩) (⟨U J,U J,O⟩) O) ?_;refine B9 J (fun hc2=>?_) (fun hc2=>?_)
  ·try simp only [nn,B3,nq] at hc2
   have ha : I8 g.kind=true:=sagree_iff.2 hc2
   refine A8 (A6 ?_);refine A5 J J J (B8 J gU J J J J J) ?_;refine A5 J J J (B1 J gU J J) ?_;refine A5 J J J (B2 J gU J J J J) ?_;refine A5 J J J (B1 J gU J J) ?_;refine A5 J J J (B2 J gU J J J J) ?_;refine C8 J J J J J J gU gU (Ctr.add (Lo _ _ _ _)) J ?_;refine A5 J J J (A9 J gU) ?_;refine B0 ?_;refine B5 (s:=⟨[(2,_,_),(3,_,_),(5,_,_)],[(.l 2,_),(.l 3,_)],[],[]⟩) (B4 (⟨U J,U J,U J,O⟩) (⟨U J,U J,O⟩) O) ?_;refine A8 (A6 ?_);refine A5 J J J (A7 J gU) ?_;refine A5 J J J (B7 J J gU gU J) ?_;refine B0 ?_;refine B9 J (fun hc3=>?_) (fun hc3=>?_)
   ·try simp only [nn,B3,nq] at hc3
    refine A8 (A6 ?_);refine A5 J J J (A7 J gU) ?_;refine A5 J J J (A9 J gU) ?_;refine B0 ?_;refine C1 ?_
    repeat(first|refine tR ?_|refine bR ?_)
    refine C5 J ?_ O
    (rw[P6,if_neg c1,if_pos ⟨ha,hc3⟩]; rfl)
   ·try simp only [nn,B3,nq] at hc3
    have hE : P6 n g=errs (O1 n.roles (H0 n)) g.data:=by rw[P6,if_neg c1,if_neg (fun q=>q.2 hc3)]
    rw[hE]
    refine C0 ?_;refine A8 ?_;refine A8 (A6 ?_);refine A5 J J J (B1 J gU J J) ?_;refine A5 J J J (B2 J gU J J J J) ?_;refine D9 J J J J J gU J J ?_ (fun hh=>by simp at hh); intro hlen;refine A5 J J J (A7 J gU) ?_;refine B0 ?_;refine B5 (s:=⟨[(2,_,_),(33,_,_),(34,_,_),(35,_,_)],[(.l 2,_)],[],[]⟩) (B4 (⟨U J,U J,U J,U J,O⟩) (⟨U J,O⟩) O) ?_;refine C4 ?_;refine F3 (ι:=Nat) { t:=[(2,_,_),(33,_,_),(34,_,_)],bx:=[(.l 2,_)],ow:=[] } (fun k=>[(35,true,xi (k : Int))]) (fun k=>[]) (fun k=>k≤g.data.length ∧ ∀ j,j < k→O1 n.roles (H0 n) (g.data.getD j default)=0) (fun k=>g.data.length - k) (0) (⟨by omega,fun j hj=>by omega⟩) (B4 (⟨U J,U J,U J,U J,O⟩) (⟨U J,O⟩) O) ?_
    intro k hoka
    dsimp only [List.cons_append,List.nil_append]
    obtain ⟨hk,hi⟩:=hoka
    refine A8 (A6 ?_);refine A5 J J J (B7 J J gU gU J) ?_;refine B0 ?_;refine A8 ?_;refine B9 J (fun hc4=>?_) (fun hc4=>?_)
    ·try simp only [nn,B3,nq] at hc4
     have hlt : k < g.data.length:=by omega
     have hks:=T.getD_size hlt
     have hts:=T.sizes_take_le g.data k
     refine C0 ?_;refine A8 ?_;refine C4 ?_;refine A8 (A6 ?_);refine A5 J J J (C2 J J gU gU J J J (fun hh=>T.rows_at (by first|omega|(simp at hh ⊢; omega)))) ?_;refine A5 J J J (D4 J gU J J J J) ?_;refine C3 J (E1 J J J) ?_;refine C3 J (C7 J J J J J J J) ?_;refine B0 ?_;refine A8 (A6 ?_);refine A5 J J J (B8 J gU J J J J J) ?_;refine A5 J J J (B8 J gU J J J J J) ?_;refine C8 J J J J J J gU gU (Dj n.roles (nmsL n) b _ (g.data.getD k default) (Nat.le_refl _) (by omega)) J ?_;refine A5 J J J (A9 J gU) ?_;refine B0 ?_;refine B5 (s:=⟨[(2,_,_),(8,_,_),(33,_,_),(34,_,_),(35,_,_)],[(.l 2,_)],[],[]⟩) (B4 (⟨U J,U J,U J,U J,U J,O⟩) (⟨U J,O⟩) O) ?_;refine A8 (A6 ?_);refine A5 J J J (A7 J gU) ?_;refine A5 J J J (B7 J J gU gU J) ?_;refine B0 ?_;refine B9 J (fun hc5=>?_) (fun hc5=>?_)
     ·try simp only [nn,B3,nq] at hc5
      refine A8 (A6 ?_);refine A5 J J J (A7 J gU) ?_;refine A5 J J J (A9 J gU) ?_;refine B0 ?_;refine C1 ?_
      repeat(first|refine tR ?_|refine bR ?_)
      refine C5 J ?_ O
      (rw[Z3 hlt hi hc5]; rfl)
     ·try simp only [nn,B3,nq] at hc5
      refine C0 ?_;refine A6 ?_;refine A5 J J J (D0 J J gU gU J (IntWalk.i64_in _ (by omega))) ?_;refine A5 J J J (A7 J gU) ?_;refine B0 ?_;refine ⟨k + 1,?_,?_,B4 (⟨⟨_,rfl,?_⟩,⟨U J,U J,U J,O⟩⟩) (⟨U J,O⟩) O⟩
      all_goals (first|rfl|omega|exact ⟨by omega,Q2 hi hc5⟩)
    ·try simp only [nn,B3,nq] at hc4
     have hke : k=g.data.length:=by omega
     subst hke
     refine E2 ?_
     repeat(first|refine D5 ?_|refine D6 ?_|refine D2 J ?_)
     refine A8 (A6 ?_);refine A5 J J J (A9 J gU) ?_;refine B0 ?_;refine C1 ?_
     repeat(first|refine tR ?_|refine bR ?_)
     refine C5 J ?_ O
     (rw[V9 hi]; rfl)
  ·try simp only [nn,B3,nq] at hc2
   have ha : ¬ I8 g.kind=true := fun q=>by have := sagree_iff.1 q; omega
   have hE : P6 n g=errs (O1 n.roles (H0 n)) g.data:=by rw[P6,if_neg c1,if_neg (fun q=>ha q.1)]
   rw[hE]
   refine C0 ?_;refine A8 ?_;refine A8 (A6 ?_);refine A5 J J J (B1 J gU J J) ?_;refine A5 J J J (B2 J gU J J J J) ?_;refine D9 J J J J J gU J J ?_ (fun hh=>by simp at hh); intro hlen;refine A5 J J J (A7 J gU) ?_;refine B0 ?_;refine C4 ?_;refine F3 (ι:=Nat) { t:=[(2,_,_),(33,_,_),(34,_,_)],bx:=[(.l 2,_)],ow:=[] } (fun k=>[(35,true,xi (k : Int))]) (fun k=>[]) (fun k=>k≤g.data.length ∧ ∀ j,j < k→O1 n.roles (H0 n) (g.data.getD j default)=0) (fun k=>g.data.length - k) (0) (⟨by omega,fun j hj=>by omega⟩) (B4 (⟨U J,U J,U J,U J,O⟩) (⟨U J,O⟩) O) ?_
   intro k hokb
   dsimp only [List.cons_append,List.nil_append]
   obtain ⟨hk,hi⟩:=hokb
   refine A8 (A6 ?_);refine A5 J J J (B7 J J gU gU J) ?_;refine B0 ?_;refine A8 ?_;refine B9 J (fun hc4=>?_) (fun hc4=>?_)
   ·try simp only [nn,B3,nq] at hc4
    have hlt : k < g.data.length:=by omega
    have hks:=T.getD_size hlt
    have hts:=T.sizes_take_le g.data k
    refine C0 ?_;refine A8 ?_;refine C4 ?_;refine A8 (A6 ?_);refine A5 J J J (C2 J J gU gU J J J (fun hh=>T.rows_at (by first|omega|(simp at hh ⊢; omega)))) ?_;refine A5 J J J (D4 J gU J J J J) ?_;refine C3 J (E1 J J J) ?_;refine C3 J (C7 J J J J J J J) ?_;refine B0 ?_;refine A8 (A6 ?_);refine A5 J J J (B8 J gU J J J J J) ?_;refine A5 J J J (B8 J gU J J J J J) ?_;refine C8 J J J J J J gU gU (Dj n.roles (nmsL n) b _ (g.data.getD k default) (Nat.le_refl _) (by omega)) J ?_;refine A5 J J J (A9 J gU) ?_;refine B0 ?_;refine B5 (s:=⟨[(2,_,_),(8,_,_),(33,_,_),(34,_,_),(35,_,_)],[(.l 2,_)],[],[]⟩) (B4 (⟨U J,U J,U J,U J,U J,O⟩) (⟨U J,O⟩) O) ?_;refine A8 (A6 ?_);refine A5 J J J (A7 J gU) ?_;refine A5 J J J (B7 J J gU gU J) ?_;refine B0 ?_;refine B9 J (fun hc5=>?_) (fun hc5=>?_)
    ·try simp only [nn,B3,nq] at hc5
     refine A8 (A6 ?_);refine A5 J J J (A7 J gU) ?_;refine A5 J J J (A9 J gU) ?_;refine B0 ?_;refine C1 ?_
     repeat(first|refine tR ?_|refine bR ?_)
     refine C5 J ?_ O
     (rw[Z3 hlt hi hc5]; rfl)
    ·try simp only [nn,B3,nq] at hc5
     refine C0 ?_;refine A6 ?_;refine A5 J J J (D0 J J gU gU J (IntWalk.i64_in _ (by omega))) ?_;refine A5 J J J (A7 J gU) ?_;refine B0 ?_;refine ⟨k + 1,?_,?_,B4 (⟨⟨_,rfl,?_⟩,⟨U J,U J,U J,O⟩⟩) (⟨U J,O⟩) O⟩
     all_goals (first|rfl|omega|exact ⟨by omega,Q2 hi hc5⟩)
   ·try simp only [nn,B3,nq] at hc4
    have hke : k=g.data.length:=by omega
    subst hke
    refine E2 ?_
    repeat(first|refine D5 ?_|refine D6 ?_|refine D2 J ?_)
    refine A8 (A6 ?_);refine A5 J J J (A9 J gU) ?_;refine B0 ?_;refine C1 ?_
    repeat(first|refine tR ?_|refine bR ?_)
    refine C5 J ?_ O
    (rw[V9 hi]; rfl)
abbrev xii (r : Int × Int) : X:=.tup [.c (.i .i64 r.1), .c (.i .i64 r.2)]
set_option maxHeartbeats 4000000 in
theorem P4 (n : Nar) (hs : ∀ s ∈ n.steps,s.msg.size≤900000) (hg : ∀ g ∈ n.goals,T.sizes g.data≤900000) : Ctr sys 13 [xn n] [] (xii (chkE E4 n)) none []:=by
 have l5:=Sp.rows_len n.steps
 have l6:=Gl.rows_len n.goals
 refine D1 Tryz.func13 J J J J J J ?_;refine A8 (A6 ?_);refine C3 J (D8 J J J J) ?_;refine A5 J J J (A9 J gU) ?_;refine A5 J J J (A9 J gU) ?_;refine B0 ?_;refine A8 ?_;refine A8 (A6 ?_);refine A5 J J J (B8 J gU J J J J J) ?_;refine C8 J J J J J J gU gU (Tc _ hs hg) J ?_;refine A5 J J J (A9 J gU) ?_;refine B0 ?_;refine B5 (s:=⟨[(1,_,_),(4,_,_)],[(.l 1,_)],[],[]⟩) (B4 (⟨U J,U J,O⟩) (⟨U J,O⟩) O) ?_;refine A8 (A6 ?_);refine A5 J J J (A7 J gU) ?_;refine A5 J J J (B7 J J gU gU J) ?_;refine B0 ?_;refine B9 J (fun hc=>?_) (fun hc=>?_)
 ·try simp only [nn,B3,nq] at hc
  refine A8 (A6 ?_);refine A5 J J J (A7 J gU) ?_;refine A5 J J J (A9 J gU) ?_;refine A5 J J J (A9 J gU) ?_;refine B0 ?_;refine C1 ?_
  repeat(first|refine tR ?_|refine bR ?_)
  refine C5 J ?_ O
  (rw[chkE,if_pos hc]; rfl)
 ·try simp only [nn,B3,nq] at hc
  have hok:=Mh (n:=n) hc
  have e1 : chkE E4 n=if decE n≠0 then (0,decE n) else useE n:=by rw[chkE,if_neg (by simpa using hc)]
  rw[e1]
  refine C0 ?_;refine A8 ?_;refine A8 (A6 ?_);refine A5 J J J (B8 J gU J J J J J) ?_;refine C8 J J J J J J gU gU (Jw n (by have := hok.r2; omega) (by have := hok.f2; omega) (by have := hok.t2; omega)) J ?_;refine A5 J J J (A9 J gU) ?_;refine B0 ?_;refine B5 (s := ⟨[(1,_,_),(5,_,_)],[(.l 1,_)],[],[]⟩) (B4 (⟨U J,U J,O⟩) (⟨U J,O⟩) O) ?_;refine A8 (A6 ?_);refine A5 J J J (A7 J gU) ?_;refine A5 J J J (B7 J J gU gU J) ?_;refine B0 ?_;refine B9 J (fun hc2=>?_) (fun hc2=>?_)
  ·try simp only [nn,B3,nq] at hc2
   refine A8 (A6 ?_);refine A5 J J J (A7 J gU) ?_;refine A5 J J J (A9 J gU) ?_;refine A5 J J J (A9 J gU) ?_;refine B0 ?_;refine C1 ?_
   repeat(first|refine tR ?_|refine bR ?_)
   refine C5 J ?_ O
   (rw[if_pos hc2]; rfl)
  ·try simp only [nn,B3,nq] at hc2
   rw[if_neg (by simpa using hc2)]
   refine C0 ?_;refine A8 (A6 ?_);refine A5 J J J (B8 J gU J J J J J) ?_;refine Hs J J J J J J (Bq n) (fun _=>rfl) (fun bm=>?_);refine C3 J (E1 J J J) ?_;refine C3 J (C7 J J J J J J J) ?_;refine B0 ?_;refine B5 (s:={ t:=[(1,_,_),(6,_,_)],bx:=[(.l 1,_),(.l 6,_)],ow:=[],mp:=_ }) (B4 (⟨U J,U J,O⟩) (⟨U J,U J,O⟩) O (.inr J)) ?_;refine A8 ?_;refine A8 (A6 ?_);refine A5 J J J (B1 J gU J J) ?_;refine A5 J J J (B2 J gU J J J J) ?_;refine D9 J J J J J gU J J ?_ (fun hh=>by simp at hh); intro hlen;refine A5 J J J (A7 J gU) ?_;refine B0 ?_;refine C4 ?_;refine F3 (ι:=Nat) { t:=[(1,_,_),(6,_,_),(26,_,_),(27,_,_)],bx:=[(.l 1,_),(.l 6,_)],ow:=[],mp:=_ } (fun k=>[(28,true,xi (k : Int))]) (fun k=>[]) (fun k=>k≤n.steps.length ∧ ∀ j,j < k→T9 n (n.steps.getD j default)=0) (fun k=>n.steps.length - k) (0) (⟨by omega,fun j hj=>by omega⟩) (B4 (⟨U J,U J,U J,U J,U J,O⟩) (⟨U J,U J,O⟩) O (.inr J)) ?_
   intro k hoka
   dsimp only [List.cons_append,List.nil_append]
   obtain ⟨hk,hi⟩:=hoka
   refine A8 (A6 ?_);refine A5 J J J (B7 J J gU gU J) ?_;refine B0 ?_;refine A8 ?_;refine B9 J (fun hc3=>?_) (fun hc3=>?_)
   ·try simp only [nn,B3,nq] at hc3
    have hlt : k < n.steps.length:=by omega
    have hks:=hs _ (J5 (d:=default) hlt)
    have hhit : T9 n (n.steps.getD k default)≠0→useE n=((n.steps.getD k default).line,T9 n (n.steps.getD k default)):=fun q=>by
     have := Gr (ln := Sp.line) hlt hi q
     rw[useE,if_pos (by rw[this]; exact q),this]
    refine C0 ?_;refine A8 ?_;refine C4 ?_;refine A8 (A6 ?_);refine A5 J J J (C2 J J gU gU J J J (fun hh=>Sp.rows_at (by first|omega|(simp at hh ⊢; omega)))) ?_;refine A5 J J J (D4 J gU J J J J) ?_;refine C3 J (E1 J J J) ?_;refine C3 J (C7 J J J J J J J) ?_;refine B0 ?_;refine A8 (A6 ?_);refine A5 J J J (B8 J gU J J J J J) ?_;refine A5 J J J (B1 J gU J J) ?_;refine A5 J J J (B2 J gU J J J J) ?_;refine A5 J J J (B1 J gU J J) ?_;refine A5 J J J (B2 J gU J J J J) ?_;refine C8 J J J J J J gU gU (Lo _ _ _ _) J ?_;refine A5 J J J (A9 J gU) ?_;refine B0 ?_;refine B5 (s:={ t:=[(1,_,_),(6,_,_),(8,_,_),(9,_,_),(26,_,_),(27,_,_),(28,_,_)],bx:=[(.l 1,_),(.l 6,_),(.l 8,_)],ow:=[],mp:=_ }) (B4 (⟨U J,U J,U J,U J,U J,U J,U J,O⟩) (⟨U J,U J,U J,O⟩) O (.inr J)) ?_;refine A8 ?_;refine A8 (A6 ?_);refine A5 J J J (A7 J gU) ?_;refine A5 J J J (B7 J J gU gU J) ?_;refine B0 ?_;refine B9 J (fun hc4=>?_) (fun hc4=>?_)
    ·try simp only [nn,B3,nq] at hc4
     have hstep : T9 n (n.steps.getD k default)=O1 n.roles (H0 n) (n.steps.getD k default).msg:=by rw[T9,if_neg (by simpa using hc4)]
     refine A6 ?_;refine A5 J J J (B8 J gU J J J J J) ?_;refine A5 J J J (B1 J gU J J) ?_;refine A5 J J J (B8 J gU J J J J J) ?_;refine Pq 0 J J J J J J J gU gU (Dj n.roles (nmsL n) bm _ (n.steps.getD k default).msg (Nat.le_refl _) (by omega)) J ?_;refine A5 J J J (A9 J gU) ?_;refine B0 ?_;refine B5 (s:={ t:=[(1,_,_),(6,_,_),(8,_,_),(9,_,_),(26,_,_),(27,_,_),(28,_,_)],bx:=[(.l 1,_),(.l 6,_),(.l 8,_)],ow:=[],mp:=_ }) (B4 (⟨U J,U J,U J,U J,U J,U J,U J,O⟩) (⟨U J,U J,U J,O⟩) O (.inr J)) ?_;refine A8 (A6 ?_);refine A5 J J J (A7 J gU) ?_;refine A5 J J J (B7 J J gU gU J) ?_;refine B0 ?_;refine B9 J (fun hc5=>?_) (fun hc5=>?_)
     ·try simp only [nn,B3,nq] at hc5
      have hh:=hhit (by rw[hstep]; exact hc5)
      rw[hh,hstep]
      refine A8 (A6 ?_);refine A5 J J J (B1 J gU J J) ?_;refine A5 J J J (B2 J gU J J J J) ?_;refine A5 J J J (A7 J gU) ?_;refine A5 J J J (A9 J gU) ?_;refine A5 J J J (A9 J gU) ?_;refine B0 ?_;refine C1 ?_
      repeat(first|refine tR ?_|refine bR ?_)
      refine C5 J ?_ O
      rfl
     ·try simp only [nn,B3,nq] at hc5
      refine C0 ?_;refine A6 ?_;refine A5 J J J (D0 J J gU gU J (IntWalk.i64_in _ (by omega))) ?_;refine A5 J J J (A7 J gU) ?_;refine B0 ?_;refine ⟨k + 1,?_,?_,B4 (⟨⟨_,rfl,?_⟩,⟨U J,U J,U J,U J,O⟩⟩) (⟨U J,U J,O⟩) O (.inr J)⟩
      all_goals (first|rfl|omega|exact ⟨by omega,Q2 hi (by rw[hstep]; exact hc5)⟩)
    ·try simp only [nn,B3,nq] at hc4
     have hstep : T9 n (n.steps.getD k default)=twoE n.roles (n.steps.getD k default).frm (n.steps.getD k default).dst:=by rw[T9,if_pos hc4]
     have hh:=hhit (by rw[hstep]; exact hc4)
     rw[hh,hstep]
     refine C0 ?_;refine A8 (A6 ?_);refine A5 J J J (A7 J gU) ?_;refine A5 J J J (B7 J J gU gU J) ?_;refine B0 ?_;refine B9 J (fun hc5=>?_) (fun hc5=>?_)
     ·refine A8 (A6 ?_)
      refine A5 J J J (B1 J gU J J) ?_;refine A5 J J J (B2 J gU J J J J) ?_;refine A5 J J J (A7 J gU) ?_;refine A5 J J J (A9 J gU) ?_;refine A5 J J J (A9 J gU) ?_;refine B0 ?_;refine C1 ?_
      repeat(first|refine tR ?_|refine bR ?_)
      refine C5 J ?_ O
      rfl
     ·try simp only [nn,B3,nq] at hc5
      exact absurd hc5 hc4
   ·try simp only [nn,B3,nq] at hc3
    have hke : k=n.steps.length:=by omega
    subst hke
    have hus : useE n=lnE (P6 n) Gl.line n.goals:=by rw[useE,if_neg (by rw[Dp (ln:=Sp.line) hi]; simp)]
    rw[hus]
    refine E2 ?_
    repeat(first|refine D5 ?_|refine D6 ?_|refine D2 J ?_)
    refine A8 ?_;refine A8 (A6 ?_);refine A5 J J J (B1 J gU J J) ?_;refine A5 J J J (B2 J gU J J J J) ?_;refine D9 J J J J J gU J J ?_ (fun hh=>by simp at hh); intro hlen;refine A5 J J J (A7 J gU) ?_;refine B0 ?_;refine B5 (s:={ t:=[(6,_,_),(51,_,_),(52,_,_),(53,_,_)],bx:=[(.l 6,_)],ow:=[],mp:=_ }) (B4 (⟨U J,U J,U J,U J,O⟩) (⟨U J,O⟩) O (.inr J)) ?_;refine C4 ?_;refine F3 (ι:=Nat) { t:=[(6,_,_),(51,_,_),(52,_,_)],bx:=[(.l 6,_)],ow:=[],mp:=_ } (fun j=>[(53,true,xi (j : Int))]) (fun j=>[]) (fun j=>j≤n.goals.length ∧ ∀ i,i < j→P6 n (n.goals.getD i default)=0) (fun j=>n.goals.length - j) (0) (⟨by omega,fun j hj=>by omega⟩) (B4 (⟨U J,U J,U J,U J,O⟩) (⟨U J,O⟩) O (.inr J)) ?_
    intro j hokb
    dsimp only [List.cons_append,List.nil_append]
    obtain ⟨hj,hi2⟩:=hokb
    refine A8 (A6 ?_);refine A5 J J J (B7 J J gU gU J) ?_;refine B0 ?_;refine A8 ?_;refine B9 J (fun hc6=>?_) (fun hc6=>?_)
    ·try simp only [nn,B3,nq] at hc6
     have hlt : j < n.goals.length:=by omega
     have hks:=hg _ (J5 (d:=default) hlt)
     refine C0 ?_;refine A8 ?_;refine C4 ?_;refine A8 (A6 ?_);refine A5 J J J (C2 J J gU gU J J J (fun hh=>Gl.rows_at (by first|omega|(simp at hh ⊢; omega)))) ?_;refine A5 J J J (D4 J gU J J J J) ?_;refine C3 J (E1 J J J) ?_;refine C3 J (C7 J J J J J J J) ?_;refine B0 ?_;refine A8 (A6 ?_);refine A5 J J J (B8 J gU J J J J J) ?_;refine A5 J J J (B8 J gU J J J J J) ?_;refine Pq 0 J J J J J J J gU gU (Sx n bm (n.goals.getD j default) hks) J ?_;refine A5 J J J (A9 J gU) ?_;refine B0 ?_;refine B5 (s:={ t:=[(6,_,_),(11,_,_),(12,_,_),(51,_,_),(52,_,_),(53,_,_)],bx:=[(.l 11,_),(.l 6,_)],ow:=[],mp:=_ }) (B4 (⟨U J,U J,U J,U J,U J,U J,O⟩) (⟨U J,U J,O⟩) O (.inr J)) ?_;refine A8 (A6 ?_);refine A5 J J J (A7 J gU) ?_;refine A5 J J J (B7 J J gU gU J) ?_;refine B0 ?_;refine B9 J (fun hc7=>?_) (fun hc7=>?_)
     ·try simp only [nn,B3,nq] at hc7
      rw[Gr (ln:=Gl.line) hlt hi2 hc7]
      refine A8 (A6 ?_);refine A5 J J J (B1 J gU J J) ?_;refine A5 J J J (B2 J gU J J J J) ?_;refine A5 J J J (A7 J gU) ?_;refine A5 J J J (A9 J gU) ?_;refine A5 J J J (A9 J gU) ?_;refine B0 ?_;refine C1 ?_
      repeat(first|refine tR ?_|refine bR ?_)
      refine C5 J ?_ O
      rfl
     ·try simp only [nn,B3,nq] at hc7
      refine C0 ?_;refine A6 ?_;refine A5 J J J (D0 J J gU gU J (IntWalk.i64_in _ (by omega))) ?_;refine A5 J J J (A7 J gU) ?_;refine B0 ?_;refine ⟨j + 1,?_,?_,B4 (⟨⟨_,rfl,?_⟩,⟨U J,U J,U J,O⟩⟩) (⟨U J,O⟩) O (.inr J)⟩
      all_goals (first|rfl|omega|exact ⟨by omega,Q2 hi2 hc7⟩)
    ·try simp only [nn,B3,nq] at hc6
     have hje : j=n.goals.length:=by omega
     subst hje
     rw[Dp (ln:=Gl.line) hi2]
     refine E2 ?_
     repeat(first|refine D5 ?_|refine D6 ?_|refine D2 J ?_)
     refine A8 (A6 ?_);refine A5 J J J (A9 J gU) ?_;refine A5 J J J (A9 J gU) ?_;refine B0 ?_;refine C1 ?_
     repeat(first|refine tR ?_|refine bR ?_)
     refine C5 J ?_ O
     rfl
def occA (s : List UInt8) : Nat→T→Bool
 | 0,_=>false
 | n + 1,t=>(decide (t.kind=2) && decide (t.name=s)) || t.kids.any (occA s n)
def occT (s : List UInt8) (t : T) : Bool:=occA s t.size t
theorem Ks {α : Type} {l : List α} {p q : α→Bool} (h : ∀ x ∈ l,p x=q x) : l.any p=l.any q:=by
 induction l with
 | nil=>rfl
 | cons x l ih=>rw[List.any_cons,List.any_cons,h x (by simp),ih fun y hy=>h y (by simp [hy])]
theorem Ki (s : List UInt8) : ∀ (n m : Nat) (t : T),t.size≤n→t.size≤m→occA s n t=occA s m t
 | 0,_,t,h,_=>by have := t.size_pos; omega
 | _,0,t,_,h=>by have := t.size_pos; omega
 | n + 1,m + 1,t,hn,hm=>by
  rw[occA,occA]
  congr 1
  exact Ks fun x hx=>by
   have := M5 hx
   exact Ki s n m x (by omega) (by omega)
theorem uBc (s : List UInt8) (t : T) : occT s t=((decide (t.kind=2) && decide (t.name=s)) || t.kids.any (occT s)):=by
 obtain ⟨m,hm⟩ : ∃ m,t.size=m + 1 := ⟨t.size - 1,by have := t.size_pos; omega⟩
 conv=>lhs; unfold occT
 rw[hm,occA]
 congr 1
 exact Ks fun x hx=>by
  have := M5 hx
  exact Ki s m x.size x (by omega) (by omega)
def idxT (p : T→Bool) : List T→Int
 | []=>-1
 | t :: r=>if p t=true then 0 else if idxT p r < 0 then -1 else idxT p r + 1
theorem On (p : T→Bool) : ∀ l : List T,decide (0≤idxT p l)=l.any p
 | []=>rfl
 | t :: r=>by
  have ih:=On p r
  rw[List.any_cons,idxT]
  by_cases h : p t=true
  ·rw[if_pos h,h]; rfl
  ·rw[if_neg h,← ih]
   rw[Bool.not_eq_true] at h
   rw[h,Bool.false_or]
   split
   ·rename_i q
    rw[Bool.eq_iff_iff,decide_eq_true_iff,decide_eq_true_iff]; omega
   ·rename_i q
    rw[Bool.eq_iff_iff,decide_eq_true_iff,decide_eq_true_iff]; omega
theorem uAd {p : T→Bool} {l : List T} {k : Nat} (hk : k < l.length) (h : ∀ j,j < k→p (l.getD j default)=false) (hx : p (l.getD k default)=true) : idxT p l=(k : Int):=by
 induction l generalizing k with
 | nil=>simp at hk
 | cons t r ih =>
  cases k with
  | zero=>rw[idxT,if_pos (by simpa using hx)]; rfl
  | succ k =>
   have h0:=h 0 (by omega)
   have := ih (k := k) (by simpa using hk) (fun j hj=>by simpa using h (j + 1) (by omega)) (by simpa using hx)
   rw[idxT,if_neg (by simpa using h0),this,if_neg (by omega)]; push_cast; rfl
theorem Vl {p : T→Bool} {l : List T} (h : ∀ j,j < l.length→p (l.getD j default)=false) : idxT p l = -1:=by
 induction l with
 | nil=>rfl
 | cons t r ih =>
  have h0:=h 0 (by simp)
  rw[idxT,if_neg (by simpa using h0),ih fun j hj=>by simpa using h (j + 1) (by simpa using hj)]
  rfl
theorem Wd (s : List UInt8) (t : T) (h : Ctr sysO 47 [xm t,xs s] [] (xb (occT s t)) none []) : CtrO sysO 88 [xm t, .v (.ptr (.o 0) 0)] [[.s s]] [] (xb (occT s t)) [[.s s]] .box:=by
 refine K8 Tryz.func88 J J J J J J J ?_;refine A8 (A6 ?_);refine C3 J (D8 J J J J) ?_;refine A5 J J J (A9 J gU) ?_;refine B0 ?_;refine A8 (A6 ?_);refine A5 J J J (B8 J gU J J J J J) ?_;refine A5 J J J (B2 J gU J J J J) ?_;refine C8 J J J J J J gU gU (h) J ?_;refine A5 J J J (A9 J gU) ?_;refine B0 ?_;refine C1 ?_
 repeat(first|refine tR ?_|refine bR ?_)
 refine S7 J ?_ (⟨⟨_,rfl,?_⟩,O⟩) (by kernel_rfl)
 all_goals rfl
theorem Pn (s : List UInt8) (ks : List T) (hl : ks.length≤900000) (h : ∀ t ∈ ks,Ctr sysO 47 [xm t,xs s] [] (xb (occT s t)) none []) : CtrO sysO 64 [xl ks, .fn 88 [.ptr (.o 0) 0]] [[.s s]] [] (xi (idxT (occT s) ks)) [[.s s]] .box:=by
 have hr:=T.rows_len ks
 refine K8 Tryz.func64 J J J J J J J ?_;refine A8 (A6 ?_);refine A5 J J J (A9 J gU) ?_;refine B0 ?_;refine A8 ?_;refine A8 (A6 ?_);refine A5 J J J (A7 J gU) ?_;refine D9 J J J J J gU J J ?_ (fun hh=>by simp at hh); intro hlen;refine A5 J J J (A7 J gU) ?_;refine B0 ?_;refine C4 ?_;refine F3 (ι:=Nat) { t:=[(0,_,_),(1,_,_),(7,_,_)],bx:=[(.o 0,_)],ow:=[] } (fun k=>[(8,true,xi (k : Int))]) (fun k=>[]) (fun k=>k≤ks.length ∧ ∀ j,j < k→occT s (ks.getD j default)=false) (fun k=>ks.length - k) (0) (⟨by omega,fun j hj=>by omega⟩) (B4 (⟨U J,U J,U J,U J,O⟩) (⟨U J,O⟩) O) ?_
 intro k hok
 dsimp only [List.cons_append,List.nil_append]
 obtain ⟨hk,hi⟩:=hok
 refine A8 (A6 ?_);refine A5 J J J (B7 J J gU gU J) ?_;refine B0 ?_;refine A8 ?_;refine B9 J (fun hc=>?_) (fun hc=>?_)
 ·try simp only [nn,B3,nq] at hc
  have hlt : k < ks.length:=by omega
  refine C0 ?_;refine A8 ?_;refine C4 ?_;refine A8 (A6 ?_);refine A5 J J J (A7 J gU) ?_;refine A5 J J J (A9 J gU) ?_;refine B0 ?_;refine A8 (A6 ?_);refine A5 J J J (A7 J gU) ?_;refine A5 J J J (A7 J gU) ?_;refine A5 J J J (A7 J gU) ?_;refine A5 J J J (C2 J J gU gU J J J (fun hh=>T.rows_at (by first|omega|(simp at hh ⊢; omega)))) ?_;refine A5 J J J (D4 J gU J J J J) ?_;refine Bh [⟨.o 0,0,[.s s],[.s s]⟩] [] J J J J J J (ps1 J) J J (Wd s (ks.getD k default) (h _ (J5 hlt))) J J J ?_;refine B0 ?_;refine B5 (s:=⟨[(0,_,_),(1,_,_),(5,_,_),(7,_,_),(8,_,_),(16,_,_)],[(.o 0,_)],[],[]⟩) (B4 (⟨U J,U J,U J,U J,U J,U J,O⟩) (⟨U J,O⟩) O) ?_;refine B9 J (fun hc2=>?_) (fun hc2=>?_)
  ·try simp only [nn,B3,nq] at hc2
   rw[uAd hlt hi hc2]
   refine A8 (A6 ?_);refine A5 J J J (A7 J gU) ?_;refine A5 J J J (A9 J gU) ?_;refine B0 ?_;refine C1 ?_
   repeat(first|refine tR ?_|refine bR ?_)
   refine S7 J ?_ (⟨⟨_,rfl,?_⟩,O⟩) (by kernel_rfl)
   all_goals rfl
  ·try simp only [nn,B3,nq] at hc2
   have hi2 : ∀ j,j < k + 1→occT s (ks.getD j default)=false:=fun j q=>by
    by_cases e : j=k
    ·subst e; exact hc2
    ·exact hi j (by omega)
   refine C0 ?_;refine A6 ?_;refine A5 J J J (D0 J J gU gU J (IntWalk.i64_in _ (by omega))) ?_;refine A5 J J J (A7 J gU) ?_;refine B0 ?_;refine ⟨k + 1,?_,?_,B4 (⟨⟨_,rfl,?_⟩,⟨U J,U J,U J,O⟩⟩) (⟨U J,O⟩) O⟩
   all_goals (first|rfl|omega|exact ⟨by omega,hi2⟩)
 ·try simp only [nn,B3,nq] at hc
  have hke : k=ks.length:=by omega
  subst hke
  rw[Vl hi]
  refine E2 ?_
  repeat(first|refine D5 ?_|refine D6 ?_|refine D2 J ?_)
  refine A8 (A6 ?_);refine A5 J J J (A9 J gU) ?_;refine B0 ?_;refine C1 ?_
  repeat(first|refine tR ?_|refine bR ?_)
  refine S7 J ?_ (⟨⟨_,rfl,?_⟩,O⟩) (by kernel_rfl)
  all_goals rfl
theorem Ow (s : List UInt8) (ks : List T) (hl : ks.length≤900000) (h : ∀ t ∈ ks,Ctr sysO 47 [xm t,xs s] [] (xb (occT s t)) none []) : CtrO sysO 30 [xl ks, .fn 88 [.ptr (.o 0) 0]] [[.s s]] [] (xb (ks.any (occT s))) [[.s s]] .box:=by
 have hr:=T.rows_len ks
 refine K8 Tryz.func30 J J J J J J J ?_;refine A8 (A6 ?_);refine A5 J J J (A9 J gU) ?_;refine B0 ?_;refine A8 (A6 ?_);refine A5 J J J (A7 J gU) ?_;refine A5 J J J (A7 J gU) ?_;refine Pa [⟨.o 0,0,[.s s],[.s s]⟩] [] J J J J J J (ps1 J) J J (Pn s ks hl h) J J J ?_
 rw[← On]
 refine A5 J J J (B7 J J gU gU J) ?_;refine A5 J J J (A9 J gU) ?_;refine B0 ?_;refine C1 ?_
 repeat(first|refine tR ?_|refine bR ?_)
 refine S7 J ?_ (⟨⟨_,rfl,?_⟩,O⟩) (by kernel_rfl)
 all_goals rfl
theorem Ml (s : List UInt8) : ∀ (m : Nat) (t : T),t.size≤m→m≤900000→Ctr sysO 47 [xm t,xs s] [] (xb (occT s t)) none []:=by
 intro m
 induction m with
 | zero=>intro t h; have := t.size_pos; omega
 | succ m ih =>
  intro t ht hm
  have hr:=T.rows_len t.kids
  have hls:=T.len_sizes t.kids
  have hse:=t.size_eq
  have hk : ∀ x ∈ t.kids,Ctr sysO 47 [xm x,xs s] [] (xb (occT s x)) none []:=fun x hx=>by
   have := M5 hx
   exact ih x (by omega) (by omega)
  refine D1 Tryz.func47 J J J J J J ?_;refine A8 (A6 ?_);refine C3 J (D8 J J J J) ?_;refine C3 J (D8 J J J J) ?_;refine A5 J J J (A9 J gU) ?_;refine B0 ?_;refine A8 (A6 ?_);refine A5 J J J (B1 J gU J J) ?_;refine A5 J J J (B2 J gU J J J J) ?_;refine A5 J J J (B7 J J gU gU J) ?_;refine A5 J J J (A7 J gU) ?_;refine A5 J J J (B1 J gU J J) ?_;refine A5 J J J (B2 J (fun hh=>hh) J J J J) ?_;refine A5 J J J (B2 J gU J J J J) ?_;refine A5 J J J (G0 J J (fun hh=>hh) (fun hh=>hh) J) ?_;refine A5 J J J (E0 J J gU (fun _ hi=>gP J hi)) ?_
  have hE:=uBc s t
  generalize hb : (t.kind == 2 && t.name == s)=b
  have hb2 : (decide (t.kind=2) && decide (t.name=s))=b:=by
   rw[← hb,Bool.eq_iff_iff]; simp
  rw[hb2] at hE
  cases b
  ·rw[Bool.false_or] at hE
   refine H3 (s:=⟨[(2,_,_),(3,_,_),(13,_,_)],[(.l 2,_),(.l 3,_)],[],[]⟩) (B4 (⟨U J,U J,U J,O⟩) (⟨U J,U J,O⟩) O) ?_;refine A5 J J J (A7 J gU) ?_;refine A5 J J J (B1 J gU J J) ?_;refine A5 J J J (B2 J (fun hh=>hh) J J J J) ?_;refine A5 J J J (Y6 (ys:=[.ptr (.l 3) 0]) J) ?_;refine Pa [⟨.l 3,0,[.s s],[.s s]⟩] [] J J J J J J (ps1 J) J J (Ow s t.kids (by omega) hk) J J J ?_;refine A5 J J J (E5 J J gU (fun _ hi=>gP J hi)) ?_;refine A5 J J J (A9 J gU) ?_;refine B0 ?_;refine C1 ?_
   repeat(first|refine tR ?_|refine bR ?_)
   refine C5 J ?_ O
   (rw[hE]; rfl)
  ·skip
   rw[Bool.true_or] at hE
   refine H3 (s:=⟨[(2,_,_),(3,_,_),(13,_,_)],[(.l 2,_),(.l 3,_)],[],[]⟩) (B4 (⟨U J,U J,U J,O⟩) (⟨U J,U J,O⟩) O) ?_;refine A5 J J J (A7 J gU) ?_;refine A5 J J J (B1 J gU J J) ?_;refine A5 J J J (B2 J (fun hh=>hh) J J J J) ?_;refine Ve (xb false) J J J ?_;refine Ve (xb false) J J J ?_;refine A5 J J J (E5 J J gU (fun _ hi=>gP J hi)) ?_;refine A5 J J J (A9 J gU) ?_;refine B0 ?_;refine C1 ?_
   repeat(first|refine tR ?_|refine bR ?_)
   refine C5 J ?_ O
   (rw[hE]; rfl)
theorem Qv (s : List UInt8) (t : T) (ht : t.size≤900000) : Ctr sys 47 [xm t,xs s] [] (xb (occT s t)) none []:=(Ml s _ t (Nat.le_refl _) ht).wk J fun _ h=>h
def Rq (n : Nar) (s : List UInt8) : Int × Int:=if (chkE E4 n).2≠0 then (0,(chkE E4 n).2) else if (H0 n).contains s=true then (mapI (nmsL n) s,0) else (0,4)
def Aw (s : List UInt8) : Nat→List Sp→List Int
 | _,[]=>[]
 | k,x :: r=>if occT s x.msg=true then (k : Int) :: Aw s (k + 1) r else Aw s (k + 1) r
def Vd (n : Nar) (s : List UInt8) : List Int:=if (chkE E4 n).2≠0 then [] else Aw s 0 n.steps
theorem Tl (s : List UInt8) (l : List Sp) (x : Sp) : ∀ k,Aw s k (l++[x])=Aw s k l++if occT s x.msg=true then [((k + l.length : Nat) : Int)] else []:=by
 induction l with
 | nil=>intro k; simp [Aw]
 | cons y r ih =>
  intro k
  rw[List.cons_append,Aw,Aw,ih (k + 1)]
  have : k + 1 + r.length=k + (y :: r).length:=by simp; omega
  rw[this]
  split <;> simp
theorem Lq (s : List UInt8) : ∀ (l : List Sp) (k : Nat),(Aw s k l).length≤l.length
 | [],_=>by simp [Aw]
 | y :: r,k=>by
  have := Lq s r (k + 1)
  rw[Aw]
  split
  ·simp only [List.length_cons]; omega
  ·simp only [List.length_cons]; omega
theorem Ib (n : Nar) (s : List UInt8) (hs : ∀ s ∈ n.steps,s.msg.size≤900000) (hg : ∀ g ∈ n.goals,T.sizes g.data≤900000) : Ctr sys 18 [xn n,xs s] [] (xii (Rq n s)) none []:=by
 refine D1 Tryz.func18 J J J J J J ?_;refine A8 (A6 ?_);refine C3 J (D8 J J J J) ?_;refine A5 J J J (A9 J gU) ?_;refine A5 J J J (A9 J gU) ?_;refine B0 ?_;refine A8 ?_;refine A8 (A6 ?_);refine A5 J J J (B8 J gU J J J J J) ?_;refine C8 J J J J J J gU gU (P4 n hs hg) J ?_;refine A5 J J J (A7 J gU) ?_;refine A5 J J J (C6 J gU J) ?_;refine A5 J J J (C6 J gU J) ?_;refine A5 J J J (A9 J gU) ?_;refine A5 J J J (A9 J gU) ?_;refine B0 ?_;refine B5 (s:=⟨[(1,_,_),(2,_,_),(7,_,_)],[(.l 2,_)],[],[]⟩) (B4 (⟨U J,U J,U J,O⟩) (⟨U J,O⟩) O) ?_;refine A8 (A6 ?_);refine A5 J J J (A7 J gU) ?_;refine A5 J J J (B7 J J gU gU J) ?_;refine B0 ?_;refine B9 J (fun hc=>?_) (fun hc=>?_)
 ·try simp only [nn,B3,nq] at hc
  refine A8 (A6 ?_);refine A5 J J J (A7 J gU) ?_;refine A5 J J J (A9 J gU) ?_;refine A5 J J J (A9 J gU) ?_;refine B0 ?_;refine C1 ?_
  repeat(first|refine tR ?_|refine bR ?_)
  refine C5 J ?_ O
  (rw[Rq,if_pos hc]; rfl)
 ·try simp only [nn,B3,nq] at hc
  rw[Rq,if_neg (by simpa using hc)]
  refine C0 ?_;refine A8 (A6 ?_);refine A5 J J J (B8 J gU J J J J J) ?_;refine Hs J J J J J J (Bq n) (fun _=>rfl) (fun bm=>?_);refine A5 J J J (Hw J gU (Tryz.underlying63) J J J J J J) ?_;refine A5 J J J (A7 J gU) ?_;refine A5 J J J (Cl (i:=0) (c:=.i .i64 (mapI (nmsL n) s)) (z:=.int .i64 0) J J gU gU J Tryz.underlying61 Tryz.underlying9 (by kernel_rfl) (fun w S=>Mc (nmsL n) s) J) ?_;refine A5 J J J (A7 J gU) ?_;refine A5 J J J (C6 J gU J) ?_;refine A5 J J J (C6 J gU J) ?_;refine A5 J J J (A9 J gU) ?_;refine A5 J J J (A9 J gU) ?_;refine B0 ?_;refine B5 (s:={ t:=[(8,_,_),(9,_,_)],bx:=[],ow:=[],mp:=_ }) (B4 (⟨U J,U J,O⟩) O O (.inr J)) ?_;refine A8 ?_;refine A8 (A6 ?_);refine A5 J J J (A7 J gU) ?_;refine A5 J J J (F8 J gU) ?_;refine B0 ?_;refine B9 J (fun hc2=>?_) (fun hc2=>?_)
  ·try simp only [nn,B3,nq] at hc2
   rw[Ce] at hc2
   have h2 : (H0 n).contains s=false:=hc2
   rw[if_neg (by rw[h2]; simp)]
   refine A8 (A6 ?_);refine A5 J J J (A9 J gU) ?_;refine A5 J J J (A9 J gU) ?_;refine B0 ?_;refine C1 ?_
   repeat(first|refine tR ?_|refine bR ?_)
   refine C5 J ?_ O
   rfl
  ·try simp only [nn,B3,nq] at hc2
   rw[Ce] at hc2
   have h2 : (H0 n).contains s=true:=hc2
   rw[if_pos h2]
   refine C0 ?_;refine A8 (A6 ?_);refine A5 J J J (A7 J gU) ?_;refine A5 J J J (A9 J gU) ?_;refine A5 J J J (A9 J gU) ?_;refine B0 ?_;refine C1 ?_
   repeat(first|refine tR ?_|refine bR ?_)
   refine C5 J ?_ O
   rfl
theorem Ss (n : Nar) (s : List UInt8) (hs : ∀ s ∈ n.steps,s.msg.size≤900000) (hg : ∀ g ∈ n.goals,T.sizes g.data≤900000) : Ctr sys 16 [xn n,xs s] [] (xis (Vd n s)) none []:=by
 have l5:=Sp.rows_len n.steps
 refine D1 Tryz.func16 J J J J J J ?_;refine A8 (A6 ?_);refine C3 J (D8 J J J J) ?_;refine C3 J (H4 (.inr J) J J) ?_;refine B0 ?_;refine A8 ?_;refine A8 (A6 ?_);refine A5 J J J (B8 J gU J J J J J) ?_;refine C8 J J J J J J gU gU (P4 n hs hg) J ?_;refine A5 J J J (A7 J gU) ?_;refine A5 J J J (C6 J gU J) ?_;refine A5 J J J (C6 J gU J) ?_;refine A5 J J J (A9 J gU) ?_;refine A5 J J J (A9 J gU) ?_;refine B0 ?_;refine B5 (s:=⟨[(1,_,_),(2,_,_),(6,_,_)],[(.l 2,_)],[],[]⟩) (B4 (⟨U J,U J,U J,O⟩) (⟨U J,O⟩) O) ?_;refine A8 (A6 ?_);refine A5 J J J (A7 J gU) ?_;refine A5 J J J (B7 J J gU gU J) ?_;refine B0 ?_;refine B9 J (fun hc=>?_) (fun hc=>?_)
 ·try simp only [nn,B3,D3,nq] at hc
  refine A8 (A6 ?_);refine C3 J (H4 (.inr J) J J) ?_;refine B0 ?_;refine C1 ?_
  repeat(first|refine tR ?_|refine bR ?_)
  refine C5 J ?_ O
  (rw[Vd,if_pos hc]; rfl)
 ·try simp only [nn,B3,D3,nq] at hc
  rw[Vd,if_neg (by simpa using hc)]
  have hok:=Mh (n:=n) (by
   have : (chkE E4 n).2=0:=by simpa using hc
   rw[chkE] at this
   split at this
   ·exact this
   ·rename_i q; simpa using q)
  have hs2:=hok.s2
  refine C0 ?_;refine A8 (A6 ?_);refine C3 J (H4 (.inr J) J J) ?_;refine B0 ?_;refine A8 ?_;refine A8 (A6 ?_);refine A5 J J J (B1 J gU J J) ?_;refine A5 J J J (B2 J gU J J J J) ?_;refine D9 J J J J J gU J J ?_ (fun hh=>by simp at hh); intro hlen;refine A5 J J J (A7 J gU) ?_;refine B0 ?_;refine B5 (s:=⟨[(1,_,_),(7,_,_),(18,_,_),(19,_,_),(20,_,_)],[],[(.t 7,_)],[]⟩) (B4 (⟨U J,U J,U J,U J,U J,O⟩) O (⟨rfl,O⟩)) ?_;refine C4 ?_;refine F3 (ι:=Nat) { t:=[(1,_,_),(18,_,_),(19,_,_)],bx:=[],ow:=[(.t 7,_)] } (fun k=>[(20,true,xi (k : Int)),(7,true,xis (Aw s 0 (n.steps.take k)))]) (fun k=>[]) (fun k=>k≤n.steps.length) (fun k=>n.steps.length - k) (0) (by simp) (B4 (⟨U J,U J,U J,U J,U J,O⟩) O (⟨rfl,O⟩)) ?_
  intro k hok
  dsimp only [List.cons_append,List.nil_append]
  have hul:=Lq s (n.steps.take k) 0
  rw[List.length_take] at hul
  refine A8 (A6 ?_);refine A5 J J J (B7 J J gU gU J) ?_;refine B0 ?_;refine A8 ?_;refine B9 J (fun hc2=>?_) (fun hc2=>?_)
  ·try simp only [nn,B3,D3,nq] at hc2
   have hlt : k < n.steps.length:=by omega
   have hks:=hs _ (J5 (d:=default) hlt)
   have hT:=I0 (l:=n.steps) (d:=default) hlt
   have hmin : (n.steps.take k).length=k:=by rw[List.length_take]; omega
   have hS:=Tl s (n.steps.take k) (n.steps.getD k default) 0
   rw[← hT,hmin,Nat.zero_add] at hS
   refine C0 ?_;refine A8 ?_;refine C4 ?_;refine A8 (A6 ?_);refine A5 J J J (A7 J gU) ?_;refine A5 J J J (C2 J J gU gU J J J (fun hh=>Sp.rows_at (by first|omega|(simp at hh ⊢; omega)))) ?_;refine A5 J J J (D4 J gU J J J J) ?_;refine C3 J (E1 J J J) ?_;refine A5 J J J (A9 J gU) ?_;refine C3 J (C7 J J J J J J J) ?_;refine B0 ?_;refine B5 (s:=⟨[(1,_,_),(7,_,_),(8,_,_),(9,_,_),(18,_,_),(19,_,_),(20,_,_)],[(.l 9,_)],[(.t 7,_)],[]⟩) (B4 (⟨U J,U J,U J,U J,U J,U J,U J,O⟩) (⟨U J,O⟩) (⟨rfl,O⟩)) ?_;refine A8 (A6 ?_);refine A5 J J J (B1 J gU J J) ?_;refine A5 J J J (B8 J gU J J J J J) ?_;refine A5 J J J (A7 J gU) ?_;refine C8 J J J J J J gU gU (Qv _ _ (by omega)) J ?_;refine B0 ?_;refine B9 J (fun hc3=>?_) (fun hc3=>?_)
   ·try simp only [nn,B3,D3,nq] at hc3
    rw[if_pos hc3] at hS
    refine A6 ?_;refine C3 J (F2 (.inl J) J J J) ?_;refine A5 J J J (A7 J gU) ?_;refine E8 (xs:=[_]) J J J J J J J J J gU J ?_;refine C3 J (F7 J J J J J J J (by first|omega|(simp only [List.length_append,List.length_singleton,D3,List.length_map,List.length_take]; omega)) (by first|omega|(simp only [List.length_append,List.length_singleton,D3,List.length_map,List.length_take]; omega))) ?_;refine C3 J (F2 (.inr J) J J J) ?_;refine B0 ?_;refine B5 (s:=⟨[(1,_,_),(7,_,_),(18,_,_),(19,_,_),(20,_,_)],[],[(.t 7,_)],[]⟩) (B4 (⟨U J,U J,U J,U J,U J,O⟩) O (⟨rfl,O⟩)) ?_;refine A6 ?_;refine A5 J J J (D0 J J gU gU J (IntWalk.i64_in _ (by omega))) ?_;refine A5 J J J (A7 J gU) ?_;refine B0 ?_;refine ⟨k + 1,?_,?_,B4 (⟨⟨_,rfl,?_⟩,⟨⟨_,rfl,?_⟩,⟨U J,U J,U J,O⟩⟩⟩) O (⟨rfl,O⟩)⟩
    all_goals (first|rfl|omega|exact tx ((Z5 _ _).trans (by rw[hS])))
   ·try simp only [nn,B3,D3,nq] at hc3
    rw[if_neg (by rw[hc3]; simp),List.append_nil] at hS
    refine C0 ?_;refine A6 ?_;refine A5 J J J (D0 J J gU gU J (IntWalk.i64_in _ (by omega))) ?_;refine A5 J J J (A7 J gU) ?_;refine B0 ?_;refine ⟨k + 1,?_,?_,B4 (⟨⟨_,rfl,?_⟩,⟨⟨_,rfl,?_⟩,⟨U J,U J,U J,O⟩⟩⟩) O (⟨rfl,O⟩)⟩
    all_goals (first|rfl|omega|exact tx (by rw[hS]))
  ·try simp only [nn,B3,D3,nq] at hc2
   have hke : k=n.steps.length:=by omega
   subst hke
   rw[List.take_length]
   refine E2 ?_
   repeat(first|refine D5 ?_|refine D6 ?_|refine D2 J ?_)
   refine A8 (A6 ?_);refine C3 J (F2 (.inl J) J J J) ?_;refine C3 J (F2 (.inr J) J J J) ?_;refine B0 ?_;refine C1 ?_
   repeat(first|refine tR ?_|refine bR ?_)
   refine C5 J ?_ O
   rfl
end Go.Proofs.YteidahabkfgfjaaGreat
