/- Our abstract program logic and contracts of this seat's functions, part 6: no statement of its own (long names of ours are shortened by a program). -/
import Derived.Test.YteidahabkfgfjaaGreatM5
set_option linter.unusedVariables false
set_option linter.unusedSimpArgs false
namespace Go.Proofs.YteidahabkfgfjaaGreat
open Go Go.Abs
theorem Oy (l : List Tk) (n : Nar) (line : Int) (q : PS) : O2 l n line 1 q=({ n with roles:=n.roles++(J9 l q).1 },(J9 l q).2):=by rw[O2,if_pos J]
theorem Pd (l : List Tk) (n : Nar) (line : Int) (q : PS) : O2 l n line 2 q=({ n with fresh:=(frRd l q n.fresh).1 },(frRd l q n.fresh).2):=by rw[O2,if_neg (by decide),if_pos J]
theorem Rr (l : List Tk) (n : Nar) (line : Int) (q : PS) : O2 l n line 3 q=({ n with tags:=n.tags++(J9 l q).1 },(J9 l q).2):=by rw[O2,if_neg (by decide),if_neg (by decide),if_pos J]
theorem Qs (l : List Tk) (n : Nar) (line : Int) (q : PS) : O2 l n line 4 q=({ n with steps:=n.steps++[(Ck l line q).1] },(Ck l line q).2):=by rw[O2,if_neg (by decide),if_neg (by decide),if_neg (by decide),if_pos J]
theorem Sl (l : List Tk) (n : Nar) (line : Int) (q : PS) : O2 l n line 5 q=({ n with goals:=n.goals++[(Ag l line q).1] },(Ag l line q).2):=by rw[O2,if_neg (by decide),if_neg (by decide),if_neg (by decide),if_neg (by decide),if_pos J]
theorem Rj (l : List Tk) (n : Nar) (line : Int) (q : PS) {k : Int} (h1 : k≠1) (h2 : k≠2) (h3 : k≠3) (h4 : k≠4) (h5 : k≠5) : O2 l n line k q=(n,q):=by rw[O2,if_neg h1,if_neg h2,if_neg h3,if_neg h4,if_neg h5]
theorem O9 {l : List Tk} {n n' : Nar} {p q : PS} {line : Int} {k : Int} (hw : chR l Y5 p=(k,q)) (hl : Q7 l p=line) {r : PS} (h : O2 l n line k q=(n',r)) : Ar l n p=(n',F0 l [59] r):=by
 unfold Ar; rw[hl,hw]; dsimp only; rw[h]
theorem uCd (l : List Tk) (out : List Fs) : Fwd l (fun p=>frRd l p out):=fun p=>by
 have h:=(Rq l out p).1
 have h2:=Lm l out p
 dsimp only at h h2 ⊢
 rw[h]; exact h2
theorem uAJ (l : List Tk) (line : Int) : Fwd l (Ck l line):=fun p=>by rw[(Pf l line p).1]; exact Jb l line p
theorem uAM (l : List Tk) (line : Int) : Fwd l (Ag l line):=fun p=>by rw[(Rb l line p).1]; exact Ie l line p
set_option maxHeartbeats 16000000 in
theorem Sz (l : List Tk) (p : PS) (n : Nar) (u1 u2 u3 u4 u5 : Value) (hl : l.length≤2000000) (hp : p.at'≤l.length) (hn : n.Le 2000000) :
  CtrO sysO 108 [.v (.agg (soC n u1 u2 u3 u4 u5)),xr l p] [soC n u1 u2 u3 u4 u5] osR (xnr l (Ar l n p)) [soC n u1 u2 u3 u4 u5] .res:=by
 have hrl:=Tk.rows_len l
 have hr1:=B3 n.roles
 have hr2:=B3 n.tags
 have hq1:=Bf (ws:=Y5) hp
 obtain ⟨b1,b2,b3,b4,b5⟩:=hn
 obtain ⟨k,q,hk⟩ : ∃ k q,chR l Y5 p=(k,q):=⟨_,_,rfl⟩
 have hns:=V8 l p Y5 (by omega) (by omega)
 rw[hk] at hns hq1
 dsimp only at hns hq1
 have hnl : (J9 l q).1.length≤2000001:=by
  have h1:=Di (H0 l []) q
  have h2:=(S7 (H0 l []) q).2 hq1
  unfold J9; omega
 have hnr:=B3 (J9 l q).1
 have hq2 : (J9 l q).2.at'≤l.length:=(S7 (H0 l []) q).2 hq1
 have hq3 : (frRd l q n.fresh).2.at'≤l.length:=(uCd l n.fresh q).2 hq1
 have hq4 : ∀ line,(Ck l line q).2.at'≤l.length:=fun line=>(uAJ l line q).2 hq1
 have hq5 : ∀ line,(Ag l line q).2.at'≤l.length:=fun line=>(uAM l line q).2 hq1
 refine N8 Tryz.func108 J J J J J J J ?_;refine A8 (A6 ?_);refine C3 J (D8 J J J J) ?_;refine C3 J (D8 J J J J) ?_;refine C3 J (D9 J J J) ?_;refine C3 J (D9 J J J) ?_;refine B0 ?_;refine B6 (s:=⟨[(2,_,_),(3,_,_),(4,_,_),(5,_,_)],[(.l 2,_),(.l 3,_),(.l 4,_),(.l 5,_),(.o 0,_)],[(.b (.o 0) 1,_),(.b (.o 0) 2,_),(.b (.o 0) 3,_),(.b (.o 0) 4,_),(.b (.o 0) 5,_)],[]⟩) (B4 (⟨U J,U J,U J,U J,O⟩) (⟨U J,U J,U J,U J,U J,O⟩) (⟨rfl,rfl,rfl,rfl,rfl,O⟩)) ?_;refine I5 (.l 2) (.o 0) J J J J J ?_;refine B6 (s:=⟨[(2,_,_),(3,_,_),(4,_,_),(5,_,_)],[(.l 2,_),(.l 3,_),(.l 4,_),(.l 5,_),(.o 0,_)],[(.b (.l 2) 1,_),(.b (.l 2) 2,_),(.b (.l 2) 3,_),(.b (.l 2) 4,_),(.b (.l 2) 5,_)],[]⟩) (B4 (⟨U J,U J,U J,U J,O⟩) (⟨U J,U J,U J,U J,U J,O⟩) (⟨rfl,rfl,rfl,rfl,rfl,O⟩)) ?_;refine A8 (A6 ?_);refine A5 J J J (A9 J gU) ?_;refine B0 ?_;refine A8 ?_;refine A8 (A6 ?_);refine A5 J J J (B1 J gU J J) ?_;refine A5 J J J (B2 J gU J J J J) ?_;refine A5 J J J (B1 J gU J J) ?_
 refine A5 J J J (B2 J gU J J J J) ?_;refine E0 J J J J J gU J J ?_ (fun hh=>by simp at hh); intro hlen;refine A5 J J J (B7 J J gU gU J) ?_;refine B0 ?_;refine B6 (s:=⟨[(2,_,_),(3,_,_),(4,_,_),(5,_,_),(6,_,_),(14,_,_)],[(.l 2,_),(.l 3,_),(.l 4,_),(.l 5,_),(.o 0,_)],[(.b (.l 2) 1,_),(.b (.l 2) 2,_),(.b (.l 2) 3,_),(.b (.l 2) 4,_),(.b (.l 2) 5,_)],[]⟩) (B4 (⟨U J,U J,U J,U J,U J,U J,O⟩) (⟨U J,U J,U J,U J,U J,O⟩) (⟨rfl,rfl,rfl,rfl,rfl,O⟩)) ?_;refine B9 J (fun hcx=>?_) (fun hcx=>?_)
 ·try simp only [nn,B3,T.rows_len,Tk.rows_len] at hcx
  have hline : Q7 l p=(l.getD p.at' tk0).line:=by rw[Q7,if_pos (by omega)]
  refine A6 ?_;refine A5 J J J (B1 J gU J J) ?_;refine A5 J J J (B2 J gU J J J J) ?_;refine A5 J J J (B1 J gU J J) ?_;refine A5 J J J (B2 J gU J J J J) ?_;refine A5 J J J (C2 (j:=p.at') J J gU gU J J (by first|omega|(simp at hh ⊢; omega)) (fun hh=>Tk.rows_at (by first|omega|(simp at hh ⊢; omega)))) ?_;refine A5 J J J (F4 J gU J J) ?_;refine A5 J J J (E4 J gU J J J) ?_;refine A5 J J J (A9 J gU) ?_;refine B0 ?_;refine B6 (s:=⟨[(2,_,_),(3,_,_),(4,_,_),(5,_,_),(6,_,_)],[(.l 2,_),(.l 3,_),(.l 4,_),(.l 5,_),(.o 0,_)],[(.b (.l 2) 1,_),(.b (.l 2) 2,_),(.b (.l 2) 3,_),(.b (.l 2) 4,_),(.b (.l 2) 5,_)],[]⟩) (B4 (⟨U J,U J,U J,U J,U J,O⟩) (⟨U J,U J,U J,U J,U J,O⟩) (⟨rfl,rfl,rfl,rfl,rfl,O⟩)) ?_;refine A8 (A6 ?_);refine A5 J J J (B8 J gU J J J J J) ?_;refine E6 (xs:=[_,_,_,_,_,_]) J J J J J J J J J gU J ?_;refine C7 J J J J J J gU gU (up hns) J ?_;refine A5 J J J (A7 J gU) ?_;refine A5 J J J (C6 J gU J) ?_;refine A5 J J J (C6 J gU J) ?_
  refine A5 J J J (A9 J gU) ?_;refine C3 J (C8 J J J J J J J) ?_;refine B0 ?_;refine B6 (s:=⟨[(2,_,_),(3,_,_),(4,_,_),(5,_,_),(6,_,_),(7,_,_)],[(.l 2,_),(.l 3,_),(.l 4,_),(.l 5,_),(.o 0,_)],[(.b (.l 2) 1,_),(.b (.l 2) 2,_),(.b (.l 2) 3,_),(.b (.l 2) 4,_),(.b (.l 2) 5,_)],[]⟩) (B4 (⟨U J,U J,U J,U J,U J,U J,O⟩) (⟨U J,U J,U J,U J,U J,O⟩) (⟨rfl,rfl,rfl,rfl,rfl,O⟩)) ?_;refine A8 (A6 ?_);refine C3 J (H4 (.inr J) J J) ?_;refine B0 ?_;refine A8 ?_;refine A8 (A6 ?_);refine A5 J J J (A7 J gU) ?_;refine B0 ?_;refine C4 ?_;refine A8 (A6 ?_);refine A5 J J J (B7 J J gU gU J) ?_;refine A5 J J J (A9 J gU) ?_;refine B0 ?_;refine B9 J (fun hcu1=>?_) (fun hcu1=>?_)
  ·try simp only [nn,B3,T.rows_len,Tk.rows_len] at hcu1
   subst hcu1
   rw[O9 hk hline (Oy l n (l.getD p.at' tk0).line q)]
   refine A8 (A6 ?_);refine A5 J J J (B8 J gU J J J J J) ?_;refine C7 J J J J J J gU gU (up (U5 l q (by omega) hq1)) J ?_;refine A5 J J J (A7 J gU) ?_;refine A5 J J J (C6 J gU J) ?_;refine A5 J J J (C6 J gU J) ?_;refine A5 J J J (A9 J gU) ?_;refine C3 J (C8 J J J J J J J) ?_;refine B0 ?_;refine B6 (s:=⟨[(2,_,_),(3,_,_),(4,_,_),(5,_,_),(8,_,_)],[(.l 2,_),(.l 3,_),(.l 4,_),(.l 5,_),(.o 0,_)],[(.b (.l 2) 1,_),(.b (.l 2) 2,_),(.b (.l 2) 3,_),(.b (.l 2) 4,_),(.b (.l 2) 5,_)],[]⟩) (B4 (⟨U J,U J,U J,U J,U J,O⟩) (⟨U J,U J,U J,U J,U J,O⟩) (⟨rfl,rfl,rfl,rfl,rfl,O⟩)) ?_;refine A6 ?_;refine A5 J J J (B1 J gU J J) ?_;refine C3 J (J0 J J J J J J J) ?_;refine A5 J J J (A7 J gU) ?_;refine C3 J (F8 J J J J J J J (by first|omega|(simp only [List.length_append,List.length_singleton,B3]; omega)) (by first|omega|(simp only [List.length_append,List.length_singleton,B3]; omega))) ?_;refine A5 J J J (B1 J gU J J) ?_;refine C3 J (I4 J J J J J J J) ?_
   refine B0 ?_;refine B6 (s:=⟨[(2,_,_),(3,_,_),(4,_,_),(5,_,_)],[(.l 2,_),(.l 3,_),(.l 4,_),(.l 5,_),(.o 0,_)],[(.b (.l 2) 1,_),(.b (.l 2) 2,_),(.b (.l 2) 3,_),(.b (.l 2) 4,_),(.b (.l 2) 5,_)],[]⟩) (B4 (⟨U J,U J,U J,U J,O⟩) (⟨U J,U J,U J,U J,U J,O⟩) (⟨rfl,rfl,rfl,rfl,rfl,O⟩)) ?_;refine B6 (s:=⟨[(2,_,_),(3,_,_),(4,_,_),(5,_,_)],[(.l 2,_),(.l 3,_),(.l 4,_),(.l 5,_),(.o 0,_)],[(.b (.l 2) 1,_),(.b (.l 2) 2,_),(.b (.l 2) 3,_),(.b (.l 2) 4,_),(.b (.l 2) 5,_)],[]⟩) (B4 (⟨U J,U J,U J,U J,O⟩) (⟨U J,U J,U J,U J,U J,O⟩) (⟨rfl,rfl,rfl,rfl,rfl,O⟩)) ?_;refine H9 (.l 2) J (fun w1 w2 w3 w4 w5=>?_);refine B6 (s:=⟨[(2,_,_),(3,_,_),(4,_,_),(5,_,_)],[(.l 2,_),(.l 3,_),(.l 4,_),(.l 5,_),(.o 0,_)],[(.b (.l 2) 1,_),(.b (.l 2) 2,_),(.b (.l 2) 3,_),(.b (.l 2) 4,_),(.b (.l 2) 5,_)],[]⟩) (B4 (⟨U J,U J,U J,U J,O⟩) (⟨U J,U J,U J,U J,U J,O⟩) (⟨rfl,rfl,rfl,rfl,rfl,O⟩)) ?_;refine A8 ?_;refine awp_drawn' (by kernel_rfl) ?_;refine D7 J J J J J J J gU J J J J J ?_;refine D7 J J J J J J J gU J J J J J ?_
   refine E9 J J J J J J J gU gU (up (F7 l _ _ (by omega) (le3 hl (by first|assumption|(dsimp only; first|assumption|exact hq4 _|exact hq5 _))))) J ?_;refine F3 J J J J J J J J J J J J ?_;refine F3 J J J J J J J J J J J J ?_;refine F6 (by kernel_rfl) ?_;refine B6 (s:=⟨[(2,_,_),(4,_,_),(5,_,_)],[(.l 2,_),(.l 4,_),(.l 5,_),(.o 0,_)],[(.b (.l 2) 1,_),(.b (.l 2) 2,_),(.b (.l 2) 3,_),(.b (.l 2) 4,_),(.b (.l 2) 5,_)],[]⟩) (B4 (⟨U J,U J,U J,O⟩) (⟨U J,U J,U J,U J,O⟩) (⟨(ak J (ak J (ak J (ak J (ak J (rfl)))))),(ak J (ak J (ak J (ak J (ak J (rfl)))))),(ak J (ak J (ak J (ak J (ak J (rfl)))))),(ak J (ak J (ak J (ak J (ak J (rfl)))))),(ak J (ak J (ak J (ak J (ak J (rfl)))))),O⟩)) ?_;refine I5 (.l 4) (.l 2) J J J J J ?_;refine B6 (s:=⟨[(2,_,_),(4,_,_),(5,_,_)],[(.l 2,_),(.l 4,_),(.l 5,_),(.o 0,_)],[(.b (.l 4) 1,_),(.b (.l 4) 2,_),(.b (.l 4) 3,_),(.b (.l 4) 4,_),(.b (.l 4) 5,_)],[]⟩) (B4 (⟨U J,U J,U J,O⟩) (⟨U J,U J,U J,U J,O⟩) (⟨rfl,rfl,rfl,rfl,rfl,O⟩)) ?_;refine C1 ?_
   repeat(first|refine tR ?_|refine bR ?_)
   refine J5 J ?_ ⟨⟨_,rfl,rfl⟩,O⟩ (by simp) J J J J J J;exact congrArg (fun z=>X.tup [.agg (narC n.name z (Fs.rows n.fresh) (strR n.tags) (Sp.rows n.steps) (Gl.rows n.goals)), .agg (pbx l (F0 l [59] (J9 l q).2))]) (Cg _ _).symm
  ·try simp only [nn,B3,T.rows_len,Tk.rows_len] at hcu1
   refine A8 (A6 ?_);refine A5 J J J (B7 J J gU gU J) ?_;refine A5 J J J (A9 J gU) ?_;refine B0 ?_;refine B6 (s:=⟨[(2,_,_),(3,_,_),(4,_,_),(5,_,_),(6,_,_),(28,_,_),(41,_,_)],[(.l 2,_),(.l 3,_),(.l 4,_),(.l 5,_),(.o 0,_)],[(.b (.l 2) 1,_),(.b (.l 2) 2,_),(.b (.l 2) 3,_),(.b (.l 2) 4,_),(.b (.l 2) 5,_)],[]⟩) (B4 (⟨U J,U J,U J,U J,U J,U J,U J,O⟩) (⟨U J,U J,U J,U J,U J,O⟩) (⟨rfl,rfl,rfl,rfl,rfl,O⟩)) ?_;refine B9 J (fun hcu2=>?_) (fun hcu2=>?_)
   ·try simp only [nn,B3,T.rows_len,Tk.rows_len] at hcu2
    subst hcu2
    rw[O9 hk hline (Pd l n (l.getD p.at' tk0).line q)]
    refine B6 (s:=⟨[(2,_,_),(3,_,_),(4,_,_),(5,_,_)],[(.l 2,_),(.l 3,_),(.l 4,_),(.l 5,_),(.o 0,_)],[(.b (.l 2) 1,_),(.b (.l 2) 2,_),(.b (.l 2) 3,_),(.b (.l 2) 4,_),(.b (.l 2) 5,_)],[]⟩) (B4 (⟨U J,U J,U J,U J,O⟩) (⟨U J,U J,U J,U J,U J,O⟩) (⟨rfl,rfl,rfl,rfl,rfl,O⟩)) ?_;refine H9 (.l 2) J (fun w1 w2 w3 w4 w5=>?_);refine B6 (s:=⟨[(2,_,_),(3,_,_),(4,_,_),(5,_,_)],[(.l 2,_),(.l 3,_),(.l 4,_),(.l 5,_),(.o 0,_)],[(.b (.l 2) 1,_),(.b (.l 2) 2,_),(.b (.l 2) 3,_),(.b (.l 2) 4,_),(.b (.l 2) 5,_)],[]⟩) (B4 (⟨U J,U J,U J,U J,O⟩) (⟨U J,U J,U J,U J,U J,O⟩) (⟨rfl,rfl,rfl,rfl,rfl,O⟩)) ?_;refine A6 ?_;refine A5 J J J (B8 J gU J J J J J) ?_;refine A5 J J J (B8 J gU J J J J J) ?_;refine Z0 (.l 2) (.l 3) osR J J J J J J ⟨rfl,rfl,rfl,rfl,rfl,rfl⟩ ⟨rfl,rfl,rfl,rfl,rfl,rfl⟩ J J J J J J J J J ⟨rfl,rfl⟩ J (Ci l q n w1 w2 w3 w4 w5 hl hq1 (by omega)) J J J J J J J J ?_;refine B0 ?_;refine B6 (s:=⟨[(2,_,_),(3,_,_),(4,_,_),(5,_,_)],[(.l 2,_),(.l 3,_),(.l 4,_),(.l 5,_),(.o 0,_)],[(.b (.l 2) 1,_),(.b (.l 2) 2,_),(.b (.l 2) 3,_),(.b (.l 2) 4,_),(.b (.l 2) 5,_)],[]⟩) (B4 (⟨U J,U J,U J,U J,O⟩) (⟨U J,U J,U J,U J,U J,O⟩) (⟨rfl,rfl,rfl,rfl,rfl,O⟩)) ?_
    refine B6 (s:=⟨[(2,_,_),(3,_,_),(4,_,_),(5,_,_)],[(.l 2,_),(.l 3,_),(.l 4,_),(.l 5,_),(.o 0,_)],[(.b (.l 2) 1,_),(.b (.l 2) 2,_),(.b (.l 2) 3,_),(.b (.l 2) 4,_),(.b (.l 2) 5,_)],[]⟩) (B4 (⟨U J,U J,U J,U J,O⟩) (⟨U J,U J,U J,U J,U J,O⟩) (⟨rfl,rfl,rfl,rfl,rfl,O⟩)) ?_;refine H9 (.l 2) J (fun w1 w2 w3 w4 w5=>?_);refine B6 (s:=⟨[(2,_,_),(3,_,_),(4,_,_),(5,_,_)],[(.l 2,_),(.l 3,_),(.l 4,_),(.l 5,_),(.o 0,_)],[(.b (.l 2) 1,_),(.b (.l 2) 2,_),(.b (.l 2) 3,_),(.b (.l 2) 4,_),(.b (.l 2) 5,_)],[]⟩) (B4 (⟨U J,U J,U J,U J,O⟩) (⟨U J,U J,U J,U J,U J,O⟩) (⟨rfl,rfl,rfl,rfl,rfl,O⟩)) ?_;refine A8 ?_;refine awp_drawn' (by kernel_rfl) ?_;refine D7 J J J J J J J gU J J J J J ?_;refine D7 J J J J J J J gU J J J J J ?_;refine E9 J J J J J J J gU gU (up (F7 l _ _ (by omega) (le3 hl (by first|assumption|(dsimp only; first|assumption|exact hq4 _|exact hq5 _))))) J ?_;refine F3 J J J J J J J J J J J J ?_;refine F3 J J J J J J J J J J J J ?_;refine F6 (by kernel_rfl) ?_;refine B6 (s:=⟨[(2,_,_),(4,_,_),(5,_,_)],[(.l 2,_),(.l 4,_),(.l 5,_),(.o 0,_)],[(.b (.l 2) 1,_),(.b (.l 2) 2,_),(.b (.l 2) 3,_),(.b (.l 2) 4,_),(.b (.l 2) 5,_)],[]⟩) (B4 (⟨U J,U J,U J,O⟩) (⟨U J,U J,U J,U J,O⟩) (⟨(ak J (ak J (ak J (ak J (ak J (rfl)))))),(ak J (ak J (ak J (ak J (ak J (rfl)))))),(ak J (ak J (ak J (ak J (ak J (rfl)))))),(ak J (ak J (ak J (ak J (ak J (rfl)))))),(ak J (ak J (ak J (ak J (ak J (rfl)))))),O⟩)) ?_
    refine I5 (.l 4) (.l 2) J J J J J ?_;refine B6 (s:=⟨[(2,_,_),(4,_,_),(5,_,_)],[(.l 2,_),(.l 4,_),(.l 5,_),(.o 0,_)],[(.b (.l 4) 1,_),(.b (.l 4) 2,_),(.b (.l 4) 3,_),(.b (.l 4) 4,_),(.b (.l 4) 5,_)],[]⟩) (B4 (⟨U J,U J,U J,O⟩) (⟨U J,U J,U J,U J,O⟩) (⟨rfl,rfl,rfl,rfl,rfl,O⟩)) ?_;refine C1 ?_
    repeat(first|refine tR ?_|refine bR ?_)
    refine J5 J ?_ ⟨⟨_,rfl,rfl⟩,O⟩ (by simp) J J J J J J
    rfl
   ·try simp only [nn,B3,T.rows_len,Tk.rows_len] at hcu2
    refine A8 (A6 ?_);refine A5 J J J (B7 J J gU gU J) ?_;refine A5 J J J (A9 J gU) ?_;refine B0 ?_;refine B9 J (fun hcu3=>?_) (fun hcu3=>?_)
    ·try simp only [nn,B3,T.rows_len,Tk.rows_len] at hcu3
     subst hcu3
     rw[O9 hk hline (Rr l n (l.getD p.at' tk0).line q)]
     refine A8 (A6 ?_);refine A5 J J J (B8 J gU J J J J J) ?_;refine C7 J J J J J J gU gU (up (U5 l q (by omega) hq1)) J ?_;refine A5 J J J (A7 J gU) ?_;refine A5 J J J (C6 J gU J) ?_;refine A5 J J J (C6 J gU J) ?_;refine A5 J J J (A9 J gU) ?_;refine C3 J (C8 J J J J J J J) ?_;refine B0 ?_;refine B6 (s:=⟨[(2,_,_),(3,_,_),(4,_,_),(5,_,_),(8,_,_)],[(.l 2,_),(.l 3,_),(.l 4,_),(.l 5,_),(.o 0,_)],[(.b (.l 2) 1,_),(.b (.l 2) 2,_),(.b (.l 2) 3,_),(.b (.l 2) 4,_),(.b (.l 2) 5,_)],[]⟩) (B4 (⟨U J,U J,U J,U J,U J,O⟩) (⟨U J,U J,U J,U J,U J,O⟩) (⟨rfl,rfl,rfl,rfl,rfl,O⟩)) ?_;refine A6 ?_;refine A5 J J J (B1 J gU J J) ?_;refine C3 J (J0 J J J J J J J) ?_;refine A5 J J J (A7 J gU) ?_;refine C3 J (F8 J J J J J J J (by first|omega|(simp only [List.length_append,List.length_singleton,B3]; omega)) (by first|omega|(simp only [List.length_append,List.length_singleton,B3]; omega))) ?_;refine A5 J J J (B1 J gU J J) ?_;refine C3 J (I4 J J J J J J J) ?_
     refine B0 ?_;refine B6 (s:=⟨[(2,_,_),(3,_,_),(4,_,_),(5,_,_)],[(.l 2,_),(.l 3,_),(.l 4,_),(.l 5,_),(.o 0,_)],[(.b (.l 2) 1,_),(.b (.l 2) 2,_),(.b (.l 2) 3,_),(.b (.l 2) 4,_),(.b (.l 2) 5,_)],[]⟩) (B4 (⟨U J,U J,U J,U J,O⟩) (⟨U J,U J,U J,U J,U J,O⟩) (⟨rfl,rfl,rfl,rfl,rfl,O⟩)) ?_;refine B6 (s:=⟨[(2,_,_),(3,_,_),(4,_,_),(5,_,_)],[(.l 2,_),(.l 3,_),(.l 4,_),(.l 5,_),(.o 0,_)],[(.b (.l 2) 1,_),(.b (.l 2) 2,_),(.b (.l 2) 3,_),(.b (.l 2) 4,_),(.b (.l 2) 5,_)],[]⟩) (B4 (⟨U J,U J,U J,U J,O⟩) (⟨U J,U J,U J,U J,U J,O⟩) (⟨rfl,rfl,rfl,rfl,rfl,O⟩)) ?_;refine H9 (.l 2) J (fun w1 w2 w3 w4 w5=>?_);refine B6 (s:=⟨[(2,_,_),(3,_,_),(4,_,_),(5,_,_)],[(.l 2,_),(.l 3,_),(.l 4,_),(.l 5,_),(.o 0,_)],[(.b (.l 2) 1,_),(.b (.l 2) 2,_),(.b (.l 2) 3,_),(.b (.l 2) 4,_),(.b (.l 2) 5,_)],[]⟩) (B4 (⟨U J,U J,U J,U J,O⟩) (⟨U J,U J,U J,U J,U J,O⟩) (⟨rfl,rfl,rfl,rfl,rfl,O⟩)) ?_;refine A8 ?_;refine awp_drawn' (by kernel_rfl) ?_;refine D7 J J J J J J J gU J J J J J ?_;refine D7 J J J J J J J gU J J J J J ?_
     refine E9 J J J J J J J gU gU (up (F7 l _ _ (by omega) (le3 hl (by first|assumption|(dsimp only; first|assumption|exact hq4 _|exact hq5 _))))) J ?_;refine F3 J J J J J J J J J J J J ?_;refine F3 J J J J J J J J J J J J ?_;refine F6 (by kernel_rfl) ?_;refine B6 (s:=⟨[(2,_,_),(4,_,_),(5,_,_)],[(.l 2,_),(.l 4,_),(.l 5,_),(.o 0,_)],[(.b (.l 2) 1,_),(.b (.l 2) 2,_),(.b (.l 2) 3,_),(.b (.l 2) 4,_),(.b (.l 2) 5,_)],[]⟩) (B4 (⟨U J,U J,U J,O⟩) (⟨U J,U J,U J,U J,O⟩) (⟨(ak J (ak J (ak J (ak J (ak J (rfl)))))),(ak J (ak J (ak J (ak J (ak J (rfl)))))),(ak J (ak J (ak J (ak J (ak J (rfl)))))),(ak J (ak J (ak J (ak J (ak J (rfl)))))),(ak J (ak J (ak J (ak J (ak J (rfl)))))),O⟩)) ?_;refine I5 (.l 4) (.l 2) J J J J J ?_;refine B6 (s:=⟨[(2,_,_),(4,_,_),(5,_,_)],[(.l 2,_),(.l 4,_),(.l 5,_),(.o 0,_)],[(.b (.l 4) 1,_),(.b (.l 4) 2,_),(.b (.l 4) 3,_),(.b (.l 4) 4,_),(.b (.l 4) 5,_)],[]⟩) (B4 (⟨U J,U J,U J,O⟩) (⟨U J,U J,U J,U J,O⟩) (⟨rfl,rfl,rfl,rfl,rfl,O⟩)) ?_;refine C1 ?_
     repeat(first|refine tR ?_|refine bR ?_)
     refine J5 J ?_ ⟨⟨_,rfl,rfl⟩,O⟩ (by simp) J J J J J J;exact congrArg (fun z=>X.tup [.agg (narC n.name (strR n.roles) (Fs.rows n.fresh) z (Sp.rows n.steps) (Gl.rows n.goals)), .agg (pbx l (F0 l [59] (J9 l q).2))]) (Cg _ _).symm
    ·try simp only [nn,B3,T.rows_len,Tk.rows_len] at hcu3
     refine A8 (A6 ?_);refine A5 J J J (B7 J J gU gU J) ?_;refine A5 J J J (A9 J gU) ?_;refine B0 ?_;refine B9 J (fun hcu4=>?_) (fun hcu4=>?_)
     ·try simp only [nn,B3,T.rows_len,Tk.rows_len] at hcu4
      subst hcu4
      rw[O9 hk hline (Qs l n (l.getD p.at' tk0).line q)]
      refine B6 (s:=⟨[(2,_,_),(3,_,_),(4,_,_),(5,_,_),(6,_,_)],[(.l 2,_),(.l 3,_),(.l 4,_),(.l 5,_),(.o 0,_)],[(.b (.l 2) 1,_),(.b (.l 2) 2,_),(.b (.l 2) 3,_),(.b (.l 2) 4,_),(.b (.l 2) 5,_)],[]⟩) (B4 (⟨U J,U J,U J,U J,U J,O⟩) (⟨U J,U J,U J,U J,U J,O⟩) (⟨rfl,rfl,rfl,rfl,rfl,O⟩)) ?_;refine H9 (.l 2) J (fun w1 w2 w3 w4 w5=>?_);refine B6 (s:=⟨[(2,_,_),(3,_,_),(4,_,_),(5,_,_),(6,_,_)],[(.l 2,_),(.l 3,_),(.l 4,_),(.l 5,_),(.o 0,_)],[(.b (.l 2) 1,_),(.b (.l 2) 2,_),(.b (.l 2) 3,_),(.b (.l 2) 4,_),(.b (.l 2) 5,_)],[]⟩) (B4 (⟨U J,U J,U J,U J,U J,O⟩) (⟨U J,U J,U J,U J,U J,O⟩) (⟨rfl,rfl,rfl,rfl,rfl,O⟩)) ?_;refine A6 ?_;refine A5 J J J (B8 J gU J J J J J) ?_;refine A5 J J J (B8 J gU J J J J J) ?_;refine A5 J J J (A7 J gU) ?_;refine Z0 (.l 2) (.l 3) osR J J J J J J ⟨rfl,rfl,rfl,rfl,rfl,rfl⟩ ⟨rfl,rfl,rfl,rfl,rfl,rfl⟩ J J J J J J J J J ⟨rfl,rfl⟩ J (Dm l q n ((l.getD p.at' tk0).line) w1 w2 w3 w4 w5 hl hq1 (by omega)) J J J J J J J J ?_;refine B0 ?_;refine B6 (s:=⟨[(2,_,_),(3,_,_),(4,_,_),(5,_,_)],[(.l 2,_),(.l 3,_),(.l 4,_),(.l 5,_),(.o 0,_)],[(.b (.l 2) 1,_),(.b (.l 2) 2,_),(.b (.l 2) 3,_),(.b (.l 2) 4,_),(.b (.l 2) 5,_)],[]⟩) (B4 (⟨U J,U J,U J,U J,O⟩) (⟨U J,U J,U J,U J,U J,O⟩) (⟨rfl,rfl,rfl,rfl,rfl,O⟩)) ?_
      refine B6 (s:=⟨[(2,_,_),(3,_,_),(4,_,_),(5,_,_)],[(.l 2,_),(.l 3,_),(.l 4,_),(.l 5,_),(.o 0,_)],[(.b (.l 2) 1,_),(.b (.l 2) 2,_),(.b (.l 2) 3,_),(.b (.l 2) 4,_),(.b (.l 2) 5,_)],[]⟩) (B4 (⟨U J,U J,U J,U J,O⟩) (⟨U J,U J,U J,U J,U J,O⟩) (⟨rfl,rfl,rfl,rfl,rfl,O⟩)) ?_;refine H9 (.l 2) J (fun w1 w2 w3 w4 w5=>?_);refine B6 (s:=⟨[(2,_,_),(3,_,_),(4,_,_),(5,_,_)],[(.l 2,_),(.l 3,_),(.l 4,_),(.l 5,_),(.o 0,_)],[(.b (.l 2) 1,_),(.b (.l 2) 2,_),(.b (.l 2) 3,_),(.b (.l 2) 4,_),(.b (.l 2) 5,_)],[]⟩) (B4 (⟨U J,U J,U J,U J,O⟩) (⟨U J,U J,U J,U J,U J,O⟩) (⟨rfl,rfl,rfl,rfl,rfl,O⟩)) ?_;refine A8 ?_;refine awp_drawn' (by kernel_rfl) ?_;refine D7 J J J J J J J gU J J J J J ?_;refine D7 J J J J J J J gU J J J J J ?_;refine E9 J J J J J J J gU gU (up (F7 l _ _ (by omega) (le3 hl (by first|assumption|(dsimp only; first|assumption|exact hq4 _|exact hq5 _))))) J ?_;refine F3 J J J J J J J J J J J J ?_;refine F3 J J J J J J J J J J J J ?_;refine F6 (by kernel_rfl) ?_;refine B6 (s:=⟨[(2,_,_),(4,_,_),(5,_,_)],[(.l 2,_),(.l 4,_),(.l 5,_),(.o 0,_)],[(.b (.l 2) 1,_),(.b (.l 2) 2,_),(.b (.l 2) 3,_),(.b (.l 2) 4,_),(.b (.l 2) 5,_)],[]⟩) (B4 (⟨U J,U J,U J,O⟩) (⟨U J,U J,U J,U J,O⟩) (⟨(ak J (ak J (ak J (ak J (ak J (rfl)))))),(ak J (ak J (ak J (ak J (ak J (rfl)))))),(ak J (ak J (ak J (ak J (ak J (rfl)))))),(ak J (ak J (ak J (ak J (ak J (rfl)))))),(ak J (ak J (ak J (ak J (ak J (rfl)))))),O⟩)) ?_
      refine I5 (.l 4) (.l 2) J J J J J ?_;refine B6 (s:=⟨[(2,_,_),(4,_,_),(5,_,_)],[(.l 2,_),(.l 4,_),(.l 5,_),(.o 0,_)],[(.b (.l 4) 1,_),(.b (.l 4) 2,_),(.b (.l 4) 3,_),(.b (.l 4) 4,_),(.b (.l 4) 5,_)],[]⟩) (B4 (⟨U J,U J,U J,O⟩) (⟨U J,U J,U J,U J,O⟩) (⟨rfl,rfl,rfl,rfl,rfl,O⟩)) ?_;refine C1 ?_
      repeat(first|refine tR ?_|refine bR ?_)
      refine J5 J ?_ ⟨⟨_,rfl,rfl⟩,O⟩ (by simp) J J J J J J
      rfl
     ·try simp only [nn,B3,T.rows_len,Tk.rows_len] at hcu4
      refine A8 (A6 ?_);refine A5 J J J (B7 J J gU gU J) ?_;refine A5 J J J (A9 J gU) ?_;refine B0 ?_;refine B6 (s:=⟨[(2,_,_),(3,_,_),(4,_,_),(5,_,_),(6,_,_),(70,_,_)],[(.l 2,_),(.l 3,_),(.l 4,_),(.l 5,_),(.o 0,_)],[(.b (.l 2) 1,_),(.b (.l 2) 2,_),(.b (.l 2) 3,_),(.b (.l 2) 4,_),(.b (.l 2) 5,_)],[]⟩) (B4 (⟨U J,U J,U J,U J,U J,U J,O⟩) (⟨U J,U J,U J,U J,U J,O⟩) (⟨rfl,rfl,rfl,rfl,rfl,O⟩)) ?_;refine B9 J (fun hcu5=>?_) (fun hcu5=>?_)
      ·try simp only [nn,B3,T.rows_len,Tk.rows_len] at hcu5
       subst hcu5
       rw[O9 hk hline (Sl l n (l.getD p.at' tk0).line q)]
       refine B6 (s:=⟨[(2,_,_),(3,_,_),(4,_,_),(5,_,_),(6,_,_)],[(.l 2,_),(.l 3,_),(.l 4,_),(.l 5,_),(.o 0,_)],[(.b (.l 2) 1,_),(.b (.l 2) 2,_),(.b (.l 2) 3,_),(.b (.l 2) 4,_),(.b (.l 2) 5,_)],[]⟩) (B4 (⟨U J,U J,U J,U J,U J,O⟩) (⟨U J,U J,U J,U J,U J,O⟩) (⟨rfl,rfl,rfl,rfl,rfl,O⟩)) ?_;refine H9 (.l 2) J (fun w1 w2 w3 w4 w5=>?_);refine B6 (s:=⟨[(2,_,_),(3,_,_),(4,_,_),(5,_,_),(6,_,_)],[(.l 2,_),(.l 3,_),(.l 4,_),(.l 5,_),(.o 0,_)],[(.b (.l 2) 1,_),(.b (.l 2) 2,_),(.b (.l 2) 3,_),(.b (.l 2) 4,_),(.b (.l 2) 5,_)],[]⟩) (B4 (⟨U J,U J,U J,U J,U J,O⟩) (⟨U J,U J,U J,U J,U J,O⟩) (⟨rfl,rfl,rfl,rfl,rfl,O⟩)) ?_;refine A6 ?_;refine A5 J J J (B8 J gU J J J J J) ?_;refine A5 J J J (B8 J gU J J J J J) ?_;refine A5 J J J (A7 J gU) ?_;refine Z0 (.l 2) (.l 3) osR J J J J J J ⟨rfl,rfl,rfl,rfl,rfl,rfl⟩ ⟨rfl,rfl,rfl,rfl,rfl,rfl⟩ J J J J J J J J J ⟨rfl,rfl⟩ J (Dq l q n ((l.getD p.at' tk0).line) w1 w2 w3 w4 w5 hl hq1 (by omega)) J J J J J J J J ?_;refine B0 ?_;refine B6 (s:=⟨[(2,_,_),(3,_,_),(4,_,_),(5,_,_)],[(.l 2,_),(.l 3,_),(.l 4,_),(.l 5,_),(.o 0,_)],[(.b (.l 2) 1,_),(.b (.l 2) 2,_),(.b (.l 2) 3,_),(.b (.l 2) 4,_),(.b (.l 2) 5,_)],[]⟩) (B4 (⟨U J,U J,U J,U J,O⟩) (⟨U J,U J,U J,U J,U J,O⟩) (⟨rfl,rfl,rfl,rfl,rfl,O⟩)) ?_
       refine B6 (s:=⟨[(2,_,_),(3,_,_),(4,_,_),(5,_,_)],[(.l 2,_),(.l 3,_),(.l 4,_),(.l 5,_),(.o 0,_)],[(.b (.l 2) 1,_),(.b (.l 2) 2,_),(.b (.l 2) 3,_),(.b (.l 2) 4,_),(.b (.l 2) 5,_)],[]⟩) (B4 (⟨U J,U J,U J,U J,O⟩) (⟨U J,U J,U J,U J,U J,O⟩) (⟨rfl,rfl,rfl,rfl,rfl,O⟩)) ?_;refine H9 (.l 2) J (fun w1 w2 w3 w4 w5=>?_);refine B6 (s:=⟨[(2,_,_),(3,_,_),(4,_,_),(5,_,_)],[(.l 2,_),(.l 3,_),(.l 4,_),(.l 5,_),(.o 0,_)],[(.b (.l 2) 1,_),(.b (.l 2) 2,_),(.b (.l 2) 3,_),(.b (.l 2) 4,_),(.b (.l 2) 5,_)],[]⟩) (B4 (⟨U J,U J,U J,U J,O⟩) (⟨U J,U J,U J,U J,U J,O⟩) (⟨rfl,rfl,rfl,rfl,rfl,O⟩)) ?_;refine A8 ?_;refine awp_drawn' (by kernel_rfl) ?_;refine D7 J J J J J J J gU J J J J J ?_;refine D7 J J J J J J J gU J J J J J ?_;refine E9 J J J J J J J gU gU (up (F7 l _ _ (by omega) (le3 hl (by first|assumption|(dsimp only; first|assumption|exact hq4 _|exact hq5 _))))) J ?_;refine F3 J J J J J J J J J J J J ?_;refine F3 J J J J J J J J J J J J ?_;refine F6 (by kernel_rfl) ?_;refine B6 (s:=⟨[(2,_,_),(4,_,_),(5,_,_)],[(.l 2,_),(.l 4,_),(.l 5,_),(.o 0,_)],[(.b (.l 2) 1,_),(.b (.l 2) 2,_),(.b (.l 2) 3,_),(.b (.l 2) 4,_),(.b (.l 2) 5,_)],[]⟩) (B4 (⟨U J,U J,U J,O⟩) (⟨U J,U J,U J,U J,O⟩) (⟨(ak J (ak J (ak J (ak J (ak J (rfl)))))),(ak J (ak J (ak J (ak J (ak J (rfl)))))),(ak J (ak J (ak J (ak J (ak J (rfl)))))),(ak J (ak J (ak J (ak J (ak J (rfl)))))),(ak J (ak J (ak J (ak J (ak J (rfl)))))),O⟩)) ?_
       refine I5 (.l 4) (.l 2) J J J J J ?_;refine B6 (s:=⟨[(2,_,_),(4,_,_),(5,_,_)],[(.l 2,_),(.l 4,_),(.l 5,_),(.o 0,_)],[(.b (.l 4) 1,_),(.b (.l 4) 2,_),(.b (.l 4) 3,_),(.b (.l 4) 4,_),(.b (.l 4) 5,_)],[]⟩) (B4 (⟨U J,U J,U J,O⟩) (⟨U J,U J,U J,U J,O⟩) (⟨rfl,rfl,rfl,rfl,rfl,O⟩)) ?_;refine C1 ?_
       repeat(first|refine tR ?_|refine bR ?_)
       refine J5 J ?_ ⟨⟨_,rfl,rfl⟩,O⟩ (by simp) J J J J J J
       rfl
      ·try simp only [nn,B3,T.rows_len,Tk.rows_len] at hcu5
       rw[O9 hk hline (Rj l n (l.getD p.at' tk0).line q hcu1 hcu2 hcu3 hcu4 hcu5)]
       refine C0 ?_;refine B6 (s:=⟨[(2,_,_),(3,_,_),(4,_,_),(5,_,_)],[(.l 2,_),(.l 3,_),(.l 4,_),(.l 5,_),(.o 0,_)],[(.b (.l 2) 1,_),(.b (.l 2) 2,_),(.b (.l 2) 3,_),(.b (.l 2) 4,_),(.b (.l 2) 5,_)],[]⟩) (B4 (⟨U J,U J,U J,U J,O⟩) (⟨U J,U J,U J,U J,U J,O⟩) (⟨rfl,rfl,rfl,rfl,rfl,O⟩)) ?_;refine H9 (.l 2) J (fun w1 w2 w3 w4 w5=>?_);refine B6 (s:=⟨[(2,_,_),(3,_,_),(4,_,_),(5,_,_)],[(.l 2,_),(.l 3,_),(.l 4,_),(.l 5,_),(.o 0,_)],[(.b (.l 2) 1,_),(.b (.l 2) 2,_),(.b (.l 2) 3,_),(.b (.l 2) 4,_),(.b (.l 2) 5,_)],[]⟩) (B4 (⟨U J,U J,U J,U J,O⟩) (⟨U J,U J,U J,U J,U J,O⟩) (⟨rfl,rfl,rfl,rfl,rfl,O⟩)) ?_;refine A8 ?_;refine awp_drawn' (by kernel_rfl) ?_;refine D7 J J J J J J J gU J J J J J ?_;refine D7 J J J J J J J gU J J J J J ?_;refine E9 J J J J J J J gU gU (up (F7 l _ _ (by omega) (le3 hl (by first|assumption|(dsimp only; first|assumption|exact hq4 _|exact hq5 _))))) J ?_;refine F3 J J J J J J J J J J J J ?_;refine F3 J J J J J J J J J J J J ?_;refine F6 (by kernel_rfl) ?_;refine B6 (s:=⟨[(2,_,_),(4,_,_),(5,_,_)],[(.l 2,_),(.l 4,_),(.l 5,_),(.o 0,_)],[(.b (.l 2) 1,_),(.b (.l 2) 2,_),(.b (.l 2) 3,_),(.b (.l 2) 4,_),(.b (.l 2) 5,_)],[]⟩) (B4 (⟨U J,U J,U J,O⟩) (⟨U J,U J,U J,U J,O⟩) (⟨(ak J (ak J (ak J (ak J (ak J (rfl)))))),(ak J (ak J (ak J (ak J (ak J (rfl)))))),(ak J (ak J (ak J (ak J (ak J (rfl)))))),(ak J (ak J (ak J (ak J (ak J (rfl)))))),(ak J (ak J (ak J (ak J (ak J (rfl)))))),O⟩)) ?_
       refine I5 (.l 4) (.l 2) J J J J J ?_;refine B6 (s:=⟨[(2,_,_),(4,_,_),(5,_,_)],[(.l 2,_),(.l 4,_),(.l 5,_),(.o 0,_)],[(.b (.l 4) 1,_),(.b (.l 4) 2,_),(.b (.l 4) 3,_),(.b (.l 4) 4,_),(.b (.l 4) 5,_)],[]⟩) (B4 (⟨U J,U J,U J,O⟩) (⟨U J,U J,U J,U J,O⟩) (⟨rfl,rfl,rfl,rfl,rfl,O⟩)) ?_;refine C1 ?_
       repeat(first|refine tR ?_|refine bR ?_)
       refine J5 J ?_ ⟨⟨_,rfl,rfl⟩,O⟩ (by simp) J J J J J J
       rfl
 ·try simp only [nn,B3,T.rows_len,Tk.rows_len] at hcx
  have hline : Q7 l p=0:=by rw[Q7,if_neg (by omega)]
  refine C0 ?_;refine A8 (A6 ?_);refine A5 J J J (B8 J gU J J J J J) ?_;refine E6 (xs:=[_,_,_,_,_,_]) J J J J J J J J J gU J ?_;refine C7 J J J J J J gU gU (up hns) J ?_;refine A5 J J J (A7 J gU) ?_;refine A5 J J J (C6 J gU J) ?_;refine A5 J J J (C6 J gU J) ?_;refine A5 J J J (A9 J gU) ?_;refine C3 J (C8 J J J J J J J) ?_;refine B0 ?_;refine B6 (s:=⟨[(2,_,_),(3,_,_),(4,_,_),(5,_,_),(6,_,_),(7,_,_)],[(.l 2,_),(.l 3,_),(.l 4,_),(.l 5,_),(.o 0,_)],[(.b (.l 2) 1,_),(.b (.l 2) 2,_),(.b (.l 2) 3,_),(.b (.l 2) 4,_),(.b (.l 2) 5,_)],[]⟩) (B4 (⟨U J,U J,U J,U J,U J,U J,O⟩) (⟨U J,U J,U J,U J,U J,O⟩) (⟨rfl,rfl,rfl,rfl,rfl,O⟩)) ?_;refine A8 (A6 ?_);refine C3 J (H4 (.inr J) J J) ?_;refine B0 ?_;refine A8 ?_;refine A8 (A6 ?_);refine A5 J J J (A7 J gU) ?_;refine B0 ?_;refine C4 ?_;refine A8 (A6 ?_);refine A5 J J J (B7 J J gU gU J) ?_;refine A5 J J J (A9 J gU) ?_;refine B0 ?_;refine B9 J (fun hcv1=>?_) (fun hcv1=>?_)
  ·try simp only [nn,B3,T.rows_len,Tk.rows_len] at hcv1
   subst hcv1
   rw[O9 hk hline (Oy l n 0 q)]
   refine A8 (A6 ?_);refine A5 J J J (B8 J gU J J J J J) ?_;refine C7 J J J J J J gU gU (up (U5 l q (by omega) hq1)) J ?_;refine A5 J J J (A7 J gU) ?_;refine A5 J J J (C6 J gU J) ?_;refine A5 J J J (C6 J gU J) ?_;refine A5 J J J (A9 J gU) ?_;refine C3 J (C8 J J J J J J J) ?_;refine B0 ?_;refine B6 (s:=⟨[(2,_,_),(3,_,_),(4,_,_),(5,_,_),(8,_,_)],[(.l 2,_),(.l 3,_),(.l 4,_),(.l 5,_),(.o 0,_)],[(.b (.l 2) 1,_),(.b (.l 2) 2,_),(.b (.l 2) 3,_),(.b (.l 2) 4,_),(.b (.l 2) 5,_)],[]⟩) (B4 (⟨U J,U J,U J,U J,U J,O⟩) (⟨U J,U J,U J,U J,U J,O⟩) (⟨rfl,rfl,rfl,rfl,rfl,O⟩)) ?_;refine A6 ?_;refine A5 J J J (B1 J gU J J) ?_;refine C3 J (J0 J J J J J J J) ?_;refine A5 J J J (A7 J gU) ?_;refine C3 J (F8 J J J J J J J (by first|omega|(simp only [List.length_append,List.length_singleton,B3]; omega)) (by first|omega|(simp only [List.length_append,List.length_singleton,B3]; omega))) ?_;refine A5 J J J (B1 J gU J J) ?_;refine C3 J (I4 J J J J J J J) ?_
   refine B0 ?_;refine B6 (s:=⟨[(2,_,_),(3,_,_),(4,_,_),(5,_,_)],[(.l 2,_),(.l 3,_),(.l 4,_),(.l 5,_),(.o 0,_)],[(.b (.l 2) 1,_),(.b (.l 2) 2,_),(.b (.l 2) 3,_),(.b (.l 2) 4,_),(.b (.l 2) 5,_)],[]⟩) (B4 (⟨U J,U J,U J,U J,O⟩) (⟨U J,U J,U J,U J,U J,O⟩) (⟨rfl,rfl,rfl,rfl,rfl,O⟩)) ?_;refine B6 (s:=⟨[(2,_,_),(3,_,_),(4,_,_),(5,_,_)],[(.l 2,_),(.l 3,_),(.l 4,_),(.l 5,_),(.o 0,_)],[(.b (.l 2) 1,_),(.b (.l 2) 2,_),(.b (.l 2) 3,_),(.b (.l 2) 4,_),(.b (.l 2) 5,_)],[]⟩) (B4 (⟨U J,U J,U J,U J,O⟩) (⟨U J,U J,U J,U J,U J,O⟩) (⟨rfl,rfl,rfl,rfl,rfl,O⟩)) ?_;refine H9 (.l 2) J (fun w1 w2 w3 w4 w5=>?_);refine B6 (s:=⟨[(2,_,_),(3,_,_),(4,_,_),(5,_,_)],[(.l 2,_),(.l 3,_),(.l 4,_),(.l 5,_),(.o 0,_)],[(.b (.l 2) 1,_),(.b (.l 2) 2,_),(.b (.l 2) 3,_),(.b (.l 2) 4,_),(.b (.l 2) 5,_)],[]⟩) (B4 (⟨U J,U J,U J,U J,O⟩) (⟨U J,U J,U J,U J,U J,O⟩) (⟨rfl,rfl,rfl,rfl,rfl,O⟩)) ?_;refine A8 ?_;refine awp_drawn' (by kernel_rfl) ?_;refine D7 J J J J J J J gU J J J J J ?_;refine D7 J J J J J J J gU J J J J J ?_
   refine E9 J J J J J J J gU gU (up (F7 l _ _ (by omega) (le3 hl (by first|assumption|(dsimp only; first|assumption|exact hq4 _|exact hq5 _))))) J ?_;refine F3 J J J J J J J J J J J J ?_;refine F3 J J J J J J J J J J J J ?_;refine F6 (by kernel_rfl) ?_;refine B6 (s:=⟨[(2,_,_),(4,_,_),(5,_,_)],[(.l 2,_),(.l 4,_),(.l 5,_),(.o 0,_)],[(.b (.l 2) 1,_),(.b (.l 2) 2,_),(.b (.l 2) 3,_),(.b (.l 2) 4,_),(.b (.l 2) 5,_)],[]⟩) (B4 (⟨U J,U J,U J,O⟩) (⟨U J,U J,U J,U J,O⟩) (⟨(ak J (ak J (ak J (ak J (ak J (rfl)))))),(ak J (ak J (ak J (ak J (ak J (rfl)))))),(ak J (ak J (ak J (ak J (ak J (rfl)))))),(ak J (ak J (ak J (ak J (ak J (rfl)))))),(ak J (ak J (ak J (ak J (ak J (rfl)))))),O⟩)) ?_;refine I5 (.l 4) (.l 2) J J J J J ?_;refine B6 (s:=⟨[(2,_,_),(4,_,_),(5,_,_)],[(.l 2,_),(.l 4,_),(.l 5,_),(.o 0,_)],[(.b (.l 4) 1,_),(.b (.l 4) 2,_),(.b (.l 4) 3,_),(.b (.l 4) 4,_),(.b (.l 4) 5,_)],[]⟩) (B4 (⟨U J,U J,U J,O⟩) (⟨U J,U J,U J,U J,O⟩) (⟨rfl,rfl,rfl,rfl,rfl,O⟩)) ?_;refine C1 ?_
   repeat(first|refine tR ?_|refine bR ?_)
   refine J5 J ?_ ⟨⟨_,rfl,rfl⟩,O⟩ (by simp) J J J J J J;exact congrArg (fun z=>X.tup [.agg (narC n.name z (Fs.rows n.fresh) (strR n.tags) (Sp.rows n.steps) (Gl.rows n.goals)), .agg (pbx l (F0 l [59] (J9 l q).2))]) (Cg _ _).symm
  ·try simp only [nn,B3,T.rows_len,Tk.rows_len] at hcv1
   refine A8 (A6 ?_);refine A5 J J J (B7 J J gU gU J) ?_;refine A5 J J J (A9 J gU) ?_;refine B0 ?_;refine B6 (s:=⟨[(2,_,_),(3,_,_),(4,_,_),(5,_,_),(6,_,_),(28,_,_),(41,_,_)],[(.l 2,_),(.l 3,_),(.l 4,_),(.l 5,_),(.o 0,_)],[(.b (.l 2) 1,_),(.b (.l 2) 2,_),(.b (.l 2) 3,_),(.b (.l 2) 4,_),(.b (.l 2) 5,_)],[]⟩) (B4 (⟨U J,U J,U J,U J,U J,U J,U J,O⟩) (⟨U J,U J,U J,U J,U J,O⟩) (⟨rfl,rfl,rfl,rfl,rfl,O⟩)) ?_;refine B9 J (fun hcv2=>?_) (fun hcv2=>?_)
   ·try simp only [nn,B3,T.rows_len,Tk.rows_len] at hcv2
    subst hcv2
    rw[O9 hk hline (Pd l n 0 q)]
    refine B6 (s:=⟨[(2,_,_),(3,_,_),(4,_,_),(5,_,_)],[(.l 2,_),(.l 3,_),(.l 4,_),(.l 5,_),(.o 0,_)],[(.b (.l 2) 1,_),(.b (.l 2) 2,_),(.b (.l 2) 3,_),(.b (.l 2) 4,_),(.b (.l 2) 5,_)],[]⟩) (B4 (⟨U J,U J,U J,U J,O⟩) (⟨U J,U J,U J,U J,U J,O⟩) (⟨rfl,rfl,rfl,rfl,rfl,O⟩)) ?_;refine H9 (.l 2) J (fun w1 w2 w3 w4 w5=>?_);refine B6 (s:=⟨[(2,_,_),(3,_,_),(4,_,_),(5,_,_)],[(.l 2,_),(.l 3,_),(.l 4,_),(.l 5,_),(.o 0,_)],[(.b (.l 2) 1,_),(.b (.l 2) 2,_),(.b (.l 2) 3,_),(.b (.l 2) 4,_),(.b (.l 2) 5,_)],[]⟩) (B4 (⟨U J,U J,U J,U J,O⟩) (⟨U J,U J,U J,U J,U J,O⟩) (⟨rfl,rfl,rfl,rfl,rfl,O⟩)) ?_;refine A6 ?_;refine A5 J J J (B8 J gU J J J J J) ?_;refine A5 J J J (B8 J gU J J J J J) ?_;refine Z0 (.l 2) (.l 3) osR J J J J J J ⟨rfl,rfl,rfl,rfl,rfl,rfl⟩ ⟨rfl,rfl,rfl,rfl,rfl,rfl⟩ J J J J J J J J J ⟨rfl,rfl⟩ J (Ci l q n w1 w2 w3 w4 w5 hl hq1 (by omega)) J J J J J J J J ?_;refine B0 ?_;refine B6 (s:=⟨[(2,_,_),(3,_,_),(4,_,_),(5,_,_)],[(.l 2,_),(.l 3,_),(.l 4,_),(.l 5,_),(.o 0,_)],[(.b (.l 2) 1,_),(.b (.l 2) 2,_),(.b (.l 2) 3,_),(.b (.l 2) 4,_),(.b (.l 2) 5,_)],[]⟩) (B4 (⟨U J,U J,U J,U J,O⟩) (⟨U J,U J,U J,U J,U J,O⟩) (⟨rfl,rfl,rfl,rfl,rfl,O⟩)) ?_
    refine B6 (s:=⟨[(2,_,_),(3,_,_),(4,_,_),(5,_,_)],[(.l 2,_),(.l 3,_),(.l 4,_),(.l 5,_),(.o 0,_)],[(.b (.l 2) 1,_),(.b (.l 2) 2,_),(.b (.l 2) 3,_),(.b (.l 2) 4,_),(.b (.l 2) 5,_)],[]⟩) (B4 (⟨U J,U J,U J,U J,O⟩) (⟨U J,U J,U J,U J,U J,O⟩) (⟨rfl,rfl,rfl,rfl,rfl,O⟩)) ?_;refine H9 (.l 2) J (fun w1 w2 w3 w4 w5=>?_);refine B6 (s:=⟨[(2,_,_),(3,_,_),(4,_,_),(5,_,_)],[(.l 2,_),(.l 3,_),(.l 4,_),(.l 5,_),(.o 0,_)],[(.b (.l 2) 1,_),(.b (.l 2) 2,_),(.b (.l 2) 3,_),(.b (.l 2) 4,_),(.b (.l 2) 5,_)],[]⟩) (B4 (⟨U J,U J,U J,U J,O⟩) (⟨U J,U J,U J,U J,U J,O⟩) (⟨rfl,rfl,rfl,rfl,rfl,O⟩)) ?_;refine A8 ?_;refine awp_drawn' (by kernel_rfl) ?_;refine D7 J J J J J J J gU J J J J J ?_;refine D7 J J J J J J J gU J J J J J ?_;refine E9 J J J J J J J gU gU (up (F7 l _ _ (by omega) (le3 hl (by first|assumption|(dsimp only; first|assumption|exact hq4 _|exact hq5 _))))) J ?_;refine F3 J J J J J J J J J J J J ?_;refine F3 J J J J J J J J J J J J ?_;refine F6 (by kernel_rfl) ?_;refine B6 (s:=⟨[(2,_,_),(4,_,_),(5,_,_)],[(.l 2,_),(.l 4,_),(.l 5,_),(.o 0,_)],[(.b (.l 2) 1,_),(.b (.l 2) 2,_),(.b (.l 2) 3,_),(.b (.l 2) 4,_),(.b (.l 2) 5,_)],[]⟩) (B4 (⟨U J,U J,U J,O⟩) (⟨U J,U J,U J,U J,O⟩) (⟨(ak J (ak J (ak J (ak J (ak J (rfl)))))),(ak J (ak J (ak J (ak J (ak J (rfl)))))),(ak J (ak J (ak J (ak J (ak J (rfl)))))),(ak J (ak J (ak J (ak J (ak J (rfl)))))),(ak J (ak J (ak J (ak J (ak J (rfl)))))),O⟩)) ?_
    refine I5 (.l 4) (.l 2) J J J J J ?_;refine B6 (s:=⟨[(2,_,_),(4,_,_),(5,_,_)],[(.l 2,_),(.l 4,_),(.l 5,_),(.o 0,_)],[(.b (.l 4) 1,_),(.b (.l 4) 2,_),(.b (.l 4) 3,_),(.b (.l 4) 4,_),(.b (.l 4) 5,_)],[]⟩) (B4 (⟨U J,U J,U J,O⟩) (⟨U J,U J,U J,U J,O⟩) (⟨rfl,rfl,rfl,rfl,rfl,O⟩)) ?_;refine C1 ?_
    repeat(first|refine tR ?_|refine bR ?_)
    refine J5 J ?_ ⟨⟨_,rfl,rfl⟩,O⟩ (by simp) J J J J J J
    rfl
   ·try simp only [nn,B3,T.rows_len,Tk.rows_len] at hcv2
    refine A8 (A6 ?_);refine A5 J J J (B7 J J gU gU J) ?_;refine A5 J J J (A9 J gU) ?_;refine B0 ?_;refine B9 J (fun hcv3=>?_) (fun hcv3=>?_)
    ·try simp only [nn,B3,T.rows_len,Tk.rows_len] at hcv3
     subst hcv3
     rw[O9 hk hline (Rr l n 0 q)]
     refine A8 (A6 ?_);refine A5 J J J (B8 J gU J J J J J) ?_;refine C7 J J J J J J gU gU (up (U5 l q (by omega) hq1)) J ?_;refine A5 J J J (A7 J gU) ?_;refine A5 J J J (C6 J gU J) ?_;refine A5 J J J (C6 J gU J) ?_;refine A5 J J J (A9 J gU) ?_;refine C3 J (C8 J J J J J J J) ?_;refine B0 ?_;refine B6 (s:=⟨[(2,_,_),(3,_,_),(4,_,_),(5,_,_),(8,_,_)],[(.l 2,_),(.l 3,_),(.l 4,_),(.l 5,_),(.o 0,_)],[(.b (.l 2) 1,_),(.b (.l 2) 2,_),(.b (.l 2) 3,_),(.b (.l 2) 4,_),(.b (.l 2) 5,_)],[]⟩) (B4 (⟨U J,U J,U J,U J,U J,O⟩) (⟨U J,U J,U J,U J,U J,O⟩) (⟨rfl,rfl,rfl,rfl,rfl,O⟩)) ?_;refine A6 ?_;refine A5 J J J (B1 J gU J J) ?_;refine C3 J (J0 J J J J J J J) ?_;refine A5 J J J (A7 J gU) ?_;refine C3 J (F8 J J J J J J J (by first|omega|(simp only [List.length_append,List.length_singleton,B3]; omega)) (by first|omega|(simp only [List.length_append,List.length_singleton,B3]; omega))) ?_;refine A5 J J J (B1 J gU J J) ?_;refine C3 J (I4 J J J J J J J) ?_
     refine B0 ?_;refine B6 (s:=⟨[(2,_,_),(3,_,_),(4,_,_),(5,_,_)],[(.l 2,_),(.l 3,_),(.l 4,_),(.l 5,_),(.o 0,_)],[(.b (.l 2) 1,_),(.b (.l 2) 2,_),(.b (.l 2) 3,_),(.b (.l 2) 4,_),(.b (.l 2) 5,_)],[]⟩) (B4 (⟨U J,U J,U J,U J,O⟩) (⟨U J,U J,U J,U J,U J,O⟩) (⟨rfl,rfl,rfl,rfl,rfl,O⟩)) ?_;refine B6 (s:=⟨[(2,_,_),(3,_,_),(4,_,_),(5,_,_)],[(.l 2,_),(.l 3,_),(.l 4,_),(.l 5,_),(.o 0,_)],[(.b (.l 2) 1,_),(.b (.l 2) 2,_),(.b (.l 2) 3,_),(.b (.l 2) 4,_),(.b (.l 2) 5,_)],[]⟩) (B4 (⟨U J,U J,U J,U J,O⟩) (⟨U J,U J,U J,U J,U J,O⟩) (⟨rfl,rfl,rfl,rfl,rfl,O⟩)) ?_;refine H9 (.l 2) J (fun w1 w2 w3 w4 w5=>?_);refine B6 (s:=⟨[(2,_,_),(3,_,_),(4,_,_),(5,_,_)],[(.l 2,_),(.l 3,_),(.l 4,_),(.l 5,_),(.o 0,_)],[(.b (.l 2) 1,_),(.b (.l 2) 2,_),(.b (.l 2) 3,_),(.b (.l 2) 4,_),(.b (.l 2) 5,_)],[]⟩) (B4 (⟨U J,U J,U J,U J,O⟩) (⟨U J,U J,U J,U J,U J,O⟩) (⟨rfl,rfl,rfl,rfl,rfl,O⟩)) ?_;refine A8 ?_;refine awp_drawn' (by kernel_rfl) ?_;refine D7 J J J J J J J gU J J J J J ?_;refine D7 J J J J J J J gU J J J J J ?_
     refine E9 J J J J J J J gU gU (up (F7 l _ _ (by omega) (le3 hl (by first|assumption|(dsimp only; first|assumption|exact hq4 _|exact hq5 _))))) J ?_;refine F3 J J J J J J J J J J J J ?_;refine F3 J J J J J J J J J J J J ?_;refine F6 (by kernel_rfl) ?_;refine B6 (s:=⟨[(2,_,_),(4,_,_),(5,_,_)],[(.l 2,_),(.l 4,_),(.l 5,_),(.o 0,_)],[(.b (.l 2) 1,_),(.b (.l 2) 2,_),(.b (.l 2) 3,_),(.b (.l 2) 4,_),(.b (.l 2) 5,_)],[]⟩) (B4 (⟨U J,U J,U J,O⟩) (⟨U J,U J,U J,U J,O⟩) (⟨(ak J (ak J (ak J (ak J (ak J (rfl)))))),(ak J (ak J (ak J (ak J (ak J (rfl)))))),(ak J (ak J (ak J (ak J (ak J (rfl)))))),(ak J (ak J (ak J (ak J (ak J (rfl)))))),(ak J (ak J (ak J (ak J (ak J (rfl)))))),O⟩)) ?_;refine I5 (.l 4) (.l 2) J J J J J ?_;refine B6 (s:=⟨[(2,_,_),(4,_,_),(5,_,_)],[(.l 2,_),(.l 4,_),(.l 5,_),(.o 0,_)],[(.b (.l 4) 1,_),(.b (.l 4) 2,_),(.b (.l 4) 3,_),(.b (.l 4) 4,_),(.b (.l 4) 5,_)],[]⟩) (B4 (⟨U J,U J,U J,O⟩) (⟨U J,U J,U J,U J,O⟩) (⟨rfl,rfl,rfl,rfl,rfl,O⟩)) ?_;refine C1 ?_
     repeat(first|refine tR ?_|refine bR ?_)
     refine J5 J ?_ ⟨⟨_,rfl,rfl⟩,O⟩ (by simp) J J J J J J;exact congrArg (fun z=>X.tup [.agg (narC n.name (strR n.roles) (Fs.rows n.fresh) z (Sp.rows n.steps) (Gl.rows n.goals)), .agg (pbx l (F0 l [59] (J9 l q).2))]) (Cg _ _).symm
    ·try simp only [nn,B3,T.rows_len,Tk.rows_len] at hcv3
     refine A8 (A6 ?_);refine A5 J J J (B7 J J gU gU J) ?_;refine A5 J J J (A9 J gU) ?_;refine B0 ?_;refine B9 J (fun hcv4=>?_) (fun hcv4=>?_)
     ·try simp only [nn,B3,T.rows_len,Tk.rows_len] at hcv4
      subst hcv4
      rw[O9 hk hline (Qs l n 0 q)]
      refine B6 (s:=⟨[(2,_,_),(3,_,_),(4,_,_),(5,_,_),(6,_,_)],[(.l 2,_),(.l 3,_),(.l 4,_),(.l 5,_),(.o 0,_)],[(.b (.l 2) 1,_),(.b (.l 2) 2,_),(.b (.l 2) 3,_),(.b (.l 2) 4,_),(.b (.l 2) 5,_)],[]⟩) (B4 (⟨U J,U J,U J,U J,U J,O⟩) (⟨U J,U J,U J,U J,U J,O⟩) (⟨rfl,rfl,rfl,rfl,rfl,O⟩)) ?_;refine H9 (.l 2) J (fun w1 w2 w3 w4 w5=>?_);refine B6 (s:=⟨[(2,_,_),(3,_,_),(4,_,_),(5,_,_),(6,_,_)],[(.l 2,_),(.l 3,_),(.l 4,_),(.l 5,_),(.o 0,_)],[(.b (.l 2) 1,_),(.b (.l 2) 2,_),(.b (.l 2) 3,_),(.b (.l 2) 4,_),(.b (.l 2) 5,_)],[]⟩) (B4 (⟨U J,U J,U J,U J,U J,O⟩) (⟨U J,U J,U J,U J,U J,O⟩) (⟨rfl,rfl,rfl,rfl,rfl,O⟩)) ?_;refine A6 ?_;refine A5 J J J (B8 J gU J J J J J) ?_;refine A5 J J J (B8 J gU J J J J J) ?_;refine A5 J J J (A7 J gU) ?_;refine Z0 (.l 2) (.l 3) osR J J J J J J ⟨rfl,rfl,rfl,rfl,rfl,rfl⟩ ⟨rfl,rfl,rfl,rfl,rfl,rfl⟩ J J J J J J J J J ⟨rfl,rfl⟩ J (Dm l q n (0) w1 w2 w3 w4 w5 hl hq1 (by omega)) J J J J J J J J ?_;refine B0 ?_;refine B6 (s:=⟨[(2,_,_),(3,_,_),(4,_,_),(5,_,_)],[(.l 2,_),(.l 3,_),(.l 4,_),(.l 5,_),(.o 0,_)],[(.b (.l 2) 1,_),(.b (.l 2) 2,_),(.b (.l 2) 3,_),(.b (.l 2) 4,_),(.b (.l 2) 5,_)],[]⟩) (B4 (⟨U J,U J,U J,U J,O⟩) (⟨U J,U J,U J,U J,U J,O⟩) (⟨rfl,rfl,rfl,rfl,rfl,O⟩)) ?_
      refine B6 (s:=⟨[(2,_,_),(3,_,_),(4,_,_),(5,_,_)],[(.l 2,_),(.l 3,_),(.l 4,_),(.l 5,_),(.o 0,_)],[(.b (.l 2) 1,_),(.b (.l 2) 2,_),(.b (.l 2) 3,_),(.b (.l 2) 4,_),(.b (.l 2) 5,_)],[]⟩) (B4 (⟨U J,U J,U J,U J,O⟩) (⟨U J,U J,U J,U J,U J,O⟩) (⟨rfl,rfl,rfl,rfl,rfl,O⟩)) ?_;refine H9 (.l 2) J (fun w1 w2 w3 w4 w5=>?_);refine B6 (s:=⟨[(2,_,_),(3,_,_),(4,_,_),(5,_,_)],[(.l 2,_),(.l 3,_),(.l 4,_),(.l 5,_),(.o 0,_)],[(.b (.l 2) 1,_),(.b (.l 2) 2,_),(.b (.l 2) 3,_),(.b (.l 2) 4,_),(.b (.l 2) 5,_)],[]⟩) (B4 (⟨U J,U J,U J,U J,O⟩) (⟨U J,U J,U J,U J,U J,O⟩) (⟨rfl,rfl,rfl,rfl,rfl,O⟩)) ?_;refine A8 ?_;refine awp_drawn' (by kernel_rfl) ?_;refine D7 J J J J J J J gU J J J J J ?_;refine D7 J J J J J J J gU J J J J J ?_;refine E9 J J J J J J J gU gU (up (F7 l _ _ (by omega) (le3 hl (by first|assumption|(dsimp only; first|assumption|exact hq4 _|exact hq5 _))))) J ?_;refine F3 J J J J J J J J J J J J ?_;refine F3 J J J J J J J J J J J J ?_;refine F6 (by kernel_rfl) ?_;refine B6 (s:=⟨[(2,_,_),(4,_,_),(5,_,_)],[(.l 2,_),(.l 4,_),(.l 5,_),(.o 0,_)],[(.b (.l 2) 1,_),(.b (.l 2) 2,_),(.b (.l 2) 3,_),(.b (.l 2) 4,_),(.b (.l 2) 5,_)],[]⟩) (B4 (⟨U J,U J,U J,O⟩) (⟨U J,U J,U J,U J,O⟩) (⟨(ak J (ak J (ak J (ak J (ak J (rfl)))))),(ak J (ak J (ak J (ak J (ak J (rfl)))))),(ak J (ak J (ak J (ak J (ak J (rfl)))))),(ak J (ak J (ak J (ak J (ak J (rfl)))))),(ak J (ak J (ak J (ak J (ak J (rfl)))))),O⟩)) ?_
      refine I5 (.l 4) (.l 2) J J J J J ?_;refine B6 (s:=⟨[(2,_,_),(4,_,_),(5,_,_)],[(.l 2,_),(.l 4,_),(.l 5,_),(.o 0,_)],[(.b (.l 4) 1,_),(.b (.l 4) 2,_),(.b (.l 4) 3,_),(.b (.l 4) 4,_),(.b (.l 4) 5,_)],[]⟩) (B4 (⟨U J,U J,U J,O⟩) (⟨U J,U J,U J,U J,O⟩) (⟨rfl,rfl,rfl,rfl,rfl,O⟩)) ?_;refine C1 ?_
      repeat(first|refine tR ?_|refine bR ?_)
      refine J5 J ?_ ⟨⟨_,rfl,rfl⟩,O⟩ (by simp) J J J J J J
      rfl
     ·try simp only [nn,B3,T.rows_len,Tk.rows_len] at hcv4
      refine A8 (A6 ?_);refine A5 J J J (B7 J J gU gU J) ?_;refine A5 J J J (A9 J gU) ?_;refine B0 ?_;refine B6 (s:=⟨[(2,_,_),(3,_,_),(4,_,_),(5,_,_),(6,_,_),(70,_,_)],[(.l 2,_),(.l 3,_),(.l 4,_),(.l 5,_),(.o 0,_)],[(.b (.l 2) 1,_),(.b (.l 2) 2,_),(.b (.l 2) 3,_),(.b (.l 2) 4,_),(.b (.l 2) 5,_)],[]⟩) (B4 (⟨U J,U J,U J,U J,U J,U J,O⟩) (⟨U J,U J,U J,U J,U J,O⟩) (⟨rfl,rfl,rfl,rfl,rfl,O⟩)) ?_;refine B9 J (fun hcv5=>?_) (fun hcv5=>?_)
      ·try simp only [nn,B3,T.rows_len,Tk.rows_len] at hcv5
       subst hcv5
       rw[O9 hk hline (Sl l n 0 q)]
       refine B6 (s:=⟨[(2,_,_),(3,_,_),(4,_,_),(5,_,_),(6,_,_)],[(.l 2,_),(.l 3,_),(.l 4,_),(.l 5,_),(.o 0,_)],[(.b (.l 2) 1,_),(.b (.l 2) 2,_),(.b (.l 2) 3,_),(.b (.l 2) 4,_),(.b (.l 2) 5,_)],[]⟩) (B4 (⟨U J,U J,U J,U J,U J,O⟩) (⟨U J,U J,U J,U J,U J,O⟩) (⟨rfl,rfl,rfl,rfl,rfl,O⟩)) ?_;refine H9 (.l 2) J (fun w1 w2 w3 w4 w5=>?_);refine B6 (s:=⟨[(2,_,_),(3,_,_),(4,_,_),(5,_,_),(6,_,_)],[(.l 2,_),(.l 3,_),(.l 4,_),(.l 5,_),(.o 0,_)],[(.b (.l 2) 1,_),(.b (.l 2) 2,_),(.b (.l 2) 3,_),(.b (.l 2) 4,_),(.b (.l 2) 5,_)],[]⟩) (B4 (⟨U J,U J,U J,U J,U J,O⟩) (⟨U J,U J,U J,U J,U J,O⟩) (⟨rfl,rfl,rfl,rfl,rfl,O⟩)) ?_;refine A6 ?_;refine A5 J J J (B8 J gU J J J J J) ?_;refine A5 J J J (B8 J gU J J J J J) ?_;refine A5 J J J (A7 J gU) ?_;refine Z0 (.l 2) (.l 3) osR J J J J J J ⟨rfl,rfl,rfl,rfl,rfl,rfl⟩ ⟨rfl,rfl,rfl,rfl,rfl,rfl⟩ J J J J J J J J J ⟨rfl,rfl⟩ J (Dq l q n (0) w1 w2 w3 w4 w5 hl hq1 (by omega)) J J J J J J J J ?_;refine B0 ?_;refine B6 (s:=⟨[(2,_,_),(3,_,_),(4,_,_),(5,_,_)],[(.l 2,_),(.l 3,_),(.l 4,_),(.l 5,_),(.o 0,_)],[(.b (.l 2) 1,_),(.b (.l 2) 2,_),(.b (.l 2) 3,_),(.b (.l 2) 4,_),(.b (.l 2) 5,_)],[]⟩) (B4 (⟨U J,U J,U J,U J,O⟩) (⟨U J,U J,U J,U J,U J,O⟩) (⟨rfl,rfl,rfl,rfl,rfl,O⟩)) ?_
       refine B6 (s:=⟨[(2,_,_),(3,_,_),(4,_,_),(5,_,_)],[(.l 2,_),(.l 3,_),(.l 4,_),(.l 5,_),(.o 0,_)],[(.b (.l 2) 1,_),(.b (.l 2) 2,_),(.b (.l 2) 3,_),(.b (.l 2) 4,_),(.b (.l 2) 5,_)],[]⟩) (B4 (⟨U J,U J,U J,U J,O⟩) (⟨U J,U J,U J,U J,U J,O⟩) (⟨rfl,rfl,rfl,rfl,rfl,O⟩)) ?_;refine H9 (.l 2) J (fun w1 w2 w3 w4 w5=>?_);refine B6 (s:=⟨[(2,_,_),(3,_,_),(4,_,_),(5,_,_)],[(.l 2,_),(.l 3,_),(.l 4,_),(.l 5,_),(.o 0,_)],[(.b (.l 2) 1,_),(.b (.l 2) 2,_),(.b (.l 2) 3,_),(.b (.l 2) 4,_),(.b (.l 2) 5,_)],[]⟩) (B4 (⟨U J,U J,U J,U J,O⟩) (⟨U J,U J,U J,U J,U J,O⟩) (⟨rfl,rfl,rfl,rfl,rfl,O⟩)) ?_;refine A8 ?_;refine awp_drawn' (by kernel_rfl) ?_;refine D7 J J J J J J J gU J J J J J ?_;refine D7 J J J J J J J gU J J J J J ?_;refine E9 J J J J J J J gU gU (up (F7 l _ _ (by omega) (le3 hl (by first|assumption|(dsimp only; first|assumption|exact hq4 _|exact hq5 _))))) J ?_;refine F3 J J J J J J J J J J J J ?_;refine F3 J J J J J J J J J J J J ?_;refine F6 (by kernel_rfl) ?_;refine B6 (s:=⟨[(2,_,_),(4,_,_),(5,_,_)],[(.l 2,_),(.l 4,_),(.l 5,_),(.o 0,_)],[(.b (.l 2) 1,_),(.b (.l 2) 2,_),(.b (.l 2) 3,_),(.b (.l 2) 4,_),(.b (.l 2) 5,_)],[]⟩) (B4 (⟨U J,U J,U J,O⟩) (⟨U J,U J,U J,U J,O⟩) (⟨(ak J (ak J (ak J (ak J (ak J (rfl)))))),(ak J (ak J (ak J (ak J (ak J (rfl)))))),(ak J (ak J (ak J (ak J (ak J (rfl)))))),(ak J (ak J (ak J (ak J (ak J (rfl)))))),(ak J (ak J (ak J (ak J (ak J (rfl)))))),O⟩)) ?_
       refine I5 (.l 4) (.l 2) J J J J J ?_;refine B6 (s:=⟨[(2,_,_),(4,_,_),(5,_,_)],[(.l 2,_),(.l 4,_),(.l 5,_),(.o 0,_)],[(.b (.l 4) 1,_),(.b (.l 4) 2,_),(.b (.l 4) 3,_),(.b (.l 4) 4,_),(.b (.l 4) 5,_)],[]⟩) (B4 (⟨U J,U J,U J,O⟩) (⟨U J,U J,U J,U J,O⟩) (⟨rfl,rfl,rfl,rfl,rfl,O⟩)) ?_;refine C1 ?_
       repeat(first|refine tR ?_|refine bR ?_)
       refine J5 J ?_ ⟨⟨_,rfl,rfl⟩,O⟩ (by simp) J J J J J J
       rfl
      ·try simp only [nn,B3,T.rows_len,Tk.rows_len] at hcv5
       rw[O9 hk hline (Rj l n 0 q hcv1 hcv2 hcv3 hcv4 hcv5)]
       refine C0 ?_;refine B6 (s:=⟨[(2,_,_),(3,_,_),(4,_,_),(5,_,_)],[(.l 2,_),(.l 3,_),(.l 4,_),(.l 5,_),(.o 0,_)],[(.b (.l 2) 1,_),(.b (.l 2) 2,_),(.b (.l 2) 3,_),(.b (.l 2) 4,_),(.b (.l 2) 5,_)],[]⟩) (B4 (⟨U J,U J,U J,U J,O⟩) (⟨U J,U J,U J,U J,U J,O⟩) (⟨rfl,rfl,rfl,rfl,rfl,O⟩)) ?_;refine H9 (.l 2) J (fun w1 w2 w3 w4 w5=>?_);refine B6 (s:=⟨[(2,_,_),(3,_,_),(4,_,_),(5,_,_)],[(.l 2,_),(.l 3,_),(.l 4,_),(.l 5,_),(.o 0,_)],[(.b (.l 2) 1,_),(.b (.l 2) 2,_),(.b (.l 2) 3,_),(.b (.l 2) 4,_),(.b (.l 2) 5,_)],[]⟩) (B4 (⟨U J,U J,U J,U J,O⟩) (⟨U J,U J,U J,U J,U J,O⟩) (⟨rfl,rfl,rfl,rfl,rfl,O⟩)) ?_;refine A8 ?_;refine awp_drawn' (by kernel_rfl) ?_;refine D7 J J J J J J J gU J J J J J ?_;refine D7 J J J J J J J gU J J J J J ?_;refine E9 J J J J J J J gU gU (up (F7 l _ _ (by omega) (le3 hl (by first|assumption|(dsimp only; first|assumption|exact hq4 _|exact hq5 _))))) J ?_;refine F3 J J J J J J J J J J J J ?_;refine F3 J J J J J J J J J J J J ?_;refine F6 (by kernel_rfl) ?_;refine B6 (s:=⟨[(2,_,_),(4,_,_),(5,_,_)],[(.l 2,_),(.l 4,_),(.l 5,_),(.o 0,_)],[(.b (.l 2) 1,_),(.b (.l 2) 2,_),(.b (.l 2) 3,_),(.b (.l 2) 4,_),(.b (.l 2) 5,_)],[]⟩) (B4 (⟨U J,U J,U J,O⟩) (⟨U J,U J,U J,U J,O⟩) (⟨(ak J (ak J (ak J (ak J (ak J (rfl)))))),(ak J (ak J (ak J (ak J (ak J (rfl)))))),(ak J (ak J (ak J (ak J (ak J (rfl)))))),(ak J (ak J (ak J (ak J (ak J (rfl)))))),(ak J (ak J (ak J (ak J (ak J (rfl)))))),O⟩)) ?_
       refine I5 (.l 4) (.l 2) J J J J J ?_;refine B6 (s:=⟨[(2,_,_),(4,_,_),(5,_,_)],[(.l 2,_),(.l 4,_),(.l 5,_),(.o 0,_)],[(.b (.l 4) 1,_),(.b (.l 4) 2,_),(.b (.l 4) 3,_),(.b (.l 4) 4,_),(.b (.l 4) 5,_)],[]⟩) (B4 (⟨U J,U J,U J,O⟩) (⟨U J,U J,U J,U J,O⟩) (⟨rfl,rfl,rfl,rfl,rfl,O⟩)) ?_;refine C1 ?_
       repeat(first|refine tR ?_|refine bR ?_)
       refine J5 J ?_ ⟨⟨_,rfl,rfl⟩,O⟩ (by simp) J J J J J J
       rfl
abbrev xnie (r : Nar × Int × Int) : X:=.tup [.agg r.1.cells, .c (.i .i64 r.2.1), .c (.i .i64 r.2.2)]
def Nq (l : List Tk) : Nar × Int × Int :=
 if (endE l (Av l).2).2≠0 then (nar0,(endE l (Av l).2).1,(endE l (Av l).2).2)
 else if narE E3 (Av l).1≠0 then (nar0,0,narE E3 (Av l).1)
 else ((Av l).1,0,0)
def Ak (s : List UInt8) : Nar × Int × Int:=if (tokP s).2.2≠0 then (nar0,(tokP s).2.1,(tokP s).2.2) else Nq (tokP s).1
theorem Yz (l : List Tk) (n : Nar) (p : PS) : p.at'≤(Ao l n p).2.at':=Nat.le_trans (H0 l K2 p).1 (Nat.le_trans (Iy l n (Q7 l p) (C9 l K2 p).1 (C9 l K2 p).2).1 (J8 l [59] _).1)
theorem Xc (s : List UInt8) (hs : s.length≤9223372036854775807) : Ctr sys 103 [xs s] [] (uCl (tokP s)) none []:=by rw[← Zh s]; exact Fd s hs
theorem Si {l : List Tk} {m : Nat} {n : Nar} {p : PS} (h : p.bad=true∨symQ l p [125]=true) : R3 l m n p=(n,p):=by
 cases m with
 | zero=>rfl
 | succ m =>
  rw[R3]
  split
  ·rfl
  ·rename_i hb
   rw[if_pos (h.resolve_left hb)]
theorem Yr {l : List Tk} {m : Nat} {n : Nar} {p : PS} (h : p.bad=false) (hq : symQ l p [125]=false) : R3 l (m + 1) n p=R3 l m (Ar l n p).1 (Ar l n p).2:=by
 rw[R3,if_neg (by rw[h]; simp),if_neg (by rw[hq]; simp)]
theorem uA8 {l : List Tk} {n : Nar} {p : PS} (h : (n,p)=R3 l (l.length + 2) { nar0 with name:=(C9 l [] (chR l R5 ⟨0,false⟩).2).1 } (F0 l [123] (C9 l [] (chR l R5 ⟨0,false⟩).2).2)) : Rz l=(n,F0 l [125] p):=by
 unfold Rz; dsimp only; rw[← h]
set_option maxHeartbeats 8000000 in
theorem Mw (s : List UInt8) (hs : s.length≤100000) : Ctr sysO 69 [xs s] [] (xnie (Ak s)) none []:=by
 have hcnt:=Tp s
 have htl:=Tk.rows_len (tokP s).1
 obtain ⟨l,hl⟩ : ∃ l,(tokP s).1=l:=⟨_,rfl⟩
 have hll : l.length≤100000:=by rw[← hl]; omega
 have a1:=(Oa l R5 ⟨0,false⟩).2 (Nat.zero_le _)
 have a2:=(H0 l [] (chR l R5 ⟨0,false⟩).2).2 a1
 have a3:=(J8 l [123] (C9 l [] (chR l R5 ⟨0,false⟩).2).2).2 a2
 have hn1:=V8 l ⟨0,false⟩ R5 (by omega) (by dsimp only; omega)
 have hn2:=K1 l (chR l R5 ⟨0,false⟩).2 (by omega) (by omega)
 have hn3:=F7 l (C9 l [] (chR l R5 ⟨0,false⟩).2).2 [123] (by omega) (by omega)
 obtain ⟨h1,h2⟩:=uAF l
 refine D1 Tryz.func69 J J J J J J ?_;refine A8 (A6 ?_);refine C3 J (D9 J J J) ?_;refine A5 J J J (A9 J gU) ?_;refine A5 J J J (A9 J gU) ?_;refine B0 ?_;refine A8 (A6 ?_);refine A5 J J J (A7 J gU) ?_;refine C7 J J J J J J gU gU (up (Xc _ (by omega))) J ?_;refine A5 J J J (A7 J gU) ?_;refine A5 J J J (C6 J gU J) ?_;refine A5 J J J (C6 J gU J) ?_;refine A5 J J J (C6 J gU J) ?_;refine A5 J J J (A9 J gU) ?_;refine A5 J J J (A9 J gU) ?_;refine A5 J J J (A9 J gU) ?_;refine B0 ?_;refine B6 (s:=⟨[(2,_,_),(5,_,_),(6,_,_),(7,_,_)],[(.l 2,_)],[],[]⟩) (B4 (⟨U J,U J,U J,U J,O⟩) (⟨U J,O⟩) O) ?_;refine A8 ?_;refine A8 (A6 ?_);refine A5 J J J (A7 J gU) ?_;refine A5 J J J (B7 J J gU gU J) ?_;refine B0 ?_;refine B9 J (fun hc=>?_) (fun hc=>?_)
 ·try simp only [nn,B3,T.rows_len,Tk.rows_len] at hc
  refine A8 (A6 ?_);refine A5 J J J (G7 J Tryz.underlying27 J gU) ?_;refine A5 J J J (A7 J gU) ?_;refine A5 J J J (A7 J gU) ?_;refine C3 J (C8 J J J J J J J) ?_;refine A5 J J J (A9 J gU) ?_;refine A5 J J J (A9 J gU) ?_;refine B0 ?_;refine C1 ?_
  repeat(first|refine tR ?_|refine bR ?_)
  refine C5 J ?_ O
  (rw[Ak,if_pos hc]; rfl)
 ·try simp only [nn,B3,T.rows_len,Tk.rows_len] at hc
  have hpe : Ak s=Nq l:=by rw[Ak,if_neg (by simpa using hc),hl]
  rw[hpe]
  rw[hl]
  refine C0 ?_;refine A8 (A6 ?_);refine C3 J (Gp J J J J) ?_;refine B0 ?_;refine A8 (A6 ?_);refine A5 J J J (A7 J gU) ?_;refine A5 J J J (G7 J Tryz.underlying119 J gU) ?_;refine E6 (xs:=[_,_]) J J J J J J J J J gU J ?_;refine C7 J J J J J J gU gU (up hn1) J ?_;refine A5 J J J (A7 J gU) ?_;refine A5 J J J (C6 J gU J) ?_;refine A5 J J J (C6 J gU J) ?_;refine C3 J (D9 J J J) ?_;refine A5 J J J (A9 J gU) ?_;refine H3 (s:=⟨[(2,_,_),(5,_,_),(8,_,_),(10,_,_),(29,_,_)],[(.l 10,_),(.l 2,_),(.l 8,_)],[],[]⟩) (B4 (⟨U J,U J,U J,U J,U J,O⟩) (⟨U J,U J,U J,O⟩) O) ?_;refine C3 J (C8 J J J J J J J) ?_;refine B0 ?_;refine A8 (A6 ?_);refine A5 J J J (B8 J gU J J J J J) ?_;refine C7 J J J J J J gU gU (up hn2) J ?_;refine A5 J J J (A7 J gU) ?_;refine A5 J J J (C6 J gU J) ?_;refine A5 J J J (C6 J gU J) ?_;refine A5 J J J (B1 J gU J J) ?_;refine C3 J (C8 J J J J J J J) ?_;refine C3 J (C8 J J J J J J J) ?_
  refine B0 ?_;refine B6 (s:=⟨[(2,_,_),(5,_,_),(8,_,_),(10,_,_)],[(.l 10,_),(.l 2,_),(.l 8,_)],[],[]⟩) (B4 (⟨U J,U J,U J,U J,O⟩) (⟨U J,U J,U J,O⟩) O) ?_;refine A8 (A6 ?_);refine A5 J J J (B8 J gU J J J J J) ?_;refine C7 J J J J J J gU gU (up hn3) J ?_;refine C3 J (C8 J J J J J J J) ?_;refine B0 ?_;refine A8 ?_;refine C4 ?_;refine U9 (.l 8) 1 1 J J J ?_;refine U9 (.l 8) 2 3 J J J ?_;refine U9 (.l 8) 3 1 J J J ?_;refine U9 (.l 8) 4 7 J J J ?_;refine U9 (.l 8) 5 5 J J J ?_;refine F2 (ι:=PS × Nar) { t:=[(2,_,_),(5,_,_),(8,_,_),(10,_,_)],bx:=[(.l 2,_)],ow:=[(.b (.l 8) 1,_),(.b (.l 8) 2,_),(.b (.l 8) 3,_),(.b (.l 8) 4,_),(.b (.l 8) 5,_)] } (fun q=>[]) (fun q=>[((.l 10),pbx l q.1),((.l 8),q.2.cells)]) (fun q=>q.1.at'≤l.length∧(q.1.bad=false→q.2.Le q.1.at'∧q.2.Sm (2 * l.length + 2)) ∧ ∃ m,(q.1.bad=true∨l.length < m + q.1.at')∧R3 l m q.2 q.1=R3 l (l.length + 2) { nar0 with name:=(C9 l [] (chR l R5 ⟨0,false⟩).2).1 } (F0 l [123] (C9 l [] (chR l R5 ⟨0,false⟩).2).2)) (fun q=>(l.length - q.1.at') + (if q.1.bad=true then 0 else 1)) ((F0 l [123] (C9 l [] (chR l R5 ⟨0,false⟩).2).2,{ nar0 with name:=(C9 l [] (chR l R5 ⟨0,false⟩).2).1 })) (⟨a3,fun _=>⟨⟨Nat.zero_le _,Nat.zero_le _,Nat.zero_le _,Nat.zero_le _,Nat.zero_le _⟩,⟨fun s hs=>by simp [nar0] at hs,fun s hs=>by simp [nar0] at hs⟩⟩,l.length + 2, .inr (by omega),rfl⟩) (B4 (⟨U J,U J,U J,U J,O⟩) (⟨U J,U J,U J,O⟩) (⟨rfl,rfl,rfl,rfl,rfl,O⟩)) ?_
  intro q hok
  dsimp only [List.cons_append,List.nil_append] at *
  obtain ⟨q,n⟩:=q
  dsimp only at hok ⊢
  obtain ⟨hq,hln,m,hm,hi⟩:=hok
  refine A8 ?_;refine A8 (A6 ?_);refine A5 J J J (B1 J gU J J) ?_;refine A5 J J J (B2 J gU J J J J) ?_;refine A5 J J J (F9 J gU) ?_;refine A5 J J J (A7 J gU) ?_;refine A5 J J J (B8 J gU J J J J J) ?_;refine C7 J J J J J J gU (fun hh=>gA ((fun hh=>hh) hh) (gA J (rfl))) (up (P8 l q _ (by omega) (by omega))) J ?_;refine A5 J J J (F9 J (fun hh=>hh)) ?_;refine A5 J J J (E2 J J gU (fun _ hi=>gP J hi)) ?_;refine B0 ?_;refine B6 (s:=⟨[(2,_,_),(5,_,_),(8,_,_),(10,_,_),(45,_,_)],[(.l 10,_),(.l 2,_),(.l 8,_)],[(.b (.l 8) 1,_),(.b (.l 8) 2,_),(.b (.l 8) 3,_),(.b (.l 8) 4,_),(.b (.l 8) 5,_)],[]⟩) (B4 (⟨U J,U J,U J,U J,U J,O⟩) (⟨U J,U J,U J,O⟩) (⟨rfl,rfl,rfl,rfl,rfl,O⟩)) ?_;refine B9 J (fun hc2=>?_) (fun hc2=>?_)
  ·try simp only [nn,B3,T.rows_len,Tk.rows_len] at hc2
   obtain ⟨hb,hz⟩:=hc2
   obtain ⟨hle,hsm⟩:=hln hb
   have hm : l.length < m + q.at':=hm.resolve_left (by rw[hb]; simp)
   obtain ⟨m,rfl⟩ : ∃ j,m=j + 1:=⟨m - 1,by omega⟩
   rw[Yr hb hz] at hi
   obtain ⟨i1,i2⟩:=Pw l n q hq
   have i5:=Yz l n q
   have i3:=uAx (l:=l) (p:=q) hle
   have i4:=uAt (l:=l) (p:=q) hsm hq
   obtain ⟨e1,e2⟩:=Ra l n q
   rw[← e1] at i1 i2 i5 i3
   refine C0 ?_;refine C4 ?_;refine B6 (s:=⟨[(2,_,_),(5,_,_),(8,_,_),(10,_,_)],[(.l 10,_),(.l 2,_),(.l 8,_)],[(.b (.l 8) 1,_),(.b (.l 8) 2,_),(.b (.l 8) 3,_),(.b (.l 8) 4,_),(.b (.l 8) 5,_)],[]⟩) (B4 (⟨U J,U J,U J,U J,O⟩) (⟨U J,U J,U J,O⟩) (⟨rfl,rfl,rfl,rfl,rfl,O⟩)) ?_;refine H9 (.l 8) J (fun w1 w2 w3 w4 w5=>?_);refine B6 (s:=⟨[(2,_,_),(5,_,_),(8,_,_),(10,_,_)],[(.l 10,_),(.l 2,_),(.l 8,_)],[(.b (.l 8) 1,_),(.b (.l 8) 2,_),(.b (.l 8) 3,_),(.b (.l 8) 4,_),(.b (.l 8) 5,_)],[]⟩) (B4 (⟨U J,U J,U J,U J,O⟩) (⟨U J,U J,U J,O⟩) (⟨rfl,rfl,rfl,rfl,rfl,O⟩)) ?_;refine A6 ?_;refine A5 J J J (B8 J gU J J J J J) ?_;refine A5 J J J (B8 J gU J J J J J) ?_;refine Z0 (.l 8) (.l 10) osR J J J J J J ⟨rfl,rfl,rfl,rfl,rfl,rfl⟩ ⟨rfl,rfl,rfl,rfl,rfl,rfl⟩ J J J J J J J J J ⟨rfl,rfl⟩ J (Sz l q n w1 w2 w3 w4 w5 (by omega) hq (hle.mono (by omega))) J J J J J J J J ?_;refine B0 ?_;refine ⟨((Ar l n q).2,(Ar l n q).1),?_,?_,B4 (⟨U J,U J,U J,U J,O⟩) (⟨⟨_,rfl,?_⟩,⟨⟨_,rfl,?_⟩,⟨U J,O⟩⟩⟩) (⟨rfl,rfl,rfl,rfl,rfl,O⟩)⟩
   ·refine ⟨i1,fun hb2=>?_,m,?_,hi⟩
    ·dsimp only at hb2 ⊢
     have he:=e2 hb2
     rw[he]; exact ⟨i3,i4⟩
    ·cases hz2 : (Ar l n q).2.bad with
     | true=>exact .inl J
     | false=>exact .inr (by have := i2 hz2; dsimp only; omega)
   ·dsimp only
    rw[hb]
    cases hz2 : (Ar l n q).2.bad with
    | true=>simp; omega
    | false=>have := i2 hz2; simp; omega
   all_goals rfl
  ·try simp only [nn,B3,T.rows_len,Tk.rows_len] at hc2
   have hst : q.bad=true∨symQ l q [125]=true:=by
    rcases hc2 with x | x
    ·exact .inl (by simpa using x)
    ·exact .inr (by simpa using x)
   rw[Si hst] at hi
   have hR:=uA8 hi
   rw[hR] at h1 h2
   dsimp only at h1 h2
   have hpl : Nq l=(if (endE l (F0 l [125] q)).2≠0 then (nar0,(endE l (F0 l [125] q)).1,(endE l (F0 l [125] q)).2) else if narE E3 (Av l).1≠0 then (nar0,0,narE E3 (Av l).1) else ((Av l).1,0,0)):=by
    rw[Nq,← h1]
   rw[← h1] at h2
   refine E1 ?_
   repeat(first|refine D5 ?_|refine D6 ?_|refine D2 J ?_)
   refine A8 (A6 ?_);refine A5 J J J (B8 J gU J J J J J) ?_;refine C7 J J J J J J gU gU (up (F7 l q [125] (by omega) (by omega))) J ?_;refine C3 J (C8 J J J J J J J) ?_;refine B0 ?_;refine A8 ?_;refine A8 (A6 ?_);refine A5 J J J (B1 J gU J J) ?_;refine A5 J J J (B2 J gU J J J J) ?_;refine A5 J J J (A7 J gU) ?_;refine A5 J J J (B1 J gU J J) ?_;refine A5 J J J (B2 J (fun hh=>hh) J J J J) ?_;refine A5 J J J (A7 J gU) ?_;refine A5 J J J (G8 J (fun hh=>hh) J J) ?_;refine A5 J J J (B7 J J (fun hh=>hh) (fun hh=>hh) J) ?_;refine A5 J J J (E5 J J gU (fun _ hi=>gP J hi)) ?_;refine B0 ?_;refine B6 (s:=⟨[(2,_,_),(8,_,_),(10,_,_),(62,_,_)],[(.l 10,_),(.l 2,_),(.l 8,_)],[(.b (.l 8) 1,_),(.b (.l 8) 2,_),(.b (.l 8) 3,_),(.b (.l 8) 4,_),(.b (.l 8) 5,_)],[]⟩) (B4 (⟨U J,U J,U J,U J,O⟩) (⟨U J,U J,U J,O⟩) (⟨rfl,rfl,rfl,rfl,rfl,O⟩)) ?_;refine B9 J (fun hc3=>?_) (fun hc3=>?_)
   ·try simp only [nn,B3,T.rows_len,Tk.rows_len] at hc3
    have he : endE l (F0 l [125] q)=(Ow l (F0 l [125] q),2):=by rw[endE,if_pos (by rcases hc3 with x | x; exact .inl x; exact .inr (by omega))]
    rw[he,if_pos (by simp)] at hpl
    refine A8 (A6 ?_);refine A5 J J J (G7 J Tryz.underlying27 J gU) ?_;refine A5 J J J (B8 J gU J J J J J) ?_;refine C7 J J J J J J gU gU (up (Uw _ _ (by omega))) J ?_;refine C3 J (C8 J J J J J J J) ?_;refine A5 J J J (A9 J gU) ?_;refine A5 J J J (A9 J gU) ?_;refine B0 ?_;refine C1 ?_
    repeat(first|refine tR ?_|refine bR ?_)
    refine C5 J ?_ O
    (rw[hpl]; rfl)
   ·try simp only [nn,B3,T.rows_len,Tk.rows_len] at hc3
    have he : endE l (F0 l [125] q)=(0,0) := by rw[endE,if_neg (by rintro (x | x); { rw[hc3.1] at x; cases x }; { have := hc3.2; omega })]
    rw[he,if_neg (by simp),← h2 hc3.1] at hpl
    have hb:=U2 hc3.1
    obtain ⟨hle,hsm⟩:=hln hb
    refine C0 ?_;refine A8 ?_;refine A8 (A6 ?_);refine A5 J J J (B8 J gU J J J J J) ?_;refine C7 J J J J J J gU gU (up (Gt n (fun s hs=>Nat.le_trans (hsm.steps s hs) (by omega)) (fun g hg=>Nat.le_trans (hsm.goals g hg) (by omega)))) J ?_;refine A5 J J J (A9 J gU) ?_;refine B0 ?_;refine A8 (A6 ?_);refine A5 J J J (A7 J gU) ?_;refine A5 J J J (B7 J J gU gU J) ?_;refine B0 ?_;refine B6 (s:=⟨[(2,_,_),(8,_,_),(11,_,_),(69,_,_)],[(.l 2,_),(.l 8,_)],[(.b (.l 8) 1,_),(.b (.l 8) 2,_),(.b (.l 8) 3,_),(.b (.l 8) 4,_),(.b (.l 8) 5,_)],[]⟩) (B4 (⟨U J,U J,U J,U J,O⟩) (⟨U J,U J,O⟩) (⟨rfl,rfl,rfl,rfl,rfl,O⟩)) ?_;refine B9 J (fun hc4=>?_) (fun hc4=>?_)
    ·try simp only [nn,B3,T.rows_len,Tk.rows_len] at hc4
     rw[if_pos hc4] at hpl
     refine A8 (A6 ?_);refine A5 J J J (G7 J Tryz.underlying27 J gU) ?_;refine A5 J J J (A7 J gU) ?_;refine C3 J (C8 J J J J J J J) ?_;refine A5 J J J (A9 J gU) ?_;refine A5 J J J (A9 J gU) ?_;refine B0 ?_;refine C1 ?_
     repeat(first|refine tR ?_|refine bR ?_)
     refine C5 J ?_ O
     (rw[hpl]; rfl)
    ·try simp only [nn,B3,T.rows_len,Tk.rows_len] at hc4
     rw[if_neg (by simpa using hc4)] at hpl
     refine C0 ?_;refine A8 (A6 ?_);refine A5 J J J (B8 J gU J J J J J) ?_;refine C3 J (C8 J J J J J J J) ?_;refine A5 J J J (A9 J gU) ?_;refine A5 J J J (A9 J gU) ?_;refine B0 ?_;refine C1 ?_
     repeat(first|refine tR ?_|refine bR ?_)
     refine C5 J ?_ O
     (rw[hpl]; rfl)
theorem Ox (s : List UInt8) (hs : s.length≤100000) : Ctr sys 69 [xs s] [] (xnie (Ak s)) none []:=(Mw s hs).wk J fun _ h=>h
theorem Im {R : List (List UInt8)} : ∀ (D : List (List UInt8 × Option (List UInt8))) (seen : List (List UInt8)),decA R seen D=0→seen.Nodup→(seen++D.map (·.1)).Nodup
 | [],seen,_,hs=>by simpa using hs
 | x :: r,seen,h,hs=>by
  rw[decA] at h
  split at h
  ·rename_i q; exact absurd h q
  ·rename_i q
   have q:=Decidable.not_not.1 q
   have hx : ¬ x.1 ∈ seen:=by
    intro hm
    have hc : seen.contains x.1=true:=List.contains_iff_mem.2 hm
    unfold dclE at q
    split at q
    ·simp at q
    split at q
    ·simp at q
    ·first|(rw[if_pos hc] at q; simp at q)|simp at q
   have h1 : (seen++[x.1]).Nodup:=by
    rw[List.nodup_append]
    refine ⟨hs,by simp,fun a ha b hb=>?_⟩
    rw[List.mem_singleton.1 hb]
    intro e; exact hx (e ▸ ha)
   have := Im r (seen++[x.1]) h h1
   rw[List.append_assoc] at this
   exact this
theorem Yf {n : Nar} (h : decE n=0) : (H2 n).Nodup:=by
 have := Im (dclL n) [] h (by simp)
 rw[List.nil_append,Iu] at this
 exact this
theorem uBG {nm : NmB} {n : Nar} (h : (chkE nm n).2=0) : narE nm n=0∧decE n=0∧useE n=(0,0):=by
 unfold chkE at h
 split at h
 ·rename_i q; exact absurd h q
 rename_i q1
 split at h
 ·rename_i q; exact absurd h q
 rename_i q2
 refine ⟨Decidable.not_not.1 q1,Decidable.not_not.1 q2,?_⟩
 unfold useE at h ⊢
 split at h
 ·rename_i q; exact absurd h q
 ·rename_i q; rw[if_neg q]; exact Uv h
abbrev ChG:=List UInt8→Int→List UInt8 × Int
mutual
def chT (g : ChG) : T→T
 | .mk k n s ks=>.mk k (if k=2 then (g n s).1 else n) (if k=2 then (g n s).2 else s) (chTs g ks)
def chTs (g : ChG) : List T→List T
 | []=>[]
 | t :: ts=>chT g t :: chTs g ts
end
theorem Kg (g : ChG) : ∀ l : List T,chTs g l=l.map (chT g)
 | []=>by rw[chTs]; rfl
 | t :: ts=>by rw[chTs,Kg g ts]; rfl
theorem Nn (g : ChG) (t : T) : chT g t=⟨t.kind,if t.kind=2 then (g t.name t.sort).1 else t.name,if t.kind=2 then (g t.name t.sort).2 else t.sort,t.kids.map (chT g)⟩:=by
 cases t; rw[chT,Kg]; rfl
mutual
theorem Qh (g : ChG) : ∀ t : T,(chT g t).size=t.size
 | .mk k n s ks=>by rw[chT,T.size,T.size,Gc g ks]
theorem Gc (g : ChG) : ∀ l : List T,T.sizes (chTs g l)=T.sizes l
 | []=>by rw[chTs]
 | t :: ts=>by rw[chTs,T.sizes,T.sizes,Qh g t,Gc g ts]
end
mutual
def knT (K : List (List UInt8)) : T→Bool
 | .mk k n _ ks=>(decide (k≠2) || K.contains n) && knTs K ks
def knTs (K : List (List UInt8)) : List T→Bool
 | []=>true
 | t :: ts=>knT K t && knTs K ts
end
theorem Ph (K : List (List UInt8)) : ∀ l : List T,knTs K l=l.all (knT K)
 | []=>by rw[knTs]; rfl
 | t :: ts=>by rw[knTs,Ph K ts]; rfl
theorem Tn (K : List (List UInt8)) (t : T) : knT K t=((decide (t.kind≠2) || K.contains t.name) && t.kids.all (knT K)):=by cases t; rw[knT,Ph]; rfl
theorem Gg {K : List (List UInt8)} {t : T} (h3 : t.kind=3) (h : ∀ x ∈ t.kids,knT K x=true) : knT K t=true:=by
 rw[Tn,List.all_eq_true.2 h,h3]; rfl
theorem Cz {t : T} (h : gdB t=true) : ∀ x ∈ t.kids,gdB x=true:=by
 rw[uAg] at h
 simp only [Bool.and_eq_true] at h
 exact Qx h.2
theorem uAp {t : T} (h : gdB t=true) (h3 : t.kind≠3) : t.kind=2∧t.kids=[]:=by
 rw[uAg] at h
 simp only [Bool.and_eq_true,Bool.or_eq_true,decide_eq_true_eq,List.isEmpty_iff] at h
 rcases h.1.2 with q | q
 ·exact q
 ·exact absurd q h3
theorem Mq {R K : List (List UInt8)} (hRK : ∀ x ∈ R,x ∈ K) {t : T} (hg : gdB t=true) (h : Cj R t=true) : knT K t=true:=by
 rw[Cj,Bool.and_eq_true,decide_eq_true_eq] at h
 obtain ⟨_,hk⟩:=uAp hg (by omega)
 rw[Tn,hk,h.1]
 simp only [List.all_nil,Bool.and_true,Bool.or_eq_true]
 exact .inr (List.contains_iff_mem.2 (hRK _ (List.contains_iff_mem.1 h.2)))
theorem X8 {t : T} {w : List UInt8} {k : Int} (h : isT t w k=true) : t.kind=3∧t.name=w∧(t.kids.length : Int)=k:=by
 simp only [isT,Bool.and_eq_true,decide_eq_true_eq] at h
 exact ⟨h.1.1,h.1.2,h.2⟩
theorem Vg {t : T} (h : (t.kids.length : Int)=1) : t.kids=[kid t 0]:=by
 match hk : t.kids,h with
 | [a],_=>simp [kid,hk]
theorem Wk {t : T} (h : (t.kids.length : Int)=2) : t.kids=[kid t 0,kid t 1]:=by
 match hk : t.kids,h with
 | [a,b],_=>simp [kid,hk]
theorem Vx {R K : List (List UInt8)} (hRK : ∀ x ∈ R,x ∈ K) {t : T} (hg : gdB t=true) (h : Ax R t=true) : knT K t=true:=by
 rw[Ax,Bool.and_eq_true] at h
 obtain ⟨h1,h2,h3⟩:=X8 h.1
 have hk:=Vg h3
 refine Gg h1 fun x hx=>?_
 have hgx:=Cz hg x hx
 rw[hk,List.mem_singleton] at hx
 subst hx
 exact Mq hRK hgx h.2
theorem uAB {R K : List (List UInt8)} (hRK : ∀ x ∈ R,x ∈ K) {t : T} (hg : gdB t=true) (h : pubT R t=true) : knT K t=true:=by
 rw[pubT,Bool.and_eq_true] at h
 obtain ⟨h1,h2,h3⟩:=X8 h.1
 have hk:=Vg h3
 refine Gg h1 fun x hx=>?_
 have hgx:=Cz hg x hx
 rw[hk,List.mem_singleton] at hx
 subst hx
 exact Vx hRK hgx h.2
theorem uCn {R K : List (List UInt8)} (hRK : ∀ x ∈ R,x ∈ K) : ∀ (n : Nat) (t : T),t.size≤n→gdB t=true→O8 R K t=0→knT K t=true:=by
 intro n
 induction n with
 | zero=>intro t h; have := t.size_pos; omega
 | succ n ih =>
  intro t ht hg hc
  rw[T4] at hc
  split at hc
  ·rename_i h3
   obtain ⟨h2,hk⟩:=uAp hg h3
   split at hc
   ·rename_i hm
    rw[Tn,hk,hm]; simp
   ·cases hc
  ·rename_i h3
   have h3:=Decidable.not_not.1 h3
   split at hc
   ·cases hc
   ·rename_i k hl
    have hz:=errs_zero.1 hc
    have hin : ∀ x ∈ t.kids.take k,knT K x=true:=fun x hx=>by
     have hm:=List.mem_of_mem_take hx
     have := M8 hm
     exact ih x (by omega) (Cz hg x hm) (hz x hx)
    unfold J2 at hl
    split at hl
    ·rename_i q
     have hk2 : (t.kids.length : Int)=2:=by rcases q with q | q <;> exact (X8 q).2.2
     have e : 2=k:=Option.some.inj hl
     subst e
     rw[List.take_of_length_le (by omega)] at hin
     exact Gg h3 hin
    split at hl
    ·rename_i q
     have hk2:=(X8 q).2.2
     have e : 1=k:=Option.some.inj hl
     subst e
     rw[List.take_of_length_le (by omega)] at hin
     exact Gg h3 hin
    split at hl
    ·rename_i q
     have hk2 : (t.kids.length : Int)=2:=by rcases q with q | q <;> exact (X8 q.1).2.2
     have e : 1=k:=Option.some.inj hl
     subst e
     have hk:=Wk hk2
     have hg1 : gdB (kid t 1)=true:=Cz hg _ (by rw[hk]; simp)
     have h1 : knT K (kid t 1)=true:=by
      rcases q with q | q
      ·exact uAB hRK hg1 q.2
      ·exact Vx hRK hg1 q.2
     refine Gg h3 fun x hx=>?_
     rw[hk] at hx hin
     rcases List.mem_cons.1 hx with e | e
     ·exact hin x (by rw[e]; simp)
     ·rw[List.mem_singleton.1 e]; exact h1
    split at hl
    ·rename_i q
     rcases q with q | q
     ·exact uAB hRK hg q
     ·obtain ⟨⟨⟨q1,q2⟩,q3⟩,q4⟩:=shkT_iff.1 q
      have hk:=Wk (X8 q1).2.2
      refine Gg h3 fun x hx=>?_
      have hgx:=Cz hg x hx
      rw[hk] at hx
      rcases List.mem_cons.1 hx with e | e
      ·subst e; exact Mq hRK hgx q2
      ·rw[List.mem_singleton.1 e] at hgx ⊢; exact Mq hRK hgx q3
    ·cases hl
structure ChkOk (n : Nar) : Prop where
 nar : NarOk n
 nd : (H2 n).Nodup
 msg : ∀ s ∈ n.steps,knT (H2 n) s.msg=true∧gdB s.msg=true∧s.msg.size≤40
 dat : ∀ g ∈ n.goals,∀ t ∈ g.data,knT (H2 n) t=true∧gdB t=true∧t.size≤40
theorem Ib (n : Nar) : ∀ x ∈ n.roles,x ∈ H2 n:=fun x hx=>by rw[Ff]; simp [hx]
theorem Zk {n : Nar} (h : (chkE E3 n).2=0) : ChkOk n:=by
 obtain ⟨c1,c2,c3⟩:=uBG h
 have hok:=My c1
 have hu : (useE n).2=0:=by rw[c3]
 have hst : (lnE (V9 n) Sp.line n.steps).2=0∧(lnE (Q5 n) Gl.line n.goals).2=0:=by
  unfold useE at hu
  split at hu
  ·rename_i q; exact absurd hu q
  ·rename_i q; exact ⟨Decidable.not_not.1 q,hu⟩
 refine ⟨hok,Yf c2,fun s hs=>?_,fun g hg t ht=>?_⟩
 ·have hm:=(hok.steps s hs).2.2
  have hz:=lnE_zero.1 hst.1 s hs
  have hgd:=Zr hm.raw
  have ht : O8 n.roles (H2 n) s.msg=0:=by
   unfold V9 at hz
   split at hz
   ·rename_i q; exact absurd hz q
   ·exact hz
  exact ⟨uCn (Ib n) _ _ (Nat.le_refl _) hgd ht,hgd,hm.size⟩
 ·have hm:=(hok.goals g hg).data t ht
  have hz:=lnE_zero.1 hst.2 g hg
  have hgd:=Zr hm.raw
  have he : errs (O8 n.roles (H2 n)) g.data=0:=by
   unfold Q5 at hz
   split at hz
   ·cases hz
   split at hz
   ·rename_i q; exact absurd hz q.2
   ·exact hz
  exact ⟨uCn (Ib n) _ _ (Nat.le_refl _) hgd (errs_zero.1 he t ht),hgd,hm.size⟩
theorem Vn (l : List T) : ∀ (i : Nat) (row : List C),(T.rows l)[i]? = some row→row.length=4:=by
 intro i row h
 rw[T.rows_eq,List.getElem?_map] at h
 cases hx : l[i]? with
 | none=>rw[hx] at h; cases h
 | some t=>rw[hx] at h; cases h; rfl
theorem Dr (l : List T) : (T.rows l).flatten.length=l.length * 4:=by
 induction l with
 | nil=>simp [T.rows_eq]
 | cons x l ih =>
  have e : T.rows (x :: l)=x.cells :: T.rows l:=by simp [T.rows_eq]
  rw[e,List.flatten_cons,List.length_append,ih]
  have : x.cells.length=4:=rfl
  simp only [List.length_cons]; omega
theorem uAh (l : List T) (i : Nat) (t : T) : (T.rows l).set i t.cells=T.rows (l.set i t):=by
 rw[T.rows_eq,T.rows_eq,List.map_set]
theorem Kc (l : List T) (i : Nat) (t : T) (h : i < l.length) : H6 (T.rows l).flatten (i * 4) t.cells=(T.rows (l.set i t)).flatten:=by
 rw[Kf (Vn l) (by rw[T.rows_len]; exact h) J,uAh]
theorem uAW (l : List T) (i : Nat) (t : T) (h : i < l.length) : Nat.ble (0 + i * 4 + t.cells.length) (T.rows l).flatten.length=true:=by
 rw[Dr]
 exact Nat.ble_eq_true_of_le (by show 0 + i * 4 + 4≤_; omega)
def tZ : T:=⟨0,[],0,[]⟩
def padT (l : List T) (n : Nat) : List T:=l++List.replicate (n - l.length) tZ
theorem uBe {l : List T} {n : Nat} (h : l.length≤n) : (padT l n).length=n:=by rw[padT,List.length_append,List.length_replicate]; omega
theorem Zi {l : List T} {n : Nat} (h : l.length < n) (x : T) : (padT l n).set l.length x=padT (l++[x]) n:=by
 rw[padT,padT,List.set_append_right _ _ (Nat.le_refl _),Nat.sub_self]
 obtain ⟨m,hm⟩ : ∃ m,n - l.length=m + 1:=⟨n - l.length - 1,by omega⟩
 have e : n - (l++[x]).length=m:=by simp; omega
 rw[hm,e,List.replicate_succ,List.set_cons_zero,List.append_assoc]; rfl
theorem Xv {l : List T} {n : Nat} (h : l.length=n) : padT l n=l:=by rw[padT,h,Nat.sub_self]; simp
theorem uBc (n : Nat) : (List.replicate n tZ.cells).flatten=(T.rows (padT [] n)).flatten:=by
 rw[padT,T.rows_eq,List.nil_append,List.map_replicate]; rfl
end Go.Proofs.YteidahabkfgfjaaGreat
namespace Go.Abs
variable {Z : Pg}
theorem uCY {P : Program} {o : Oper} {a : Act} {w : World} {K K' : Act→World→Prop} {A B : Act→World→Prop} (h : ∀ a w,K a w→K' a w) (hh : o.wp P a w K (Qn A)) : o.wp P a w K' (Qn B):=by
 unfold Oper.wp at *
 generalize (execOp a.eval o).run P w=r at *
 have hl : LetsOut (Qn A)→LetsOut (Qn B):=fun ⟨_,_,q⟩=>q.elim
 cases r with
 | ok n w' =>
  cases n <;> simp only [Oper.upon] at hh ⊢ <;>
   first
    | exact h _ _ hh
    | exact Calls.mono hh (fun e w'' he=>by cases e <;> first|exact h _ _ he|exact he.elim|exact hl he)
    | exact Rows.mono hh (fun _ _ he=>h _ _ he)
 | halt x w'=>cases x <;> simp only [Oper.upon] at hh ⊢ <;> first|exact hh|exact hh.elim
def Nd (Z : Pg) (N : Nat) (ops : Array Oper) (Q : St→Prop) (fuel : Nat) (listed : Array Bool) (st : St) : Prop :=
 ∀ (E : Env) (G : Gh) (a : Act) (w : World),Rel E G st a w→EOk Z N E→wpAny Z.P .any ops (Qn fun a' w'=>∃ G' st',Q st'∧Rel E G' st' a' w') fuel listed a w
theorem Dj {N : Nat} {ops : Array Oper} {Q : St→Prop} {listed : Array Bool} {st : St} (hr : Region.ready .any ops listed=[]) (h : Q st) : Nd Z N ops Q 0 listed st :=
 fun E G a w hrel _=>⟨hr,G,st,h,hrel⟩
def uAy (Z : Pg) (N : Nat) (ops : Array Oper) (Q : St→Prop) (fuel : Nat) (listed : Array Bool) (st : St) : List Nat→Prop
 | []=>True
 | i :: r=>(∃ o,ops[i]? = some o∧AL Z N ops [o] (Nd Z N ops Q fuel (listed.setIfInBounds i true)) st)∧uAy Z N ops Q fuel listed st r
theorem Sg {N : Nat} {ops : Array Oper} {Q : St→Prop} {fuel : Nat} {listed : Array Bool} {st : St} : ∀ {rs : List Nat},uAy Z N ops Q fuel listed st rs → ∀ i ∈ rs,∃ o,ops[i]? = some o∧AL Z N ops [o] (Nd Z N ops Q fuel (listed.setIfInBounds i true)) st
 | [],_,i,hi=>absurd hi (List.not_mem_nil)
 | j :: r,h,i,hi=>by
  rcases List.mem_cons.1 hi with e | e
  ·subst e; exact h.1
  ·exact Sg h.2 i e
theorem F1 {N : Nat} {ops : Array Oper} {Q : St→Prop} {fuel : Nat} {listed : Array Bool} {st : St} (i : Nat) (rs : List Nat) (hr : Region.ready .any ops listed=i :: rs) (h : uAy Z N ops Q fuel listed st (i :: rs)) : Nd Z N ops Q (fuel + 1) listed st:=by
 intro E G a w hrel hE
 refine ⟨fun e=>absurd (hr.symm.trans e) (List.cons_ne_nil _ _),fun j hj=>?_⟩
 rw[hr] at hj
 obtain ⟨o,ho,hal⟩:=Sg h j hj
 have := hal E G a w hrel hE (wpAny Z.P .any ops (Qn fun a' w'=>∃ G' st',Q st'∧Rel E G' st' a' w') fuel (listed.setIfInBounds j true)) fun st' G' a' w' hn hr'=>hn E G' a' w' hr' hE
 unfold wpList at this
 unfold wpOp
 simp only [ho]
 split
 ·rename_i hw
  rw[if_pos hw] at this
  rcases this with q | q
  ·exact .inl (uCY (fun _ _ q=>q) q)
  ·obtain ⟨_,_,_,q⟩:=q
   exact q.elim
 ·rename_i hw
  rw[if_neg hw] at this
  exact this
theorem uAS {N : Nat} {Q : Exit→St→Prop} {st : St} {id : Nat} {ops : List Oper} (h : Nd Z N ops.toArray (Q .normal) ops.toArray.size (Array.replicate ops.toArray.size false) st) : AWP Z N (.region id ops.toArray true) Q st:=by
 intro E G a w hr hE
 refine wp_mono (wp_region_any Z.mix (h E G a _ hr.drew hE)) ?_
 intro e a' w' hq
 cases e <;> first|exact hq|exact hq.elim
end Go.Abs
namespace Go.Abs
variable {Z : Pg}
def CtrN (Z : Pg) (f : FuncId) (args : List X) (L : Nat) (cs : List C) : Prop :=
 O4 Z f ∧ ∀ (w : World) (G : Gh) (vs : List Value),All2 (XRep w G) args vs→(∀ b o,G.W b o ≠ .none→b < w.heap.size)→(∀ b o n,G.W b o ≠ .box n)→(∀ b o p,G.W b o ≠ .own p)→GlOk Z w G →
  Calls Z.P f vs.toArray w fun e w'=>∃ (v : Value) (G' : Gh) (b o0 cap : Nat),e = .returned v∧Fr (fun _ _=>False) w.heap.size w w' ∧
   (∀ b o,G.W b o = .imm→G'.W b o = .imm)∧(∀ b o,b < w.heap.size→G'.W b o = .imm→G.W b o = .imm)∧(∀ b o,G'.W b o ≠ .none→b < w'.heap.size)∧v = .slice (some ⟨b,o0,none⟩) L cap∧L≤cap∧w.heap.size≤b∧b < w'.heap.size ∧
   ∀ (j : Nat) (c : C),cs[j]? = some c→G'.W b (o0 + j) ≠ .imm∧w'.frozen? ⟨b,o0 + j,none⟩=false ∧ ∃ u,w'.cell? ⟨b,o0 + j,none⟩=some u∧CRep w' G'.S c u
def retN (T : List (Option TyI)) (rs : List ResultVar) (sz L : Nat) (cs : List C) : Exit→St→Prop
 | .normal,s | .ret,s=>∃ j : Nat,s.box (.l j)=some cs∧resX T s rs=some (.v (.ms (.l j) sz 0 L))
 | _,_=>False
theorem V4 {f : FuncId} {fn : Func} {c : Code} {N : Nat} {rs : List ResultVar} {args : List X} (sz : Nat) {L : Nat} {cs : List C} (hL : 0 < L) (hcs : cs≠[])
  (hf : Z.P.funcs[f]? = some fn) (hb : fn.body = some c) (hname : (fn.name == "runtime.NumGoroutine") = false) (hN : fn.ntmps = N) (hrs : fn.results = rs.toArray) (hlen' : Nat.ble args.length N = true)
  (h : AWP Z N c (retN Z.T rs sz L cs) (st0 args [])) (hx : ∀ A,Z.ex A:=by intro _; exact O) : CtrN Z f args L cs:=by
 have hlen : args.length≤N:=Nat.le_of_ble_eq_true hlen'
 refine ⟨⟨fn,hf,by rw[hb]; rfl,hname⟩,?_⟩
 intro w G vs hvs hwf hbox hown hgl
 let E : Env:={ B:=w.heap.size,w0:=w,W0:=G.W,A0:=fun j=>G.A (.o j),nt:=N }
 let a : Act:={ tmps:=vs.toArray++Array.replicate (fn.ntmps - vs.toArray.size) undef,defers:=[] }
 have hal : args.length=vs.length:=hvs.len
 have hrel : Rel E G (st0 args []) a w:={
  df:=rfl
  tm:=by
   intro k g x hk
   obtain ⟨i,y,h1,h2,h3⟩:=Y0 0 args k (g,x) hk
   simp only [Prod.mk.injEq] at h3
   obtain ⟨rfl,rfl⟩:=h3
   obtain ⟨v,hv,hx⟩:=hvs.get i x h2
   have hi : i < vs.length:=(List.getElem?_eq_some_iff.1 hv).1
   refine ⟨v,?_,fun _=>hx,fun hg=>by simp at hg⟩
   show (vs.toArray++_)[k]? = _
   rw[h1,Nat.zero_add,Array.getElem?_append_left (by simpa using hi)]
   simpa using hv
  bx:=by
   intro n cs hn
   obtain ⟨i,h1,h2⟩:=M4 0 [] n cs hn
   rw[h1,Nat.zero_add]
   simp at h2
  ow:=by intro p sz hp; simp [St.own,st0,getO] at hp
  wf:=hwf
  olB:=fun b o n _ hn=>.inl ⟨n,hn⟩
  olO:=fun b o p _ hn=>⟨p,hn⟩
  nt:=by
   show (vs.toArray++Array.replicate (fn.ntmps - vs.toArray.size) undef).size=N
   simp; omega
  oA:=fun _=>rfl
  im:=fun b o h=>h
  im':=fun b o _ h=>.inl h
  fr:=Fr.refl _ _ _
  hB:=Nat.le_refl _
  lo:=fun b o _=>⟨fun n hn=>by exact absurd hn (hbox b o n),fun _ p=>hown b o p⟩
  bd:=fun t k cs hn=>by
   obtain ⟨i,h1,_⟩:=M4 0 [] _ cs hn
   simp at h1
  mp:=fun x hx=>by cases hx }
 refine calls_of_wp hf hb ?_
 have hwp:=h E G a w hrel ⟨rfl,fun _=>rfl,fun g hg=>⟨(hgl g hg).1,(hgl g hg).2.1,fun o hm=>by
  rcases hm with ⟨n,hn⟩ | ⟨p,hp⟩
  ·exact (hgl g hg).2.2.1 o n hn
  ·exact (hgl g hg).2.2.2 o p hp⟩,hx _⟩
 refine wp_mono hwp ?_
 rintro e a' w' ⟨G',s,hq,hr'⟩
 have key : (∃ j : Nat,s.box (.l j)=some cs∧resX Z.T s rs=some (.v (.ms (.l j) sz 0 L))) →
   a'.defers=[] ∧ ∃ v,(results fn a'.tmps).run Z.P w' = .ok v w' ∧ ∃ (u : Value) (G' : Gh) (b o0 cap : Nat),Ending.returned v = .returned u∧Fr (fun _ _=>False) w.heap.size w w' ∧
    (∀ b o,G.W b o = .imm→G'.W b o = .imm)∧(∀ b o,b < w.heap.size→G'.W b o = .imm→G.W b o = .imm)∧(∀ b o,G'.W b o ≠ .none→b < w'.heap.size)∧u = .slice (some ⟨b,o0,none⟩) L cap∧L≤cap∧w.heap.size≤b∧b < w'.heap.size ∧
    ∀ (j : Nat) (c : C),cs[j]? = some c→G'.W b (o0 + j) ≠ .imm∧w'.frozen? ⟨b,o0 + j,none⟩=false ∧ ∃ u,w'.cell? ⟨b,o0 + j,none⟩=some u∧CRep w' G'.S c u:=by
  rintro ⟨j,hbj,hres⟩
  have hbx:=hr'.bx _ _ hbj
  refine ⟨hr'.df,?_⟩
  unfold resX at hres
  have hys : ∃ ys,Ab Z.T s rs=some ys∧X.v (.ms (.l j) sz 0 L)=An ys:=by
   split at hres
   ·rename_i ys hy; simp only [Option.some.injEq] at hres; exact ⟨ys,hy,hres.symm⟩
   ·simp at hres
  obtain ⟨ys,hys,hrb⟩:=hys
  obtain ⟨us,hrun,hall,hone⟩:=R7 hr' hys
  have hresv : ∃ v,(results fn a'.tmps).run Z.P w' = .ok v w'∧XRep w' G' (An ys) v:=by
   have hr0 : (results fn a'.tmps).run Z.P w' = .ok (if h : us.toArray.size=1 then us.toArray[0] else .tuple us.toArray) w':=by
    rw[Z5,hrs,List.mapM_toArray]
    simp only [Sem.run_bind,Sem.run_map,hrun,Result.andThen_ok,Sem.run_pure]
   exact ⟨_,hr0,Fm hall⟩
  obtain ⟨v,hv1,hv2⟩:=hresv
  refine ⟨v,hv1,?_⟩
  have hfr : Fr (fun _ _=>False) w.heap.size w w':=hr'.fr.mono (Nat.le_refl _) fun b o _ hm=>by
   rcases hm with ⟨n,hn⟩ | ⟨p,hp⟩
   ·exact absurd hn (hbox b o n)
   ·exact absurd hp (hown b o p)
  let G2 : Gh:={ A:=G'.A,W:=fun b o=>match G'.W b o with | .imm=>.imm | _=>.none }
  have hS : ∀ b o,G'.S b o→G2.S b o:=fun b o hs=>by unfold Gh.S at *; simp [G2,hs]
  have hI : ∀ b o,G2.W b o = .imm→G'.W b o = .imm:=fun b o hi=>by
   simp only [G2] at hi
   split at hi
   ·assumption
   ·simp at hi
  rw[← hrb] at hv2
  have hv3 : ∃ cap,L≤cap∧v = .slice (some ⟨(G'.A (.l j)).1,(G'.A (.l j)).2 + 0,none⟩) L cap:=by
   rcases hv2 with ⟨h0,_⟩ | h
   ·omega
   ·exact h
  obtain ⟨cap,hcap,hv4⟩:=hv3
  obtain ⟨c0,hc0⟩ : ∃ c,cs[0]? = some c:=by
   cases cs with
   | nil=>exact absurd J hcs
   | cons c r=>exact ⟨c,rfl⟩
  have hb0:=(hbx 0 c0 hc0).1
  refine ⟨v,G2,(G'.A (.l j)).1,(G'.A (.l j)).2,cap,rfl,hfr,fun b o hi=>hS b o (hr'.im b o hi),fun b o hb hi=>?_,fun b o hn=>?_,by rw[hv4]; rfl,hcap,?_,?_,fun k c hk=>?_⟩
  ·rcases hr'.im' b o hb (hI b o hi) with h1 | ⟨p,hp⟩
   ·exact h1
   ·exact absurd hp (hown b o p)
  ·refine hr'.wf b o ?_
   intro he; apply hn; simp [G2,he]
  ·refine Nat.le_of_not_lt fun hlt=>?_
   obtain ⟨i,hi⟩:=(hr'.lo _ _ hlt).1 _ hb0
   cases hi
  ·exact hr'.wf _ _ (by rw[hb0]; simp)
  ·obtain ⟨h1,h2,u,h3,h4⟩:=hbx k c hk
   refine ⟨fun hi=>?_,h2,u,h3,h4.mono hS fun _ _ _=>rfl⟩
   have := hI _ _ hi
   rw[h1] at this; cases this
 cases e <;> first
  | exact key hq
  | exact hq.elim
theorem uA3 {N : Nat} {ops : Array Oper} {rest : List Oper} {K : St→Prop} {st : St} {o : Oper} {d : Nat} {fo : Operand} {args : Array Operand} {ts : Array TypeId} {f : FuncId} {xs : List X} (sz : Nat) {L : Nat} {cs : List C}
  (ho : o.op = .call { callee:=.value fo,args:=args,argTypes:=ts }) (hg : G9 ops st o=some true) (hd : o.dst=some d) (hN : Nat.ble (d + 1) N=true)
  (hf : lk Z.T st 0 fo=some (true, .fn f [])) (ha : M2 Z.T st ts.toList args.toList=some (true,xs)) (hfr0 : st.freshO (.l d,true)=true)
  (hs : CtrN Z f xs L cs) (h : AL Z N ops rest K ((st.addBox (.l d) cs).put d (true, .v (.ms (.l d) sz 0 L)))) : AL Z N ops (o :: rest) K st:=by
 intro E G a w hr hE K' hK
 have hfr1 : FreshG st (.l d,true):=St.freshO_ok hfr0
 have hdN : d < E.nt:=by rw[hE.nt]; exact Nat.le_of_ble_eq_true hN
 unfold wpList
 rw[J4 hr hg,if_pos J]
 refine .inl ?_
 obtain ⟨cvs,hfv,hcv⟩:=F5 hr hf rfl
 have hcv0 : cvs=[]:=by cases cvs with
  | nil=>rfl
  | cons _ _=>exact hcv.elim
 subst hcv0
 have hav:=P3 hr ha J
 obtain ⟨hen,hsp⟩:=hs
 unfold Oper.wp
 rw[S9 ho hfv hen,Oper.upon_enter,List.append_nil]
 have hmono : ∀ {x : X} {v : Value},XRep w G x v→XRep w G.pure x v:=fun hx=>hx.mono (fun b o hs=>(G.pure_imm b o).2 hs) (fun _ _ _=>rfl) (fun _ _=>rfl)
 refine (hsp w G.pure _ (hav.mono fun _ _=>hmono) ?_ ?_ ?_ ((hE.at hr).pure)).mono ?_
 ·intro b o' hb
  refine hr.wf b o' ?_
  intro e; apply hb; unfold Gh.pure; simp [e]
 ·intro b o' n hn; rcases G.pure_cases b o' with h' | h' <;> rw[h'] at hn <;> simp at hn
 ·intro b o' p hn; rcases G.pure_cases b o' with h' | h' <;> rw[h'] at hn <;> simp at hn
 ·rintro e w' ⟨v,G',b,o0,cap,rfl,hfr,h1,h2,h3,hv,hcap,hb1,hb2,hcells⟩
  dsimp only
  have g2 : ∀ b o',b < w.heap.size→G'.W b o' = .imm→G.W b o' = .imm:=fun b o' hb hi=>(G.pure_imm b o').1 (h2 b o' hb hi)
  let G2:=G.back G' w.heap.size .none
  let G3 : Gh:={ A:=fun m=>if m = .l d then (b,o0) else G.A m,W:=fun b' o'=>if b'=b∧o0≤o'∧o' < o0 + cs.length then .box (.l d) else G2.W b' o' }
  have hnb : ∀ b',b' < w.heap.size → ¬ b'=b:=fun b' hb' e=>by omega
  have hS3 : ∀ b' o',G'.S b' o'→G3.S b' o':=fun b' o' hs=>by
   unfold Gh.S at *
   dsimp only [G3]
   rw[if_neg]
   ·exact Gh.back_imm g2 b' o' hs
   ·rintro ⟨e1,e2,e3⟩
    subst e1
    obtain ⟨k,rfl⟩ : ∃ k,o'=o0 + k:=⟨o' - o0,by omega⟩
    exact (hcells k _ (List.getElem?_eq_getElem (by omega))).1 hs
  have hrel : Rel E G3 (st.addBox (.l d) cs) a w':=by
   refine Rel.addBox ?_ ?_ J
   ·refine (hr.sub (St.drop_sub _ (.l d))).grow hfr ?_ (St.drop_same (st:=st) J (fun k g x hk=>hfr1.1 J k g x hk) _ _) ?_
    ·intro b' o' hb'
     dsimp only [G3]
     rw[if_neg (fun q=>hnb b' hb' q.1)]
     simp [G2,Gh.back,hb']
    ·intro b' o' hne
     dsimp only [G3] at hne
     split at hne
     ·rename_i q; rw[q.1]; exact hb2
     ·dsimp only [G2,Gh.back] at hne
      split at hne
      ·rename_i hlt; exact Nat.lt_of_lt_of_le hlt hfr.size
      ·refine h3 b' o' ?_
       intro e; rw[e] at hne; simp at hne
   ·intro k c hk
    obtain ⟨q1,q2,u,q3,q4⟩:=hcells k c hk
    have hkl : k < cs.length:=(List.getElem?_eq_some_iff.1 hk).1
    have hA : G3.A (.l d)=(b,o0):=by dsimp only [G3]; rw[if_pos J]
    rw[hA]
    refine ⟨?_,q2,u,q3,q4.mono hS3 fun _ _ _=>rfl⟩
    dsimp only [G3]
    rw[if_pos ⟨rfl,by omega,by omega⟩]
  have hput:=hrel.put hdN (g:=true) (x:=.v (.ms (.l d) sz 0 L)) (v:=v) (fun _=>.inr ⟨cap,hcap,by rw[hv]; dsimp only [G3]; rw[if_pos J]; rfl⟩) (fun hf=>by simp at hf)
  rw[hd]
  exact h E G3 _ _ hput hE K' hK
theorem Em {N : Nat} {ops : Array Oper} {rest : List Oper} {K : St→Prop} {st : St} (k m : Nat) {sz : Nat} (hs : st.get k=some (true, .v (.c (.sl sz [])))) (hw : st.own (.t k)=some sz) (hfr : st.freshO (.l m,true)=true) (h : AL Z N ops rest K (st.thw k m sz)) : AL Z N ops rest K st:=fun E G a w hr hE=>by
 obtain ⟨G',h'⟩:=hr.thaw hs hw (St.freshO_ok hfr)
 exact h E G' a w h' hE
end Go.Abs
namespace Go.Proofs.YteidahabkfgfjaaGreat
open Go Go.Abs
theorem Pr (l : List (List UInt8)) (h : l.length≤100000) : Ctr sys 90 [.v (.c (.sl 1 (strR l)))] [] (.v (.c (.sl 1 (strR l)))) none []:=by
 have hr : (strR l).length≤100000:=by rw[B3]; exact h
 refine D1 Tryz.func90 J J J J J J ?_;refine A8 (A6 ?_);refine C3 J (H4 (.inr J) J J) ?_;refine B0 ?_;refine A8 ?_;refine A8 (A6 ?_);refine A5 J J J (A7 J gU) ?_;refine V2 J J J J J J J J (fun b hb=>?_);refine B0 ?_;refine B9 J (fun hc=>?_) (fun hc=>?_)
 ·refine A8 (A6 ?_)
  refine C3 J (H4 (.inr J) J J) ?_;refine B0 ?_;refine C1 ?_
  repeat(first|refine tR ?_|refine bR ?_)
  refine C5 J ?_ O
  have := hb hc
  exact congrArg (fun z=>X.v (.c (.sl 1 z))) this.symm
 ·refine C0 ?_
  refine A8 (A6 ?_);refine E6 (xs:=[]) J J J J J J J J J gU J ?_;refine A5 J J J (A7 J gU) ?_;refine C3 J (F8 J J J J J J J (by simp; omega) (by simp; omega)) ?_;refine C3 J (E8 (.inr J) J J J) ?_;refine B0 ?_;refine C1 ?_
  repeat(first|refine tR ?_|refine bR ?_)
  refine C5 J ?_ O
  rfl
theorem Ru (l : List Fs) (h : l.length≤100000) : Ctr sys 91 [.v (.c (.sl 3 (Fs.rows l)))] [] (.v (.c (.sl 3 (Fs.rows l)))) none []:=by
 have hr : (Fs.rows l).length≤100000:=by rw[Fs.rows_len]; exact h
 refine D1 Tryz.func91 J J J J J J ?_;refine A8 (A6 ?_);refine C3 J (H4 (.inr J) J J) ?_;refine B0 ?_;refine A8 ?_;refine A8 (A6 ?_);refine A5 J J J (A7 J gU) ?_;refine V2 J J J J J J J J (fun b hb=>?_);refine B0 ?_;refine B9 J (fun hc=>?_) (fun hc=>?_)
 ·refine A8 (A6 ?_)
  refine C3 J (H4 (.inr J) J J) ?_;refine B0 ?_;refine C1 ?_
  repeat(first|refine tR ?_|refine bR ?_)
  refine C5 J ?_ O
  have := hb hc
  exact congrArg (fun z=>X.v (.c (.sl 3 z))) this.symm
 ·refine C0 ?_
  refine A8 (A6 ?_);refine E6 (xs:=[]) J J J J J J J J J gU J ?_;refine A5 J J J (A7 J gU) ?_;refine C3 J (F8 J J J J J J J (by simp; omega) (by simp; omega)) ?_;refine C3 J (E8 (.inr J) J J J) ?_;refine B0 ?_;refine C1 ?_
  repeat(first|refine tR ?_|refine bR ?_)
  refine C5 J ?_ O
  rfl
theorem Na : Ctr sys 93 [.v (.c (.sl 5 []))] [] (.v (.c (.sl 5 []))) none []:=by
 refine D1 Tryz.func93 J J J J J J ?_;refine A8 (A6 ?_);refine C3 J (H4 (.inr J) J J) ?_;refine B0 ?_;refine A8 ?_;refine A8 (A6 ?_);refine A5 J J J (A7 J gU) ?_;refine V2 J J J J J J J J (fun b hb=>?_);refine B0 ?_;refine B9 J (fun hc=>?_) (fun hc=>?_)
 ·refine A8 (A6 ?_)
  refine C3 J (H4 (.inr J) J J) ?_;refine B0 ?_;refine C1 ?_
  repeat(first|refine tR ?_|refine bR ?_)
  refine C5 J ?_ O
  rfl
 ·refine C0 ?_
  refine A8 (A6 ?_);refine E6 (xs:=[]) J J J J J J J J J gU J ?_;refine A5 J J J (A7 J gU) ?_;refine C3 J (F8 J J J J J J J (by simp) (by simp)) ?_;refine C3 J (E8 (.inr J) J J J) ?_;refine B0 ?_;refine C1 ?_
  repeat(first|refine tR ?_|refine bR ?_)
  refine C5 J ?_ O
  rfl
theorem Rf (l : List Sp) (h : l.length≤100000) (h0 : l≠[]) : CtrN sys 92 [.v (.c (.sl 7 (Sp.rows l)))] l.length (Sp.rows l).flatten:=by
 have hr : (Sp.rows l).length=l.length:=Sp.rows_len l
 have hp : 0 < l.length:=List.length_pos_iff.2 h0
 have hf : (Sp.rows l).flatten≠[]:=by
  cases l with
  | nil=>exact absurd J h0
  | cons x r=>intro q; have := congrArg List.length q; simp [Sp.rows,Sp.cells] at this
 refine V4 7 (hp) (hf) Tryz.func92 J J J J J ?_;refine A8 (A6 ?_);refine C3 J (H4 (.inr J) J J) ?_;refine B0 ?_;refine A8 ?_;refine A8 (A6 ?_);refine A5 J J J (A7 J gU) ?_;refine V2 J J J J J J J J (fun b hb=>?_);refine B0 ?_;refine B9 J (fun hc=>?_) (fun hc=>?_)
 ·exfalso
  have := congrArg List.length (hb hc)
  rw[hr] at this; simp at this; exact h0 this
 ·refine C0 ?_
  refine A8 (A6 ?_);refine E6 (xs:=[]) J J J J J J J J J gU J ?_;refine A5 J J J (A7 J gU) ?_;refine Em 5 5 J J J ?_;refine W4 7 J J J J J J J J J J J J J (by simp) (by omega) (by simp; omega) (by omega) ?_
  rw[Nat.zero_add,hr]
  trace_state
  refine C3 J (E8 (.inr J) J J J) ?_;refine B0 ?_;refine C1 ?_
  repeat(first|refine tR ?_|refine bR ?_)
  refine ⟨7,rfl,?_⟩
  rfl
theorem Pv (l : List Gl) (h : l.length≤100000) (h0 : l≠[]) : CtrN sys 93 [.v (.c (.sl 5 (Gl.rows l)))] l.length (Gl.rows l).flatten:=by
 have hr : (Gl.rows l).length=l.length:=Gl.rows_len l
 have hp : 0 < l.length:=List.length_pos_iff.2 h0
 have hf : (Gl.rows l).flatten≠[]:=by
  cases l with
  | nil=>exact absurd J h0
  | cons x r=>intro q; have := congrArg List.length q; simp [Gl.rows,Gl.cells] at this
 refine V4 5 (hp) (hf) Tryz.func93 J J J J J ?_;refine A8 (A6 ?_);refine C3 J (H4 (.inr J) J J) ?_;refine B0 ?_;refine A8 ?_;refine A8 (A6 ?_);refine A5 J J J (A7 J gU) ?_;refine V2 J J J J J J J J (fun b hb=>?_);refine B0 ?_;refine B9 J (fun hc=>?_) (fun hc=>?_)
 ·exfalso
  have := congrArg List.length (hb hc)
  rw[hr] at this; simp at this; exact h0 this
 ·refine C0 ?_
  refine A8 (A6 ?_);refine E6 (xs:=[]) J J J J J J J J J gU J ?_;refine A5 J J J (A7 J gU) ?_;refine Em 5 5 J J J ?_;refine W4 7 J J J J J J J J J J J J J (by simp) (by omega) (by simp; omega) (by omega) ?_
  rw[Nat.zero_add,hr]
  trace_state
  refine C3 J (E8 (.inr J) J J J) ?_;refine B0 ?_;refine C1 ?_
  repeat(first|refine tR ?_|refine bR ?_)
  refine ⟨7,rfl,?_⟩
  rfl
theorem Sw (l : List T) (h : l.length≤100000) (h0 : l≠[]) : CtrN sys 95 [.v (.c (.sl 4 (T.rows l)))] l.length (T.rows l).flatten:=by
 have hr : (T.rows l).length=l.length:=T.rows_len l
 have hp : 0 < l.length:=List.length_pos_iff.2 h0
 have hf : (T.rows l).flatten≠[]:=by
  cases l with
  | nil=>exact absurd J h0
  | cons x r=>intro q; have := congrArg List.length q; simp [T.rows_eq,T.cells] at this
 refine V4 4 (hp) (hf) Tryz.func95 J J J J J ?_;refine A8 (A6 ?_);refine C3 J (H4 (.inr J) J J) ?_;refine B0 ?_;refine A8 ?_;refine A8 (A6 ?_);refine A5 J J J (A7 J gU) ?_;refine V2 J J J J J J J J (fun b hb=>?_);refine B0 ?_;refine B9 J (fun hc=>?_) (fun hc=>?_)
 ·exfalso
  have := congrArg List.length (hb hc)
  rw[hr] at this; simp at this; exact h0 this
 ·refine C0 ?_
  refine A8 (A6 ?_);refine E6 (xs:=[]) J J J J J J J J J gU J ?_;refine A5 J J J (A7 J gU) ?_;refine Em 5 5 J J J ?_;refine W4 7 J J J J J J J J J J J J J (by simp) (by omega) (by simp; omega) (by omega) ?_
  rw[Nat.zero_add,hr]
  trace_state
  refine C3 J (E8 (.inr J) J J J) ?_;refine B0 ?_;refine C1 ?_
  repeat(first|refine tR ?_|refine bR ?_)
  refine ⟨7,rfl,?_⟩
  rfl
end Go.Proofs.YteidahabkfgfjaaGreat
namespace Go.Abs
variable {Z : Pg}
theorem CtrN.wk {Z Z' : Pg} {f : FuncId} {args : List X} {L : Nat} {cs : List C} (hP : Z'.P=Z.P) (hg : ∀ g ∈ Z.gv,g ∈ Z'.gv) (h : CtrN Z f args L cs) : CtrN Z' f args L cs:=by
 obtain ⟨⟨fn,h1,h2,h3⟩,h4⟩:=h
 refine ⟨⟨fn,by rw[hP]; exact h1,h2,h3⟩,fun w G vs a b c d e=>?_⟩
 rw[hP]
 exact h4 w G vs a b c d fun x hx=>e x (hg x hx)
theorem Mh {N : Nat} {α : Type} {c : Code} {Q : Exit→St→Prop} {st : St} {id : Nat} {ops : List Oper} (S : α→St) (rest : ∀ x,AWP Z N c Q (S x)) (h : Nd Z N ops.toArray (fun s=>∃ x,Sub (S x) s) ops.toArray.size (Array.replicate ops.toArray.size false) st) : AWP Z N (.seq (.region id ops.toArray true) c) Q st :=
 A8 (Su (uAS (Q:=fun e s=>match e with | .normal=>∃ x,Sub (S x) s | _=>False) h) fun e s hq=>by
  cases e with
  | normal=>obtain ⟨x,hs⟩:=hq; exact B6 hs (rest x)
  | _=>exact hq.elim)
theorem H7 {N : Nat} {α : Type} {ops : Array Oper} {Q : St→Prop} {F : Nat} {listed0 : Array Bool} {st0 : St} (f : Nat) (L : Array Bool) (S : α→St) (tail : ∀ x,Nd Z N ops Q f L (S x)) (h : (∀ (x : α) {listed : Array Bool} {st : St},listed=L→Sub (S x) st→Nd Z N ops Q f listed st)→Nd Z N ops Q F listed0 st0) : Nd Z N ops Q F listed0 st0 :=
 h fun x {listed st} hl hs=>by subst hl; exact fun E G a w hr hE=>tail x E G a w (hr.sub hs) hE
end Go.Abs
namespace Go.Abs
variable {Z : Pg}
section
variable {N : Nat} {st s0 : St} {ops : Array Oper} {B : List Nat} {k : Nat} {rest : List Oper} {acc : List Lnk} {o : Oper} {Q : St→Prop} {d : Nat} {gate : Bool}
def uAT (ops : Array Oper) (o : Oper) (n : Nm) (j : Nat) : Foot:={ rt:=j :: Vm ops o,rb:=[n],ro:=[] }
end
theorem Rel.setBox {E : Env} {G : Gh} {st : St} {a : Act} {w : World} {n : Nm} {cs : List C} (h : Rel E G st a w) (hb : N9 w G n cs) (hnb : n.isBd=false) : Rel E G { st with bx:=(n,cs) :: st.bx } a w where
 df:=h.df
 tm:=h.tm
 bx:=by
  intro m ds hm
  have : St.box { st with bx:=(n,cs) :: st.bx } m=if n=m then some cs else st.box m:=G6 _ _ _ _
  rw[this] at hm
  split at hm
  ·rename_i he; subst he; simp at hm; subst hm; exact hb
  ·exact h.bx m ds hm
 ow:=h.ow
 wf:=h.wf
 olB:=h.olB
 olO:=h.olO
 nt:=h.nt
 oA:=h.oA
 im:=h.im
 im':=h.im'
 fr:=h.fr
 hB:=h.hB
 lo:=h.lo
 bd:=by
  intro t k ds hm hne
  have : St.box { st with bx:=(n,cs) :: st.bx } (.bd t k)=if n = .bd t k then some cs else st.box (.bd t k):=G6 _ _ _ _
  rw[this] at hm
  split at hm
  ·rename_i he; subst he; simp [Nm.isBd] at hnb
  ·exact h.bd t k ds hm hne
 mp:=h.mp
theorem Lf (cs : List C) (off : Nat) (c : C) : H6 cs off [c]=cs.set off c:=rfl
end Go.Abs
namespace Go.Proofs.YteidahabkfgfjaaGreat
open Go Go.Abs
def chS (g : ChG) (s : Sp) : Sp:=⟨s.frm,s.dst,chT g s.msg,s.line⟩
def chL (g : ChG) (x : Gl) : Gl:=⟨x.kind,x.role,x.wth,x.data.map (chT g),x.line⟩
theorem uBP (l : List Sp) (s : Sp) : Sp.rows l++[s.cells]=Sp.rows (l++[s]):=by simp [Sp.rows]
theorem uBY (l : List Gl) (s : Gl) : Gl.rows l++[s.cells]=Gl.rows (l++[s]):=by simp [Gl.rows]
theorem uCP (l : List T) (s : T) : T.rows l++[s.cells]=T.rows (l++[s]):=by simp [T.rows_eq]
theorem On {sz : Nat} {xs : List (List C)} {i j m : Nat} {row : List C} (h : ∀ (i : Nat) (row : List C),xs[i]? = some row→row.length=sz) (hi : xs[i]? = some row) (hjm : j + m≤sz) : (xs.flatten.drop (i * sz + j)).take m=(row.drop j).take m:=by
 have hr:=Jh h hi
 have e : row.drop j=(xs.flatten.drop (i * sz + j)).take (sz - j):=by
  rw[← hr,List.drop_take,List.drop_drop]
 rw[e,List.take_take,Nat.min_eq_left (by omega)]
theorem Ny {sz : Nat} {xs : List (List C)} {i j : Nat} {row ds : List C} (h : ∀ (i : Nat) (row : List C),xs[i]? = some row→row.length=sz) (hi : xs[i]? = some row) (hjm : j + ds.length≤sz) : H6 xs.flatten (i * sz + j) ds=(xs.set i (H6 row j ds)).flatten:=by
 have hil : i < xs.length:=(List.getElem?_eq_some_iff.1 hi).1
 have hrl:=h i row hi
 have hlen : (H6 row j ds).length=sz:=by rw[J7,hrl]
 rw[← Kf h hil hlen]
 have hfl : i * sz + sz≤xs.flatten.length:=by
  cases hz : sz with
  | zero =>
   have : ds.length=0:=by omega
   rw[Nat.mul_zero]; omega
  | succ z =>
   have hg : row[z]? = some (row[z]'(by omega)):=List.getElem?_eq_getElem (by omega)
   have := Ew h hi hg
   have := (List.getElem?_eq_some_iff.1 this).1
   rw[hz] at this; omega
 refine List.ext_getElem? fun k=>?_
 rw[T7 _ _ _ _ (by omega),T7 _ _ _ _ (by omega),hlen]
 by_cases h1 : i * sz≤k∧k < i * sz + sz
 ·obtain ⟨k',rfl⟩ : ∃ k',k=i * sz + k':=⟨k - i * sz,by omega⟩
  have hrk : row[k']? = some (row[k']'(by omega)):=List.getElem?_eq_getElem (by omega)
  have hfk:=Ew h hi hrk
  rw[if_pos h1,Nat.add_sub_cancel_left,T7 _ _ _ _ (by omega)]
  by_cases h2 : j≤k'∧k' < j + ds.length
  ·rw[if_pos (by omega),if_pos h2]
   congr 1; omega
  ·rw[if_neg (by omega),if_neg h2,hfk,hrk]
 ·rw[if_neg (by omega),if_neg h1]
theorem Gv (l : List Sp) : ∀ (i : Nat) (row : List C),(Sp.rows l)[i]? = some row→row.length=7:=by
 intro i row h
 rw[Sp.rows,List.getElem?_map] at h
 cases hx : l[i]? with
 | none=>rw[hx] at h; cases h
 | some t=>rw[hx] at h; cases h; rfl
theorem Gu (l : List Gl) : ∀ (i : Nat) (row : List C),(Gl.rows l)[i]? = some row→row.length=5:=by
 intro i row h
 rw[Gl.rows,List.getElem?_map] at h
 cases hx : l[i]? with
 | none=>rw[hx] at h; cases h
 | some t=>rw[hx] at h; cases h; rfl
def upto {α : Type} (f : α→α) (l : List α) (k : Nat) : List α:=(l.take k).map f++l.drop k
theorem S3 {α : Type} (f : α→α) (l : List α) : upto f l 0=l:=by simp [upto]
theorem S2 {α : Type} (f : α→α) (l : List α) : upto f l l.length=l.map f:=by simp [upto]
theorem W3 {α : Type} (f : α→α) (l : List α) (k : Nat) : (upto f l k).length=l.length:=by
 simp only [upto,List.length_append,List.length_map,List.length_take,List.length_drop]; omega
theorem Z9 {α : Type} {f : α→α} {l : List α} {k : Nat} {d : α} (h : k < l.length) : (upto f l k)[k]? = some (l.getD k d):=by
 rw[upto,List.getElem?_append_right (by simp; omega),List.length_map,List.length_take,Nat.min_eq_left (by omega),Nat.sub_self,List.getElem?_drop,Nat.add_zero,List.getD_eq_getElem?_getD,List.getElem?_eq_getElem h]; rfl
theorem W7 {α : Type} {f : α→α} {l : List α} {k : Nat} {d : α} (h : k < l.length) : (upto f l k).set k (f (l.getD k d))=upto f l (k + 1):=by
 rw[upto,List.set_append_right _ _ (by simp; omega),upto,I2 (d:=d) h,List.map_append,List.append_assoc]
 congr 1
 have e : k - ((l.take k).map f).length=0:=by simp; omega
 rw[e,List.drop_eq_getElem_cons h,List.set_cons_zero]
 rfl
theorem uCf {l : List Sp} {k : Nat} {s : Sp} (h : l[k]? = some s) : ((Sp.rows l).flatten.drop (k * 7 + 2)).take 4=s.msg.cells:=by
 rw[On (Gv l) (row:=s.cells) (by rw[Sp.rows,List.getElem?_map,h]; rfl) (by omega)]; rfl
theorem uAr {l : List Sp} {k : Nat} {s : Sp} (h : l[k]? = some s) (t : T) : H6 (Sp.rows l).flatten (k * 7 + 2) t.cells=(Sp.rows (l.set k { s with msg:=t })).flatten:=by
 rw[Ny (Gv l) (row:=s.cells) (by rw[Sp.rows,List.getElem?_map,h]; rfl) (by show 2 + 4≤7; omega),Sp.rows,Sp.rows,List.map_set]; rfl
theorem uBx {l : List Gl} {k : Nat} {g : Gl} (h : l[k]? = some g) : (Gl.rows l).flatten[k * 5 + 3]? = some (.sl 4 (T.rows g.data)) :=
 Ew (Gu l) (row:=g.cells) (by rw[Gl.rows,List.getElem?_map,h]; rfl) J
theorem uA2 {l : List Gl} {k : Nat} {g : Gl} (h : l[k]? = some g) (d : List T) : H6 (Gl.rows l).flatten (k * 5 + 3) [.sl 4 (T.rows d)]=(Gl.rows (l.set k { g with data:=d })).flatten:=by
 rw[Ny (Gu l) (row:=g.cells) (by rw[Gl.rows,List.getElem?_map,h]; rfl) (by show 3 + 1≤5; omega),Gl.rows,Gl.rows,List.map_set]; rfl
theorem Gw (l : List Sp) : (Sp.rows l).flatten.length=l.length * 7:=by
 induction l with
 | nil=>simp [Sp.rows]
 | cons x l ih =>
  have e : Sp.rows (x :: l)=x.cells :: Sp.rows l:=by simp [Sp.rows]
  have : x.cells.length=7:=rfl
  rw[e,List.flatten_cons,List.length_append,ih]
  simp only [List.length_cons]; omega
theorem Hg (l : List Gl) : (Gl.rows l).flatten.length=l.length * 5:=by
 induction l with
 | nil=>simp [Gl.rows]
 | cons x l ih =>
  have e : Gl.rows (x :: l)=x.cells :: Gl.rows l:=by simp [Gl.rows]
  have : x.cells.length=5:=rfl
  rw[e,List.flatten_cons,List.length_append,ih]
  simp only [List.length_cons]; omega
theorem uAs {l : List Sp} {k : Nat} {s : Sp} (h : l[k]? = some s) : ((Sp.rows l).flatten.drop (0 + k * 7 + 2)).take 4=s.msg.cells:=by
 rw[Nat.zero_add]; exact uCf h
theorem uAH {l : List Gl} {k : Nat} {g : Gl} (h : l[k]? = some g) : (Gl.rows l).flatten[0 + k * 5 + 3]? = some (.sl 4 (T.rows g.data)):=by
 rw[Nat.zero_add]; exact uBx h
theorem Tb {l : List T} {i : Nat} {t : T} (h : l[i]? = some t) : ((T.rows l).flatten.drop (0 + i * 4)).take 4=t.cells:=by
 rw[Nat.zero_add,Jh (Vn l) (row:=t.cells) (by rw[T.rows_eq,List.getElem?_map,h]; rfl)]
end Go.Proofs.YteidahabkfgfjaaGreat
namespace Go.Abs
variable {Z : Pg}
def Gh.adopt (G : Gh) (k : Nat) (A0 : Nat × Nat) (n : Nat) : Gh:={ A:=fun m=>if m = .l k then A0 else G.A m,W:=fun b o=>if b=A0.1∧A0.2≤o∧o < A0.2 + n then .box (.l k) else G.W b o }
theorem Gh.adopt_A {G : Gh} {k n : Nat} {A0 : Nat × Nat} {m : Nm} (h : m ≠ .l k) : (G.adopt k A0 n).A m=G.A m:=by unfold Gh.adopt; dsimp only; rw[if_neg h]
theorem Gh.adopt_At {G : Gh} {k n : Nat} {A0 : Nat × Nat} : (G.adopt k A0 n).A (.l k)=A0:=by unfold Gh.adopt; dsimp only; rw[if_pos J]
theorem Rel.adopt {E : Env} {G : Gh} {st : St} {a : Act} {w : World} (h : Rel E G st a w) {k : Nat} {A0 : Nat × Nat} {cs : List C} (hfr : FreshG st (.l k,true)) (hB : cs≠[]→E.B≤A0.1)
  (hc : ∀ (j : Nat) (c : C),cs[j]? = some c→G.W A0.1 (A0.2 + j) = .none∧A0.1 < w.heap.size∧w.frozen? ⟨A0.1,A0.2 + j,none⟩=false ∧ ∃ u,w.cell? ⟨A0.1,A0.2 + j,none⟩=some u∧CRep w G.S c u) :
  Rel E (G.adopt k A0 cs.length) (st.addBox (.l k) cs) a w ∧ ∀ b o,G.S b o→(G.adopt k A0 cs.length).S b o:=by
 have hcase : ∀ b o,(G.adopt k A0 cs.length).W b o=G.W b o∨(E.B≤b∧G.W b o = .none∧b < w.heap.size ∧ ∃ u,w.cell? ⟨b,o,none⟩=some u):=fun b o=>by
  by_cases q : b=A0.1∧A0.2≤o∧o < A0.2 + cs.length
  ·obtain ⟨q1,q2,q3⟩:=q
   obtain ⟨j,rfl⟩ : ∃ j,o=A0.2 + j:=⟨o - A0.2,by omega⟩
   subst q1
   obtain ⟨p1,p2,p3,u,p4,p5⟩:=hc j _ (List.getElem?_eq_getElem (by omega))
   exact .inr ⟨hB (fun e=>by rw[e,List.length_nil] at q3; omega),p1,p2,u,p4⟩
  ·left; unfold Gh.adopt; dsimp only; rw[if_neg q]
 have hne : ∀ b o,G.W b o ≠ .none→(G.adopt k A0 cs.length).W b o=G.W b o:=fun b o q=>by
  rcases hcase b o with e | ⟨_,e,_⟩
  ·exact e
  ·exact absurd e q
 have hold : ∀ b o,b < E.B→(G.adopt k A0 cs.length).W b o=G.W b o:=fun b o q=>by
  rcases hcase b o with e | ⟨e,_⟩
  ·exact e
  ·omega
 have hS : ∀ b o,G.S b o→(G.adopt k A0 cs.length).S b o:=fun b o hs=>by
  unfold Gh.S at *; rw[hne b o (by rw[hs]; simp)]; exact hs
 refine ⟨Rel.addBox ?_ ?_ J,hS⟩
 ·constructor
  ·exact h.df
  ·intro j g x hj
   obtain ⟨v,h1,h2,h3⟩:=h.tm j g x hj
   exact ⟨v,h1,fun hg=>(h2 hg).mono hS (fun _ _ _=>rfl) (fun n hn=>Gh.adopt_A fun e=>by subst e; rw[hfr.1 J j g x hj] at hn; cases hn),h3⟩
  ·intro n ds hn j c hj
   rw[St.drop_box] at hn
   split at hn
   ·cases hn
   ·rename_i q
    obtain ⟨h1,h2,u,h3,h4⟩:=h.bx n ds hn j c hj
    rw[Gh.adopt_A q]
    exact ⟨by rw[hne _ _ (by rw[h1]; simp)]; exact h1,h2,u,h3,h4.mono hS fun _ _ _=>rfl⟩
  ·intro p sz hp
   rw[St.drop_own] at hp
   split at hp
   ·cases hp
   ·rename_i q
    obtain ⟨u,h1,h2⟩:=h.ow p sz hp
    refine ⟨u,?_,?_⟩
    ·cases p with
     | t i=>exact h1
     | b n off =>
      have hq : n ≠ .l k:=fun e=>q (by subst e; simp [Pl.inBox,Nm.beq_self])
      show w.cell? _=_∧_=_
      rw[Gh.adopt_A hq,hne _ _ (by rw[h1.2]; simp)]
      exact h1
    ·rcases h2 with h2 | ⟨b2,len,cap,e,q1,q2,q3,q4⟩
     ·exact .inl h2
     ·exact .inr ⟨b2,len,cap,e,q1,q2,q3,fun o h1 h2=>⟨by rw[hne _ _ (by rw[(q4 o h1 h2).1]; simp)]; exact (q4 o h1 h2).1,(q4 o h1 h2).2⟩⟩
  ·intro b o q
   rcases hcase b o with e | ⟨_,_,e,_⟩
   ·exact h.wf b o (by rw[← e]; exact q)
   ·exact e
  ·intro b o n hb hn; rw[hold b o hb] at hn; exact h.olB b o n hb hn
  ·intro b o p hb hn; rw[hold b o hb] at hn; exact h.olO b o p hb hn
  ·exact h.nt
  ·intro j; rw[Gh.adopt_A (by simp)]; exact h.oA j
  ·intro b o hi; exact hS b o (h.im b o hi)
  ·intro b o hb hi; rw[hold b o hb] at hi; exact h.im' b o hb hi
  ·exact h.fr
  ·exact h.hB
  ·intro b o hb; rw[hold b o hb]; exact h.lo b o hb
  ·intro t i ds hn hne2
   rw[St.drop_box] at hn
   split at hn
   ·cases hn
   ·rw[Gh.adopt_A (by simp)]; exact h.bd t i ds hn hne2
  ·intro x hx
   obtain ⟨q1,q2,q3⟩:=h.mp x hx
   refine ⟨q1,q2,fun o=>?_⟩
   rcases hcase x.1 o with e | ⟨_,_,_,u,e⟩
   ·rw[e]; exact q3 o
   ·obtain ⟨ms,clock,p1,_⟩:=q1
    exfalso
    simp [World.cell?,p1] at e
 ·intro j c hj
  obtain ⟨p1,p2,p3,u,p4,p5⟩:=hc j c hj
  rw[Gh.adopt_At]
  refine ⟨?_,p3,u,p4,p5.mono hS fun _ _ _=>rfl⟩
  have hjl:=(List.getElem?_eq_some_iff.1 hj).1
  unfold Gh.adopt; dsimp only; rw[if_pos ⟨rfl,by omega,by omega⟩]
def St.addBoxes (q : Nat) : List (Nat × List C)→St→St
 | [],st=>st
 | e :: r,st=>St.addBoxes q r (st.addBox (.l (q + e.1)) e.2)
def Ns (q : Nat) : List (Nat × List C)→St→Bool
 | [],_=>true
 | e :: r,st=>st.freshO (.l (q + e.1),true) && Ns q r (st.addBox (.l (q + e.1)) e.2)
theorem Rel.adopts {E : Env} {a : Act} {w : World} {W' : Nat→Nat→Who} {A' : Nat→Nat × Nat} (q : Nat) : ∀ (nb : List (Nat × List C)) {G : Gh} {st : St},Rel E G st a w→Ns q nb st=true→(nb.map (·.1)).Nodup→(∀ e ∈ nb,e.2≠[]→E.B≤(A' e.1).1) →
  (∀ e ∈ nb,∀ (j : Nat) (c : C),e.2[j]? = some c→W' (A' e.1).1 ((A' e.1).2 + j) = .box (.l e.1)∧G.W (A' e.1).1 ((A' e.1).2 + j) = .none∧(A' e.1).1 < w.heap.size∧w.frozen? ⟨(A' e.1).1,(A' e.1).2 + j,none⟩=false ∧ ∃ u,w.cell? ⟨(A' e.1).1,(A' e.1).2 + j,none⟩=some u∧CRep w G.S c u) →
  ∃ G3,Rel E G3 (St.addBoxes q nb st) a w∧(∀ b o,G.S b o→G3.S b o)∧(∀ e ∈ nb,G3.A (.l (q + e.1))=A' e.1) ∧ ∀ m,(∀ e ∈ nb,m ≠ .l (q + e.1))→G3.A m=G.A m
 | [],G,st,h,_,_,_,_=>⟨G,h,fun _ _ x=>x,⟨fun e he=>absurd he List.not_mem_nil,fun _ _=>rfl⟩⟩
 | e :: r,G,st,h,hf,hn,hB,hc=>by
  rw[Ns,Bool.and_eq_true] at hf
  rw[List.map_cons,List.nodup_cons] at hn
  obtain ⟨h1,h2⟩:=h.adopt (k:=q + e.1) (A0:=A' e.1) (cs:=e.2) (St.freshO_ok hf.1) (hB e (by simp)) fun j c hj=>(hc e (by simp) j c hj).2
  obtain ⟨G3,k1,k2,k3,k4⟩:=Rel.adopts q r h1 hf.2 hn.2 (fun x hx=>hB x (by simp [hx])) fun x hx j c hj=>by
   obtain ⟨p1,p2,p3,p4,u,p5,p6⟩:=hc x (by simp [hx]) j c hj
   refine ⟨p1,?_,p3,p4,u,p5,p6.mono h2 fun _ _ _=>rfl⟩
   unfold Gh.adopt; dsimp only
   rw[if_neg]
   ·exact p2
   ·rintro ⟨z1,z2,z3⟩
    obtain ⟨i,hi⟩ : ∃ i,(A' x.1).2 + j=(A' e.1).2 + i:=⟨(A' x.1).2 + j - (A' e.1).2,by omega⟩
    have := (hc e (by simp) i _ (List.getElem?_eq_getElem (by omega))).1
    rw[← z1,← hi,p1] at this
    injection this with this
    injection this with this
    exact hn.1 (List.mem_map.2 ⟨x,hx,this⟩)
  refine ⟨G3,k1,fun b o x=>k2 b o (h2 b o x),fun x hx=>?_,fun m hm=>?_⟩
  ·rcases List.mem_cons.1 hx with rfl | hx
   ·rw[k4 _ fun y hy z=>?_,Gh.adopt_At]
    injection z with z
    exact hn.1 (List.mem_map.2 ⟨y,hy,by omega⟩)
   ·exact k3 x hx
  ·rw[k4 m fun y hy=>hm y (by simp [hy]),Gh.adopt_A (hm e (by simp))]
def CtrE {α : Type} (Z : Pg) (f : FuncId) (args : List X) (bs : List (List C)) (res : α→X) (bs' : List (List C)) (nb : List (Nat × List C)) : Prop :=
 O4 Z f ∧ ∀ (w : World) (G : Gh) (vs : List Value),All2 (XRep w G) args vs→(∀ b o,G.W b o ≠ .none→b < w.heap.size)→(∀ (j : Nat) (cs : List C),bs[j]? = some cs→N9 w G (.o j) cs) →
  (∀ b o n,G.W b o = .box n → ∃ j cs k,n = .o j∧bs[j]? = some cs∧k < cs.length∧b=(G.A n).1∧o=(G.A n).2 + k)→(∀ b o p,G.W b o ≠ .own p)→Z.ex (fun j=>G.A (.o j))→GlOk Z w G →
  Calls Z.P f vs.toArray w fun e w'=>∃ v G' x,e = .returned v∧Fr (fun b o=>∃ n,G.W b o = .box n) w.heap.size w w' ∧
   (∀ b o,G.W b o = .imm→G'.W b o = .imm)∧(∀ b o,b < w.heap.size→G'.W b o = .imm→G.W b o = .imm)∧(∀ b o,G'.W b o ≠ .none→b < w'.heap.size)∧XRep w' G' (res x) v ∧
   (∀ j,G'.A (.o j)=G.A (.o j))∧(∀ (j : Nat) (cs : List C),bs'[j]? = some cs→N9 w' G' (.o j) cs)∧(∀ e ∈ nb,N9 w' G' (.l e.1) e.2)∧(∀ b o m,G'.W b o = .box (.l m)→w.heap.size≤b) ∧ ∀ b o p,G'.W b o ≠ .own p
def ResE (T : List (Option TyI)) (rs : List ResultVar) (s : St) (x : X) : Prop :=
 resX T s rs=some x ∨ ∃ cs ms,x = .kn false cs ms∧resX T s rs=some (.v (.agg cs)) ∧ ∀ m ∈ ms,∃ k u,cs[m.1]? = some (.o u)∧s.get k=some (true, .kn true [.o u] [(0,m.2.1,m.2.2)])
theorem uCu {w : World} {G : Gh} {u v : Value} {ms : List (Nat × Nm × Nat)} (h : XRep w G (.kn true [.o u] ms) v) : v=u ∧ ∀ m ∈ ms,m.1=0→SlAt (G.A m.2.1) m.2.2 u:=by
 obtain ⟨vs,h1,_,h3,h4⟩:=h
 obtain rfl:=h1 rfl
 have e : v=u:=by cases h3.1; rfl
 subst e
 refine ⟨rfl,fun m hm h0=>?_⟩
 obtain ⟨u,h5,h6⟩:=h4 m hm
 rw[h0] at h5
 simp only [List.getElem?_cons_zero,Option.some.injEq] at h5
 subst h5
 exact h6
theorem uAG {E : Env} {G : Gh} {s : St} {a : Act} {w : World} (hr : Rel E G s a w) {fn : Func} {rs : List ResultVar} (hrs : fn.results=rs.toArray) {x : X} (h : ResE Z.T rs s x) : ∃ v,(results fn a.tmps).run Z.P w = .ok v w∧XRep w G x v:=by
 have key : ∀ {y : X},resX Z.T s rs=some y → ∃ v,(results fn a.tmps).run Z.P w = .ok v w∧XRep w G y v:=fun {y} hy=>by
  unfold resX at hy
  have hys : ∃ ys,Ab Z.T s rs=some ys∧y=An ys:=by
   split at hy
   ·rename_i ys hz; simp only [Option.some.injEq] at hy; exact ⟨ys,hz,hy.symm⟩
   ·simp at hy
  obtain ⟨ys,hys,rfl⟩:=hys
  obtain ⟨us,hrun,hall,_⟩:=R7 hr hys
  refine ⟨_,?_,Fm hall⟩
  rw[Z5,hrs,List.mapM_toArray]
  simp only [Sem.run_bind,Sem.run_map,hrun,Result.andThen_ok,Sem.run_pure]
 rcases h with h | ⟨cs,ms,rfl,h,hm⟩
 ·exact key h
 ·obtain ⟨v,h1,vs,rfl,h2⟩:=key h
  refine ⟨_,h1,vs,(fun q=>by cases q),fun _=>rfl,h2,fun m hmm=>?_⟩
  obtain ⟨k,u,h3,h4⟩:=hm m hmm
  obtain ⟨t,_,h5,_⟩:=hr.tm k true _ h4
  have h6:=(uCu (h5 J)).2 _ (List.mem_singleton.2 J) J
  obtain ⟨u',h7,h8⟩:=h2.get _ _ h3
  have e : u'=u:=by cases h8; rfl
  subst e
  exact ⟨u',h7,h6⟩
def retE {α : Type} (T : List (Option TyI)) (rs : List ResultVar) (res : α→X) (bs' : List (List C)) (nb : List (Nat × List C)) : Exit→St→Prop
 | .normal,s | .ret,s=>∃ x,ResE T rs s (res x)∧(∀ (j : Nat) (cs : List C),bs'[j]? = some cs→s.box (.o j)=some cs) ∧ ∀ e ∈ nb,s.box (.l e.1)=some e.2
 | _,_=>False
theorem Z7 {α : Type} {f : FuncId} {fn : Func} {c : Code} {N : Nat} {rs : List ResultVar} {args : List X} {bs bs' : List (List C)} {res : α→X} {nb : List (Nat × List C)}
  (hf : Z.P.funcs[f]? = some fn) (hb : fn.body = some c) (hname : (fn.name == "runtime.NumGoroutine") = false) (hN : fn.ntmps = N) (hrs : fn.results = rs.toArray) (hlen' : Nat.ble args.length N = true)
  (h : AWP Z N c (retE Z.T rs res bs' nb) (st0 args bs)) : CtrE Z f args bs res bs' nb:=by
 have hlen : args.length≤N:=Nat.le_of_ble_eq_true hlen'
 refine ⟨⟨fn,hf,by rw[hb]; rfl,hname⟩,?_⟩
 intro w G vs hvs hwf hbx hbox hown hex hgl
 let E : Env:={ B:=w.heap.size,w0:=w,W0:=G.W,A0:=fun j=>G.A (.o j),nt:=N }
 let a : Act:={ tmps:=vs.toArray++Array.replicate (fn.ntmps - vs.toArray.size) undef,defers:=[] }
 have hal : args.length=vs.length:=hvs.len
 have hrel : Rel E G (st0 args bs) a w:={
  df:=rfl
  tm:=by
   intro k g x hk
   obtain ⟨i,y,h1,h2,h3⟩:=Y0 0 args k (g,x) hk
   simp only [Prod.mk.injEq] at h3
   obtain ⟨rfl,rfl⟩:=h3
   obtain ⟨v,hv,hx⟩:=hvs.get i x h2
   have hi : i < vs.length:=(List.getElem?_eq_some_iff.1 hv).1
   refine ⟨v,?_,fun _=>hx,fun hg=>by simp at hg⟩
   show (vs.toArray++_)[k]? = _
   rw[h1,Nat.zero_add,Array.getElem?_append_left (by simpa using hi)]
   simpa using hv
  bx:=by
   intro n cs hn
   obtain ⟨i,h1,h2⟩:=M4 0 bs n cs hn
   rw[h1,Nat.zero_add]
   exact hbx i cs h2
  ow:=by intro p sz hp; simp [St.own,st0,getO] at hp
  wf:=hwf
  olB:=fun b o n _ hn=>.inl ⟨n,hn⟩
  olO:=fun b o p _ hn=>⟨p,hn⟩
  nt:=by
   show (vs.toArray++Array.replicate (fn.ntmps - vs.toArray.size) undef).size=N
   simp; omega
  oA:=fun _=>rfl
  im:=fun b o h=>h
  im':=fun b o _ h=>.inl h
  fr:=Fr.refl _ _ _
  hB:=Nat.le_refl _
  lo:=fun b o _=>⟨fun n hn=>by obtain ⟨j,_,_,e,_⟩:=hbox b o n hn; exact ⟨j,e⟩,fun _ p=>hown b o p⟩
  bd:=fun t k cs hn=>by
   obtain ⟨i,h1,_⟩:=M4 0 bs _ cs hn
   simp at h1
  mp:=fun x hx=>by cases hx }
 refine calls_of_wp hf hb ?_
 have hwp:=h E G a w hrel ⟨rfl,fun _=>rfl,fun g hg=>⟨(hgl g hg).1,(hgl g hg).2.1,fun o hm=>by
  rcases hm with ⟨n,hn⟩ | ⟨p,hp⟩
  ·exact (hgl g hg).2.2.1 o n hn
  ·exact (hgl g hg).2.2.2 o p hp⟩,hex⟩
 refine wp_mono hwp ?_
 rintro e a' w' ⟨G',s,hq,hr'⟩
 have key : (∃ x,ResE Z.T rs s (res x)∧(∀ (j : Nat) (cs : List C),bs'[j]? = some cs→s.box (.o j)=some cs) ∧ ∀ e ∈ nb,s.box (.l e.1)=some e.2) →
   a'.defers=[] ∧ ∃ v,(results fn a'.tmps).run Z.P w' = .ok v w' ∧ ∃ u G' x,Ending.returned v = .returned u∧Fr (fun b o=>∃ n,G.W b o = .box n) w.heap.size w w' ∧
    (∀ b o,G.W b o = .imm→G'.W b o = .imm)∧(∀ b o,b < w.heap.size→G'.W b o = .imm→G.W b o = .imm)∧(∀ b o,G'.W b o ≠ .none→b < w'.heap.size)∧XRep w' G' (res x) u ∧
    (∀ j,G'.A (.o j)=G.A (.o j))∧(∀ (j : Nat) (cs : List C),bs'[j]? = some cs→N9 w' G' (.o j) cs)∧(∀ e ∈ nb,N9 w' G' (.l e.1) e.2)∧(∀ b o m,G'.W b o = .box (.l m)→w.heap.size≤b) ∧ ∀ b o p,G'.W b o ≠ .own p:=by
  rintro ⟨x,hres,hbs,hnb⟩
  refine ⟨hr'.df,?_⟩
  obtain ⟨v,hv1,hv2⟩:=uAG hr' hrs hres
  refine ⟨v,hv1,?_⟩
  let G2 : Gh:={ A:=G'.A,W:=fun b o=>match G'.W b o with | .imm=>.imm | .box n=>.box n | _=>.none }
  have hS : ∀ b o,G'.S b o→G2.S b o:=fun b o hs=>by unfold Gh.S at *; simp [G2,hs]
  have hbk : ∀ b o n,G'.W b o = .box n→G2.W b o = .box n:=fun b o n hs=>by simp [G2,hs]
  have hI : ∀ b o,G2.W b o = .imm→G'.W b o = .imm:=fun b o hi=>by
   simp only [G2] at hi
   split at hi
   ·assumption
   ·simp at hi
   ·simp at hi
  have hb2 : ∀ b o n,G2.W b o = .box n→G'.W b o = .box n:=fun b o n hi=>by
   simp only [G2] at hi
   split at hi
   ·simp at hi
   ·rename_i e; rw[e]; exact hi
   ·simp at hi
  have hbat : ∀ {n : Nm} {cs : List C},N9 w' G' n cs→N9 w' G2 n cs:=fun {n cs} hx j c hj=>by
   obtain ⟨h1,h2,u,h3,h4⟩:=hx j c hj
   exact ⟨hbk _ _ _ h1,h2,u,h3,h4.mono hS fun _ _ _=>rfl⟩
  refine ⟨v,G2,x,rfl,?_,fun b o hi=>hS b o (hr'.im b o hi),fun b o hb hi=>?_,fun b o hn=>?_,hv2.mono hS (fun _ _ _=>rfl) (fun _ _=>rfl),fun j=>hr'.oA j,fun j cs hj=>hbat (hr'.bx _ _ (hbs j cs hj)),fun e he=>hbat (hr'.bx _ _ (hnb e he)),fun b o m hm=>?_,fun b o p hp=>?_⟩
  ·exact hr'.fr.mono (Nat.le_refl _) fun b o _ hm=>by
    rcases hm with q | ⟨p,hp⟩
    ·exact q
    ·exact absurd hp (hown b o p)
  ·rcases hr'.im' b o hb (hI b o hi) with h1 | ⟨p,hp⟩
   ·exact h1
   ·exact absurd hp (hown b o p)
  ·refine hr'.wf b o ?_
   intro he; apply hn; simp [G2,he]
  ·refine Nat.le_of_not_lt fun hlt=>?_
   obtain ⟨i,hi⟩:=(hr'.lo _ _ hlt).1 _ (hb2 _ _ _ hm)
   cases hi
  ·simp only [G2] at hp
   split at hp <;> simp at hp
 cases e <;> first
  | exact key hq
  | exact hq.elim
theorem uB0 {ps : List Pass} {p : Pl} : pin ps [] p=none:=rfl
theorem Ld {α : Type} {Z' : Pg} {N : Nat} {ops : Array Oper} {st : St} {o : Oper} {fo : Operand} {args : Array Operand} {ts : Array TypeId} {f : FuncId} {caps : List Y} {xs cxs : List X} {res : α→X} {nb : List (Nat × List C)} {ps : List Pass}
  (hP : Z'.P=Z.P) (hgv : Z'.gv=Z.gv)
  (ho : o.op = .call { callee:=.value fo,args:=args,argTypes:=ts }) (hg : G9 ops st o=some true) (hf : lk Z.T st 0 fo=some (true, .fn f caps))
  (ha : M2 Z.T st ts.toList args.toList=some (true,xs)) (htr : cxs.map (X.tr ps)=xs++caps.map X.v) (htrok : Aj ps cxs=true)
  (hps : ∀ p ∈ ps,st.box p.n=some p.cs) (hnd : K4 st ps=true)
  (hs : CtrE Z' f cxs (ps.map Pass.old) res (ps.map Pass.ds) nb)
  (E : Env) (G : Gh) (a : Act) (w : World) (hr : Rel E G st a w) (hE : EOk Z N E) (hex : Z'.ex fun j=>(G.passedO ps []).A (.o j))
  (K' : Act→World→Prop) (Q' : Exit→Act→World→Prop)
  (hK : ∀ G' v w' x,Rel E (G.backO G' w.heap.size ps []) (st.stores ps) a w'→(∀ b o,G'.S b o→(G.backO G' w.heap.size ps []).S b o)→XRep w' G' (res x) v→(∀ e ∈ nb,N9 w' G' (.l e.1) e.2)→(∀ b o m,G'.W b o = .box (.l m)→w.heap.size≤b)→(∀ b o,G'.W b o ≠ .none→b < w'.heap.size)→K' (a.put o.dst v) w') :
  if Region.wanted o (yielded ops a.tmps) then o.wp Z.P a w K' Q' else K' (a.put o.dst undef) w:=by
 rw[J4 hr hg]
 simp only [if_true]
 obtain ⟨cvs,hfv,hcv⟩:=F5 hr hf rfl
 have hav:=P3 hr ha J
 have hav2:=hav.app (Ka hcv)
 rw[← htr] at hav2
 obtain ⟨hen,hsp⟩:=hs
 have hen2 : O4 Z f:=by unfold O4 at hen ⊢; rw[hP] at hen; exact hen
 unfold Oper.wp
 rw[S9 (caps:=cvs) ho hfv hen2,Oper.upon_enter]
 obtain ⟨p1,p2,p3,p4,p5,p6,p7,p8⟩:=Df (os:=[]) hr hE hav2 htrok hps hnd fun e he=>by cases he
 have hno : ∀ b o p,(G.passedO ps []).W b o ≠ .own p:=fun b o p hp=>by
  obtain ⟨q,_,hq⟩:=Gh.passedO_own hp
  rw[uB0] at hq; cases hq
 have hcall:=hsp w (G.passedO ps []) _ p2 p3 p4 p5 hno hex (by unfold GlOk at p8 ⊢; rw[hgv]; exact p8)
 rw[hP] at hcall
 refine hcall.mono ?_
 rintro e w' ⟨v,G',x,rfl,hfr,h1,h2,h3,h4,h5,h6,h7,h8,h9⟩
 dsimp only
 obtain ⟨hrel,hS2,_,_⟩:=Ba (os:=[]) hr hps hnd (fun e he=>by cases he) (hfr.mono (Nat.le_refl _) fun b o _ hm=>.inl hm) h1 (fun b o hb hi=>.inl (h2 b o hb hi)) h3 h5 h6 fun b o q _ hq=>absurd hq (h9 b o q)
 exact hK G' v w' x hrel hS2 h4 h7 h8 h3
theorem Ma {Z' : Pg} {N : Nat} {ops : Array Oper} {st : St} {o : Oper} {d : Nat} {fo : Operand} {args : Array Operand} {ts : Array TypeId} {f : FuncId} {caps : List Y} {xs cxs : List X} {res : X} {ps : List Pass}
  (hP : Z'.P=Z.P) (hgv : Z'.gv=Z.gv)
  (ho : o.op = .call { callee:=.value fo,args:=args,argTypes:=ts }) (hg : G9 ops st o=some true) (hf : lk Z.T st 0 fo=some (true, .fn f caps))
  (ha : M2 Z.T st ts.toList args.toList=some (true,xs)) (htr : cxs.map (X.tr ps)=xs++caps.map X.v) (htrok : Aj ps cxs=true)
  (hps : ∀ p ∈ ps,st.box p.n=some p.cs) (hnd : K4 st ps=true) (hs : CtrE Z' f cxs (ps.map Pass.old) (fun _ : Unit=>res) (ps.map Pass.ds) []) (hc : res.clean=true) (hd : o.dst=some d) (hN : Nat.ble (d + 1) N=true)
  (hex : ∀ (E : Env) (G : Gh) (a : Act) (w : World),Rel E G st a w→EOk Z N E→Z'.ex fun j=>(G.passedO ps []).A (.o j)) : Op1 Z N ops o st ((st.stores ps).put d (true,res)):=by
 intro E G a w hr hE K' Q' hK
 have hdN : d < E.nt:=by rw[hE.nt]; exact Nat.le_of_ble_eq_true hN
 refine Ld hP hgv ho hg hf ha htr htrok hps hnd hs E G a w hr hE (hex E G a w hr hE) K' Q' fun G' v w' x hrel hS hx _ _ _=>?_
 rw[hd] at hK ⊢
 exact hK _ v w' (hrel.put hdN (g:=true) (fun _=>hx.mono hS (fun _ _ _=>rfl) fun n hn=>by rw[X.clean_has hc n] at hn; cases hn) fun q=>by cases q)
theorem Y4 {Z' : Pg} {N : Nat} {ops : Array Oper} {rest : List Oper} {K : St→Prop} {st : St} {o : Oper} {d : Nat} {fo : Operand} {args : Array Operand} {ts : Array TypeId} {f : FuncId} {caps : List Y} {xs cxs : List X} {res : X} (ps : List Pass)
  (hP : Z'.P=Z.P) (hgv : Z'.gv=Z.gv)
  (ho : o.op = .call { callee:=.value fo,args:=args,argTypes:=ts }) (hg : G9 ops st o=some true) (hf : lk Z.T st 0 fo=some (true, .fn f caps))
  (ha : M2 Z.T st ts.toList args.toList=some (true,xs)) (htr : cxs.map (X.tr ps)=xs++caps.map X.v) (htrok : Aj ps cxs=true)
  (hps : ∀ p ∈ ps,st.box p.n=some p.cs) (hnd : K4 st ps=true) (hs : CtrE Z' f cxs (ps.map Pass.old) (fun _ : Unit=>res) (ps.map Pass.ds) []) (hc : res.clean=true) (hd : o.dst=some d) (hN : Nat.ble (d + 1) N=true)
  (hex : ∀ (E : Env) (G : Gh) (a : Act) (w : World),Rel E G st a w→EOk Z N E→Z'.ex fun j=>(G.passedO ps []).A (.o j))
  (h : AL Z N ops rest K ((st.stores ps).put d (true,res))) : AL Z N ops (o :: rest) K st:=W9 (Ma hP hgv ho hg hf ha htr htrok hps hnd hs hc hd hN hex) h
theorem J6 {α : Type} {Z' : Pg} {N : Nat} {ops : Array Oper} {rest : List Oper} {K : St→Prop} {st : St} {o : Oper} {d : Nat} {fo : Operand} {args : Array Operand} {ts : Array TypeId} {f : FuncId} {caps : List Y} {xs cxs : List X} {res : α→X} {nb : List (Nat × List C)} (q : Nat) (ps : List Pass) (one : Bool) (cs : α→List C) (ms : List (Nat × Nat × Nat))
  (hP : Z'.P=Z.P) (hgv : Z'.gv=Z.gv)
  (ho : o.op = .call { callee:=.value fo,args:=args,argTypes:=ts }) (hg : G9 ops st o=some true) (hf : lk Z.T st 0 fo=some (true, .fn f caps))
  (ha : M2 Z.T st ts.toList args.toList=some (true,xs)) (htr : cxs.map (X.tr ps)=xs++caps.map X.v) (htrok : Aj ps cxs=true)
  (hps : ∀ p ∈ ps,st.box p.n=some p.cs) (hnd : K4 st ps=true) (hs : CtrE Z' f cxs (ps.map Pass.old) res (ps.map Pass.ds) nb) (hres : ∀ x,res x = .kn one (cs x) (ms.map fun m=>(m.1, .l m.2.1,m.2.2)))
  (hms : (ms.all fun m=>nb.any fun e=>Nat.beq e.1 m.2.1)=true) (hnn : (nb.map (·.1)).Nodup) (hfb : Ns q nb (st.stores ps)=true) (hd : o.dst=some d) (hN : Nat.ble (d + 1) N=true)
  (hex : ∀ (E : Env) (G : Gh) (a : Act) (w : World),Rel E G st a w→EOk Z N E→Z'.ex fun j=>(G.passedO ps []).A (.o j))
  (h : ∀ x,AL Z N ops rest K ((St.addBoxes q nb (st.stores ps)).put d (true, .kn one (cs x) (ms.map fun m=>(m.1, .l (q + m.2.1),m.2.2))))) : AL Z N ops (o :: rest) K st:=by
 intro E G a w hr hE K' hK
 have hdN : d < E.nt:=by rw[hE.nt]; exact Nat.le_of_ble_eq_true hN
 have key : if Region.wanted o (yielded ops a.tmps) then o.wp Z.P a w (wpList Z.P ops (Qn K') rest) (Qn K') else wpList Z.P ops (Qn K') rest (a.put o.dst undef) w:=by
  refine Ld hP hgv ho hg hf ha htr htrok hps hnd hs E G a w hr hE (hex E G a w hr hE) _ _ fun G' v w' x hrel hS hx hnb hnew hwf=>?_
  have hBw : E.B≤w.heap.size:=Nat.le_trans hr.hB hr.fr.size
  obtain ⟨G3,k1,k2,k3,_⟩:=Rel.adopts (W':=G'.W) (A':=fun m=>G'.A (.l m)) q nb hrel hfb hnn (fun e he hne=>by
   obtain ⟨c,hc⟩ : ∃ c,e.2[0]? = some c:=by
    cases hz : e.2 with
    | nil=>exact absurd hz hne
    | cons c r=>exact ⟨c,rfl⟩
   exact Nat.le_trans hBw (hnew _ _ _ (hnb e he 0 c hc).1)) fun e he j c hj=>by
    obtain ⟨p1,p2,u,p3,p4⟩:=hnb e he j c hj
    have hge:=hnew _ _ _ p1
    refine ⟨p1,?_,hwf _ _ (by rw[p1]; simp),p2,u,p3,p4.mono hS fun _ _ _=>rfl⟩
    show (if _ then _ else _)=_
    rw[if_neg (fun z=>by omega),p1]; rfl
  rw[hres x] at hx
  rw[hd]
  refine h x E G3 _ _ (k1.put hdN (g:=true) (fun _=>?_) fun q=>by cases q) hE K' hK
  obtain ⟨vs,x1,x2,x3,x4⟩:=hx
  refine ⟨vs,x1,x2,x3.mono fun _ _ hc=>hc.mono (fun b o z=>k2 b o (hS b o z)) fun _ _ _=>rfl,fun m hm=>?_⟩
  obtain ⟨m0,hm0,rfl⟩:=List.mem_map.1 hm
  obtain ⟨u,h5,h6⟩:=x4 (m0.1, .l m0.2.1,m0.2.2) (List.mem_map.2 ⟨m0,hm0,rfl⟩)
  refine ⟨u,h5,?_⟩
  obtain ⟨e,he,hee⟩:=List.any_eq_true.1 (List.all_eq_true.1 hms m0 hm0)
  have hq:=k3 e he
  rw[Nat.eq_of_beq_eq_true hee] at hq
  rw[hq]
  exact h6
 unfold wpList
 split at key
 ·rename_i hw; rw[if_pos hw]; exact .inl key
 ·rename_i hw; rw[if_neg hw]; exact key
end Go.Abs
namespace Go.Abs
variable {Z : Pg}
theorem CtrE.ofN {f : FuncId} {args : List X} {L : Nat} {cs : List C} (h : CtrN Z f args L cs) (hL : 0 < L) (m : Nat) : CtrE Z f args [] (fun u : Value=>.kn true [.o u] [(0, .l m,L)]) [] [(m,cs)]:=by
 obtain ⟨h1,h2⟩:=h
 refine ⟨h1,fun w G vs hvs hwf _ hbox hown _ hgl=>?_⟩
 have hnb : ∀ b o n,G.W b o ≠ .box n:=fun b o n hn=>by obtain ⟨j,cs,k,_,hj,_⟩:=hbox b o n hn; simp at hj
 refine (h2 w G vs hvs hwf hnb hown hgl).mono ?_
 rintro e w' ⟨v,G',b,o0,cap,rfl,hfr,i1,i2,i3,hv,hcap,hb1,hb2,hcells⟩
 let G2 : Gh:={ A:=fun n=>if n = .l m then (b,o0) else G.A n,W:=fun b' o'=>if b'=b∧o0≤o'∧o' < o0 + cs.length then .box (.l m) else match G'.W b' o' with | .imm=>.imm | _=>.none }
 have hin : ∀ b' o',b'=b∧o0≤o'∧o' < o0 + cs.length→G'.W b' o' ≠ .imm:=fun b' o' q=>by
  obtain ⟨q1,q2,q3⟩:=q
  subst q1
  obtain ⟨k,rfl⟩ : ∃ k,o'=o0 + k:=⟨o' - o0,by omega⟩
  exact (hcells k _ (List.getElem?_eq_getElem (by omega))).1
 have hS : ∀ b' o',G'.S b' o'→G2.S b' o':=fun b' o' hs=>by
  unfold Gh.S at *
  simp only [G2]
  rw[if_neg (fun q=>hin b' o' q hs),hs]
 have hI : ∀ b' o',G2.W b' o' = .imm→G'.W b' o' = .imm:=fun b' o' hi=>by
  simp only [G2] at hi
  split at hi
  ·cases hi
  ·split at hi
   ·assumption
   ·cases hi
 have hA : G2.A (.l m)=(b,o0):=by simp only [G2]; rw[if_pos O]
 refine ⟨v,G2,v,rfl,hfr.mono (Nat.le_refl _) fun _ _ _ q=>q.elim,fun b' o' hi=>hS b' o' (i1 b' o' hi),fun b' o' hb hi=>i2 b' o' hb (hI b' o' hi),fun b' o' hn=>?_,?_,fun j=>?_,fun j ds hj=>by simp at hj,fun e he=>?_,fun b' o' k hk=>?_,fun b' o' p hp=>?_⟩
 ·simp only [G2] at hn
  split at hn
  ·rename_i q; rw[q.1]; exact hb2
  ·refine i3 b' o' fun q=>?_
   rw[q] at hn; exact hn J
 ·refine ⟨[v],fun _=>rfl,(fun q=>by cases q),⟨.o v (by rw[hv]; rfl),O⟩,fun x hx=>?_⟩
  rw[List.mem_singleton.1 hx]
  refine ⟨v,rfl, .inr ⟨hL,cap,hcap,?_⟩⟩
  show v = .slice (some ⟨(G2.A (.l m)).1,(G2.A (.l m)).2,none⟩) L cap
  rw[hA]; exact hv
 ·simp only [G2]; rw[if_neg (by simp)]
 ·rw[List.mem_singleton.1 he]
  intro k c hk
  obtain ⟨q1,q2,u,q3,q4⟩:=hcells k c hk
  have hkl : k < cs.length:=(List.getElem?_eq_some_iff.1 hk).1
  show G2.W (G2.A (.l m)).1 ((G2.A (.l m)).2 + k)=_∧w'.frozen? ⟨(G2.A (.l m)).1,(G2.A (.l m)).2 + k,none⟩=false ∧ ∃ u,w'.cell? ⟨(G2.A (.l m)).1,(G2.A (.l m)).2 + k,none⟩=some u∧_
  rw[hA]
  refine ⟨?_,q2,u,q3,q4.mono hS fun _ _ _=>rfl⟩
  simp only [G2]
  rw[if_pos ⟨O,by omega,by omega⟩]
 ·simp only [G2] at hk
  split at hk
  ·rename_i q; rw[q.1]; exact hb1
  ·split at hk <;> cases hk
 ·simp only [G2] at hp
  split at hp
  ·cases hp
  ·split at hp <;> cases hp
theorem CtrE.ofNil {f : FuncId} {args : List X} {sz : Nat} {ro : Option Nat} (h : Ctr Z f args [] (.v (.c (.sl sz []))) ro []) (m : Nat) : CtrE Z f args [] (fun u : Value=>.kn true [.o u] [(0, .l m,0)]) [] [(m,[])]:=by
 obtain ⟨h1,h2⟩:=h
 refine ⟨h1,fun w G vs hvs hwf hbx hbox hown _ hgl=>?_⟩;refine (h2 w G vs hvs hwf hbx hbox hown hgl).mono ?_
 rintro e w' ⟨v,G',rfl,hfr,i1,i2,i3,i4,i5,_⟩
 let G2 : Gh:={ A:=G'.A,W:=fun b' o'=>match G'.W b' o' with | .imm=>.imm | _=>.none }
 have hS : ∀ b' o',G'.S b' o'→G2.S b' o':=fun b' o' hs=>by
  unfold Gh.S at *
  simp only [G2]; rw[hs]
 have hI : ∀ b' o',G2.W b' o' = .imm∨G2.W b' o' = .none:=fun b' o'=>by
  simp only [G2]
  split
  ·exact .inl J
  ·exact .inr J
 have hI2 : ∀ b' o',G2.W b' o' = .imm→G'.W b' o' = .imm:=fun b' o' hi=>by
  simp only [G2] at hi
  split at hi
  ·assumption
  ·cases hi
 refine ⟨v,G2,v,rfl,hfr,fun b' o' hi=>hS b' o' (i1 b' o' hi),fun b' o' hb hi=>i2 b' o' hb (hI2 b' o' hi),fun b' o' hn=>?_,?_,i5,fun j ds hj=>by simp at hj,fun e he=>?_,fun b' o' k hk=>?_,fun b' o' p hp=>?_⟩
 ·rcases hI b' o' with q | q
  ·exact i3 b' o' (by rw[hI2 b' o' q]; simp)
  ·exact absurd q hn
 ·have hr : CRep w' G'.S (.sl sz []) v:=i4
  refine ⟨[v],fun _=>rfl,(fun q=>by cases q),⟨.o v hr.one,O⟩,fun x hx=>?_⟩
  rw[List.mem_singleton.1 hx]
  refine ⟨v,rfl, .inl ⟨rfl,?_⟩⟩
  cases hr with
  | emp=>exact .inl ⟨_,rfl⟩
  | sl _ _ blk off len cap vals hl=>simp at hl; subst hl; exact .inr ⟨_,_,_,rfl⟩
 ·rw[List.mem_singleton.1 he]
  intro k c hk; simp at hk
 ·rcases hI b' o' with q | q <;> rw[q] at hk <;> cases hk
 ·rcases hI b' o' with q | q <;> rw[q] at hp <;> cases hp
theorem uC7 {w : World} {G : Gh} {one : Bool} {cs : List C} {ms : List (Nat × Nm × Nat)} {v u : Value} {i j L : Nat} {n : Nm} (h : XRep w G (.kn one cs ms) v) (hi : cs[i]? = some (.o u)) (hm : ms[j]? = some (i,n,L)) : SlAt (G.A n) L u:=by
 obtain ⟨vs,_,_,h3,h4⟩:=h
 obtain ⟨u',h5,h6⟩:=h4 _ (List.mem_of_getElem? hm)
 obtain ⟨u2,h7,h8⟩:=h3.get i _ hi
 rw[h7] at h5
 have e : u2=u:=by cases h8; rfl
 subst e
 simp only [Option.some.injEq] at h5
 subst h5
 exact h6
theorem Nu {E : Env} {G : Gh} {st : St} {a : Act} {w : World} (hr : Rel E G st a w) {k i j L : Nat} {one : Bool} {cs : List C} {ms : List (Nat × Nm × Nat)} {u : Value} {n : Nm} (hk : st.get k=some (true, .kn one cs ms)) (hi : cs[i]? = some (.o u)) (hm : ms[j]? = some (i,n,L)) : SlAt (G.A n) L u:=by
 obtain ⟨v,_,h1,_⟩:=hr.tm k true _ hk
 exact uC7 (h1 J) hi hm
theorem uA1 {w : World} {G : Gh} {one : Bool} {cs : List C} {ms : List (Nat × Nm × Nat)} {v : Value} (h : XRep w G (.kn one cs ms) v) : All2 (CRep w G.S) cs v.cells.toList:=by
 obtain ⟨vs,h1,h2,h3,_⟩:=h
 cases one with
 | false =>
  rw[h2 J]
  simpa [Value.cells] using h3
 | true =>
  rw[h1 J] at h3
  match cs,h3 with
  | [c],⟨q,_⟩ =>
   rw[De (CRep.one q)]
   exact ⟨q,O⟩
section
variable {st : St} {ty : TypeId} {gate : Bool}
theorem T9 (k i j : Nat) {x : Operand} {t : TypeId} {g one : Bool} {n : Nm} {L : Nat} {u : Value} {cs : List C} {ms : List (Nat × Nm × Nat)} {ti : TyI} {el : Nat × Nat × Nat} (h : lk Z.T st ty x=some (g, .v (.c (.o u)))) (hg : gate=true→g=true)
  (hk : st.get k=some (true, .kn one cs ms)) (hi : cs[i]? = some (.o u)) (hm : ms[j]? = some (i,n,L)) (ht : tyAt Z.T t=some ti) (hel : ti.el=some el) : PureOk Z st (.call { callee:=.builtin .len,args:=#[x],argTypes:=#[t] }) ty gate (.v (.c (.i .i64 (L : Int)))):=by
 intro o E G a w ho _ hr hgt
 obtain ⟨e,s,by'⟩:=el
 have hu:=((Z.tyOk ht).sl e s by' hel).1
 have hx : CRep w G.S (.o u) (a.eval x):=F5 hr h (hg hgt)
 have hev : a.eval x=u:=by generalize a.eval x=v at hx; cases hx; rfl
 refine ⟨.int .i64 L,CRep.i _ _,?_⟩
 rcases Nu hr hk hi hm with ⟨rfl,⟨a0,h2⟩ | ⟨b,o0,c,h2⟩⟩ | ⟨_,cap,_,h2⟩
 ·rw[h2] at hev; simp [execOp,ho,hev,Go.resolve,invoke,builtin,Builtin.len_,underlying,hu,goInt]
 ·rw[h2] at hev; simp [execOp,ho,hev,Go.resolve,invoke,builtin,Builtin.len_,underlying,hu,goInt]
 ·rw[h2] at hev; simp [execOp,ho,hev,Go.resolve,invoke,builtin,Builtin.len_,underlying,hu,goInt]
theorem N2 (k i j sz : Nat) {t : TypeId} {x : Operand} {g one : Bool} {n m : Nm} {off L : Nat} {ti : TyI} {ds cs : List C} {ms : List (Nat × Nm × Nat)} {u : Value} (h : lk Z.T st ty x=some (g, .v (.ptr n off))) (hg : gate=true→g=true)
  (ht : tyAt Z.T t=some ti) (hagg : ti.agg=false) (hb : st.box n=some ds) (hc : ds[off]? = some (.o u)) (hk : st.get k=some (true, .kn one cs ms)) (hi : cs[i]? = some (.o u)) (hm : ms[j]? = some (i,m,L)) (hL : 0 < L) : PureOk Z st (.load t x) ty gate (.v (.ms m sz 0 L)):=by
 intro o E G a w ho hn hr hgt
 obtain ⟨v,hv,hrun⟩:=B2 h hg ht hagg hb hc o E G a w ho hn hr hgt
 refine ⟨v,?_,hrun⟩
 have e : v=u:=by cases hv; rfl
 subst e
 rcases Nu hr hk hi hm with ⟨h0,_⟩ | ⟨_,cap,h3,h4⟩
 ·omega
 ·exact .inr ⟨cap,h3,h4⟩
theorem Q2 (k : Nat) {t : TypeId} {x : Operand} {g : Bool} {n : Nm} {off : Nat} {ti : TyI} {ds : List C} {f : FuncId} {caps : List Y} {u : Value} (h : lk Z.T st ty x=some (g, .v (.ptr n off))) (hg : gate=true→g=true)
  (ht : tyAt Z.T t=some ti) (hagg : ti.agg=false) (hb : st.box n=some ds) (hc : ds[off]? = some (.o u)) (hk : st.get k=some (true, .fnv f caps u)) : PureOk Z st (.load t x) ty gate (.fn f caps):=by
 intro o E G a w ho hn hr hgt
 obtain ⟨v,hv,hrun⟩:=B2 h hg ht hagg hb hc o E G a w ho hn hr hgt
 refine ⟨v,?_,hrun⟩
 have e : v=u:=by cases hv; rfl
 subst e
 obtain ⟨v',_,h1,_⟩:=hr.tm k true _ hk
 obtain ⟨e1,h2⟩:=h1 rfl
 rw[e1] at h2
 exact h2
theorem R9 {N : Nat} {t : TypeId} {x v : Operand} {n : Nm} {off : Nat} {one : Bool} {ms : List (Nat × Nm × Nat)} {cs ds : List C} {ti : TyI} (hx : lk Z.T st t x=some (true, .v (.ptr n off))) (hv : lk Z.T st t v=some (true, .kn one ds ms))
  (hb : st.box n=some cs) (ht : tyAt Z.T t=some ti) (hn : ds.length=ti.n) (hl : Nat.ble (off + ds.length) cs.length=true) (hnb : (!n.isBd || !Nat.beq off 0)=true:=by rfl) :
  Does Z N st none (.store t x v) ty (st.store n (H6 cs off ds) off ds.length):=by
 intro o E G a w hd ho _ hr hE K Q hK
 have h1 : a.eval x=_:=F5 hr hx J
 have h2:=uA1 (F5 hr hv J)
 have hl':=Nat.le_of_ble_eq_true hl
 have hrun:=P1 hr hb hl' ht hn h2
 unfold Oper.wp
 have : (execOp a.eval o).run Z.P w = .ok .skip (w.setCells (G.A n).1 ((G.A n).2 + off) (a.eval v).cells.toList):=by
  simp [execOp,ho,h1,hrun]
 rw[this,Oper.upon_skip,hd]
 exact hK G undef _ (hr.storeAll ds _ hb hl' h2 (nbOf hnb))
theorem Se {N : Nat} {t : TypeId} {x v : Operand} {n : Nm} {off : Nat} {f : FuncId} {caps : List Y} {u : Value} {cs : List C} {ti : TyI} (hx : lk Z.T st t x=some (true, .v (.ptr n off))) (hv : lk Z.T st t v=some (true, .fnv f caps u))
  (hb : st.box n=some cs) (ht : tyAt Z.T t=some ti) (hn : ti.n=1) (hl : Nat.ble (off + 1) cs.length=true) (hnb : (!n.isBd || !Nat.beq off 0)=true:=by rfl) :
  Does Z N st none (.store t x v) ty (st.store n (H6 cs off [.o u]) off 1):=by
 intro o E G a w hd ho _ hr hE K Q hK
 have h1 : a.eval x=_:=F5 hr hx J
 obtain ⟨e1,vs,e2,_⟩:=F5 hr hv rfl
 have h2 : All2 (CRep w G.S) [.o u] (a.eval v).cells.toList:=by
  rw[← e1,e2]
  exact ⟨.o _ J,O⟩
 have hl':=Nat.le_of_ble_eq_true hl
 have hrun:=P1 (ds:=[.o u]) hr hb hl' ht hn.symm h2
 unfold Oper.wp
 have : (execOp a.eval o).run Z.P w = .ok .skip (w.setCells (G.A n).1 ((G.A n).2 + off) (a.eval v).cells.toList):=by
  simp [execOp,ho,h1,hrun]
 rw[this,Oper.upon_skip,hd]
 exact hK G undef _ (hr.storeAll [.o u] _ hb hl' h2 (nbOf hnb))
end
theorem Rel.slot {E : Env} {G : Gh} {st : St} {a : Act} {w : World} (h : Rel E G st a w) {k : Nat} {x : X} {v : Value} (hv : a.tmps[k]? = some v) (hx : XRep w G x v) : Rel E G { st with t:=(k,true,x) :: st.t } a w:=by
 refine { df:=h.df,tm:=?_,bx:=h.bx,ow:=h.ow,wf:=h.wf,olB:=h.olB,olO:=h.olO,nt:=h.nt,oA:=h.oA,im:=h.im,im':=h.im',fr:=h.fr,hB:=h.hB,lo:=h.lo,bd:=h.bd,mp:=h.mp }
 intro j g y hj
 have hj2 : getT ((k,true,x) :: st.t) j=some (g,y):=hj
 rw[N6] at hj2
 split at hj2
 ·rename_i he; subst he
  simp only [Option.some.injEq,Prod.mk.injEq] at hj2
  obtain ⟨rfl,rfl⟩:=hj2
  exact ⟨v,hv,fun _=>hx,fun q=>by cases q⟩
 ·exact h.tm _ _ _ hj2
section
variable {N : Nat} {ops : Array Oper} {rest : List Oper} {K : St→Prop} {st : St}
theorem uA6 (k : Nat) {f : FuncId} {caps : List Y} (hk : st.get k=some (true, .fn f caps)) (h : ∀ u,AL Z N ops rest K { st with t:=(k,true, .fnv f caps u) :: st.t }) : AL Z N ops rest K st:=fun E G a w hr hE=>by
 obtain ⟨v,hv,h1,_⟩:=hr.tm k true _ hk
 exact h v E G a w (hr.slot hv ⟨rfl,h1 J⟩) hE
theorem Pz (j k i i2 sz : Nat) {one : Bool} {n : Nm} {L : Nat} {cs : List C} {ms : List (Nat × Nm × Nat)} {u : Value} (hj : st.get j=some (true, .v (.c (.o u)))) (hk : st.get k=some (true, .kn one cs ms)) (hi : cs[i]? = some (.o u)) (hm : ms[i2]? = some (i,n,L)) (hL : 0 < L)
  (h : AL Z N ops rest K (st.same j n sz 0 L)) : AL Z N ops rest K st:=fun E G a w hr hE=>by
 obtain ⟨v,hv,h1,_⟩:=hr.tm j true _ hj
 have e : v=u:=by
  have : CRep w G.S (.o u) v:=h1 J
  cases this; rfl
 subst e
 refine h E G a w (hr.slot (x:=.v (.ms n sz 0 L)) hv ?_) hE
 rcases Nu hr hk hi hm with ⟨h0,_⟩ | ⟨_,cap,h3,h4⟩
 ·omega
 ·exact .inr ⟨cap,h3,h4⟩
def KEx (fv : Value) (f : FuncId) (i j : Nat) : (Nat→Nat × Nat)→Prop:=fun A=>fv = .func (.func f) #[] #[.pointer (some ⟨(A i).1,(A i).2 + 0,none⟩), .pointer (some ⟨(A j).1,(A j).2 + 0,none⟩)]
theorem Nz (k : Nat) {f : FuncId} {i j : Nat} {fv : Value} (hex : Z.ex=KEx fv f i j) (hk : st.get k=some (true, .v (.c (.o fv)))) (h : AL Z N ops rest K { st with t:=(k,true, .fn f [.ptr (.o i) 0, .ptr (.o j) 0]) :: st.t }) : AL Z N ops rest K st:=fun E G a w hr hE=>by
 obtain ⟨v,hv,h1,_⟩:=hr.tm k true _ hk
 have e : v=fv:=by
  have : CRep w G.S (.o fv) v:=h1 J
  cases this; rfl
 subst e
 have hx:=hE.ex
 rw[hex] at hx
 refine h E G a w (hr.slot hv ⟨_,hx,?_,?_,O⟩) hE
 ·show _=_
  rw[hr.oA i]
 ·show _=_
  rw[hr.oA j]
end
theorem Cy {G : Gh} {ps : List Pass} {i : Nat} {p : Pass} (hp : ps[i]? = some p) : (G.passedO ps []).A (.o i)=((G.A p.n).1,(G.A p.n).2 + p.off):=by simp [Gh.passedO,Gh.passed,hp]
theorem Fg {N : Nat} {ps : List Pass} {fv : Value} {f : FuncId} {i j i' j' : Nat} {p q : Pass} (hex : Z.ex=KEx fv f i j) (hp : ps[i']? = some p) (hpn : p.n = .o i) (hp0 : p.off=0) (hq : ps[j']? = some q) (hqn : q.n = .o j) (hq0 : q.off=0)
  {st : St} (E : Env) (G : Gh) (a : Act) (w : World) (hr : Rel E G st a w) (hE : EOk Z N E) : KEx fv f i' j' fun j=>(G.passedO ps []).A (.o j):=by
 have hx:=hE.ex
 rw[hex] at hx
 unfold KEx at hx ⊢
 dsimp only
 rw[hx,Cy hp,Cy hq,hpn,hqn,hp0,hq0,hr.oA i,hr.oA j]
 rfl
theorem uBQ {N : Nat} {ps : List Pass} {fv : Value} {f : FuncId} {i' j' k : Nat} {n1 n2 : Nm} {p q : Pass} {st : St} (hk : st.get k=some (true, .fnv f [.ptr n1 0, .ptr n2 0] fv)) (hp : ps[i']? = some p) (hpn : p.n=n1) (hp0 : p.off=0) (hq : ps[j']? = some q) (hqn : q.n=n2) (hq0 : q.off=0)
  (E : Env) (G : Gh) (a : Act) (w : World) (hr : Rel E G st a w) (hE : EOk Z N E) : KEx fv f i' j' fun j=>(G.passedO ps []).A (.o j):=by
 obtain ⟨v,_,h1,_⟩:=hr.tm k true _ hk
 obtain ⟨e,vs,h2,h3⟩:=h1 rfl
 subst e
 match vs,h3 with
 | [a1,a2],⟨q1,q2,_⟩ =>
  have q1 : a1 = .pointer (some ⟨(G.A n1).1,(G.A n1).2 + 0,none⟩):=q1
  have q2 : a2 = .pointer (some ⟨(G.A n2).1,(G.A n2).2 + 0,none⟩):=q2
  subst q1 q2
  unfold KEx
  dsimp only
  rw[h2,Cy hp,Cy hq,hpn,hqn,hp0,hq0]
  rfl
theorem Bt {N : Nat} {c : Code} {Q : Exit→St→Prop} {st : St} (k i j m : Nat) (n : Nm) (off : Nat) {sz L : Nat} {one : Bool} {u : Value} {cs ds : List C} {ms : List (Nat × Nm × Nat)} (es : List (List C)) (hk : st.get k=some (true, .kn one cs ms)) (hi : cs[i]? = some (.o u)) (hj : ms[j]? = some (i, .l m,L))
  (hb : st.box (.l m)=some es.flatten) (hL : es.length=L) (hm : L≤9223372036854775807) (hrow : ∀ (i : Nat) (row : List C),es[i]? = some row→row.length=sz) (hfo : st.freshO (.l m,false)=true) (hn : st.box n=some ds) (hnm : Nm.beq (.l m) n=false) (hc : ds[off]? = some (.o u)) (hnb : n.isBd=false)
  (h : AWP Z N c Q { st with bx:=(n,H6 ds off [.sl sz es]) :: (.l m,[]) :: st.bx }) : AWP Z N c Q st:=fun E G a w hr hE=>by
 have h0:=hr.frzB (St.freshO_ok hfo)
 have hsl:=Nu hr hk hi hj
 have hrep : CRep w (G.frz (.l m)).S (.sl sz es) u:=by
  rcases hsl with ⟨e0,⟨a0,h2⟩ | ⟨b,o0,c0,h2⟩⟩ | ⟨_,cap,h3,h4⟩
  ·rw[h2,List.eq_nil_of_length_eq_zero (hL.trans e0)]; exact .emp sz a0
  ·rw[h2,List.eq_nil_of_length_eq_zero (hL.trans e0)]
   exact CRep.mk_sl J (Nat.zero_le _) (Nat.zero_le _) fun i row hi=>by simp at hi
  ·rw[h4]; exact hr.frzC hb hL hm hrow h3
 refine h E (G.frz (.l m)) a w (h0.setBox ?_ hnb) hE
 have hbn : St.box { st with bx:=(.l m,[]) :: st.bx } n=some ds:=by
  have e : St.box { st with bx:=(.l m,[]) :: st.bx } n=if (Nm.l m)=n then some [] else st.box n:=G6 _ _ _ _
  rw[e,if_neg]
  ·exact hn
  ·intro q; rw[q,Nm.beq_self] at hnm; cases hnm
 have hold:=h0.bx n ds hbn
 have hoff : off < ds.length:=(List.getElem?_eq_some_iff.1 hc).1
 intro j c hj
 by_cases q : j=off
 ·subst q
  obtain ⟨p1,p2,v3,p3,p4⟩:=hold j _ hc
  have e3 : v3=u:=by cases p4; rfl
  subst e3
  have ec : c = .sl sz es:=by
   have : (H6 ds j [C.sl sz es])[j]? = some (.sl sz es):=by
    rw[Lf]; simp [hoff]
   rw[this] at hj; exact (Option.some.inj hj).symm
  subst ec
  exact ⟨p1,p2,v3,p3,hrep⟩
 ·have : (H6 ds off [C.sl sz es])[j]? = ds[j]? := by
   rw[Lf,List.getElem?_set,if_neg (fun e=>q e.symm)]
  rw[this] at hj
  exact hold j c hj
theorem Gs : ∀ (ps : List Pass) (st : St) (q : Pl),(∀ p ∈ ps,Pl.inCells p.n p.off p.ds.length q=false)→(st.stores ps).own q=st.own q
 | [],_,_,_=>rfl
 | p :: r,st,q,h=>by
  rw[St.stores,Gs r _ q fun x hx=>h x (by simp [hx]),St.store_own,if_neg (by rw[h p (by simp)]; simp)]
theorem Kz : ∀ (l : List Pass) (s s' : St),K4 s l=K4 s' l
 | [],_,_=>rfl
 | x :: l,s,s'=>by simp only [K4,Kz l s s']
section
variable {N : Nat} {st s0 : St} {ops : Array Oper} {B : List Nat} {k : Nat} {rest : List Oper} {acc : List Lnk} {o : Oper} {Q : St→Prop} {d : Nat} {gate : Bool}
theorem K9 (j : Nat) {x : X} {n : Nm} {off t : Nat} {y : Operand} {g0 : Bool} (hk : ops[k]? = some o) (ho : o.op = .load t y) (h0 : lk Z.T st o.type y=some (g0, .v (.ptr n off))) (hg : G9 ops (rs (uAT ops o n j) st) o=some gate) (hd : o.dst=some d) (hN : Nat.ble (d + 1) N=true) (hp : PureOk Z (rs (uAT ops o n j) st) o.op o.type gate x)
  (hr : Draw Z N s0 ops B (k + 1) rest (acc++[(k,{ d:=some (d,gate,x),drop:=[.t d] },uAT ops o n j)]) (ap { d:=some (d,gate,x),drop:=[.t d] } st) Q) : Draw Z N s0 ops B k (o :: rest) acc st Q :=
 let _:=h0; let _:=ho; Q3 hk (Hx hg hd hN hp) hr
theorem uAP {Z' : Pg} {fo : Operand} {args : Array Operand} {ts : Array TypeId} {f : FuncId} {caps : List Y} {xs cxs : List X} {res : X} {p0 : Pass} {pr : List Pass} {R : Foot}
  (hP : Z'.P=Z.P) (hgv : Z'.gv=Z.gv)
  (ho : o.op = .call { callee:=.value fo,args:=args,argTypes:=ts }) (hg : G9 ops (rs R st) o=some true) (hf : lk Z.T (rs R st) 0 fo=some (true, .fn f caps))
  (ha : M2 Z.T (rs R st) ts.toList args.toList=some (true,xs)) (htr : cxs.map (X.tr (p0 :: pr))=xs++caps.map X.v) (htrok : Aj (p0 :: pr) cxs=true)
  (hps : ∀ p ∈ p0 :: pr,(rs R st).box p.n=some p.cs) (hnd : K4 (rs R st) (p0 :: pr)=true) (hs : CtrE Z' f cxs ((p0 :: pr).map Pass.old) (fun _ : Unit=>res) ((p0 :: pr).map Pass.ds) []) (hc : res.clean=true) (hd : o.dst=some d) (hN : Nat.ble (d + 1) N=true)
  (hex : ∀ (s2 : St) (E : Env) (G : Gh) (a : Act) (w : World),Rel E G s2 a w→EOk Z N E→Z'.ex fun j=>(G.passedO (p0 :: pr) []).A (.o j)) (hsame : ∀ p ∈ pr,H6 p.cs p.off p.ds=p.cs) :
  LS Z N ops o { d:=some (d,true,res),b:=some (p0.n,H6 p0.cs p0.off p0.ds),drop:=.t d :: (p0 :: pr).flatMap fun p=>Q4 p.n p.off p.ds.length } R st:=by
 intro s2 hag _
 have hps2 : ∀ p ∈ p0 :: pr,s2.box p.n=some p.cs:=fun q hq=>hag.sub.bx _ _ (hps q hq)
 have hnd2 : K4 s2 (p0 :: pr)=true:=by rw[Kz _ s2 (rs R st)]; exact hnd
 refine (Ma (Z':=Z') (st:=s2) hP hgv ho (N1 hag.sub hg) (Ay hag.sub hf) (Ft hag.sub ha) htr htrok hps2 hnd2 hs hc hd hN (hex s2)).sub ⟨?_,?_,?_, .inr (show s2.mp=(s2.stores (p0 :: pr)).mp from (Cx _ _).symm)⟩
 ·intro j e hj
  rw[P9] at hj
  rw[St.put_get,Az]
  simp only [Eff.gt] at hj
  by_cases h : d=j
  ·subst h; simpa using hj
  ·have h' : ¬ j=d:=fun e=>h e.symm
   simpa [h,h'] using hj
 ·intro m ds hm
  rw[Q6] at hm
  show (s2.stores (p0 :: pr)).box m=_
  simp only [Eff.gb] at hm
  by_cases h0 : p0.n=m
  ·subst h0
   rw[Y8 _ s2 p0 hnd2 (by simp)]
   simpa using hm
  ·have hm2 : s2.box m=some ds:=by simpa [h0] using hm
   by_cases h1 : ∃ p ∈ pr,p.n=m
   ·obtain ⟨p,hp,rfl⟩:=h1
    rw[Y8 _ s2 p hnd2 (by simp [hp]),hsame p hp,← hps2 p (by simp [hp])]
    exact hm2
   ·rw[L1 _ s2 m fun p hp e=>?_]
    ·exact hm2
    ·rcases List.mem_cons.1 hp with rfl | hp
     ·exact h0 e
     ·exact h1 ⟨p,hp,e⟩
 ·intro q s hq
  rw[O5] at hq
  rw[St.put_own]
  simp only [Eff.go,List.mem_cons] at hq
  split
  ·rename_i he; rw[if_pos (.inl he)] at hq; exact hq
  ·rename_i he
   show (s2.stores (p0 :: pr)).own q=_
   by_cases hin : ∃ p ∈ p0 :: pr,Pl.inCells p.n p.off p.ds.length q=true
   ·obtain ⟨p,hp,hpq⟩:=hin
    rw[if_pos (.inr (List.mem_flatMap.2 ⟨p,hp,mem_cellPls.2 hpq⟩))] at hq
    cases hq
   ·rw[Gs _ s2 q fun p hp=>by
     cases hb : Pl.inCells p.n p.off p.ds.length q with
     | false=>rfl
     | true=>exact absurd ⟨p,hp,hb⟩ hin]
    rw[if_neg (by
     rintro (h | h)
     ·exact he h
     ·obtain ⟨p,hp,hpq⟩:=List.mem_flatMap.1 h
      exact hin ⟨p,hp,mem_cellPls.1 hpq⟩)] at hq
    exact hq
end
theorem T3 {N : Nat} {st s0 : St} {ops : Array Oper} {B : List Nat} {k : Nat} {rest : List Oper} {acc : List Lnk} {o : Oper} {Q : St→Prop} {d : Nat} {Z' : Pg} {fo : Operand} {args : Array Operand} {ts : Array TypeId} {f : FuncId} {caps : List Y} {xs cxs : List X} {res : X} (p0 : Pass) (pr : List Pass)
  (hk : ops[k]? = some o) (hP : Z'.P=Z.P) (hgv : Z'.gv=Z.gv)
  (ho : o.op = .call { callee:=.value fo,args:=args,argTypes:=ts }) (hg : G9 ops (rs (foot ops o ((p0 :: pr).map Pass.n) []) st) o=some true) (hf : lk Z.T (rs (foot ops o ((p0 :: pr).map Pass.n) []) st) 0 fo=some (true, .fn f caps))
  (ha : M2 Z.T (rs (foot ops o ((p0 :: pr).map Pass.n) []) st) ts.toList args.toList=some (true,xs)) (htr : cxs.map (X.tr (p0 :: pr))=xs++caps.map X.v) (htrok : Aj (p0 :: pr) cxs=true)
  (hps : ∀ p ∈ p0 :: pr,(rs (foot ops o ((p0 :: pr).map Pass.n) []) st).box p.n=some p.cs) (hnd : K4 (rs (foot ops o ((p0 :: pr).map Pass.n) []) st) (p0 :: pr)=true) (hs : CtrE Z' f cxs ((p0 :: pr).map Pass.old) (fun _ : Unit=>res) ((p0 :: pr).map Pass.ds) []) (hc : res.clean=true) (hd : o.dst=some d) (hN : Nat.ble (d + 1) N=true)
  (hex : ∀ (s2 : St) (E : Env) (G : Gh) (a : Act) (w : World),Rel E G s2 a w→EOk Z N E→Z'.ex fun j=>(G.passedO (p0 :: pr) []).A (.o j)) (hsame : ∀ p ∈ pr,H6 p.cs p.off p.ds=p.cs)
  (hr : Draw Z N s0 ops B (k + 1) rest (acc++[(k,{ d:=some (d,true,res),b:=some (p0.n,H6 p0.cs p0.off p0.ds),drop:=.t d :: (p0 :: pr).flatMap fun p=>Q4 p.n p.off p.ds.length },foot ops o ((p0 :: pr).map Pass.n) [])])
   (ap { d:=some (d,true,res),b:=some (p0.n,H6 p0.cs p0.off p0.ds),drop:=.t d :: (p0 :: pr).flatMap fun p=>Q4 p.n p.off p.ds.length } st) Q) : Draw Z N s0 ops B k (o :: rest) acc st Q :=
 Q3 hk (uAP hP hgv ho hg hf ha htr htrok hps hnd hs hc hd hN hex hsame) hr
theorem Aa {st : St} {p : Pass} {r : List Pass} (h1 : Nat.ble (p.off + p.ds.length) p.cs.length=true) (h2 : ((!p.n.isBd && r.all fun q=>!Nm.beq p.n q.n) && K4 st r)=true) : K4 st (p :: r)=true:=by
 rw[K4,h1]
 simpa [Bool.and_assoc] using h2
theorem Ep {a b : Pass} (ha : H6 a.cs a.off a.ds=a.cs) (hb : H6 b.cs b.off b.ds=b.cs) : ∀ p ∈ [a,b],H6 p.cs p.off p.ds=p.cs:=by
 intro p hp
 simp only [List.mem_cons,List.not_mem_nil,or_false] at hp
 rcases hp with rfl | rfl <;> assumption
section
variable {α : Type} {T : List (Option TyI)} {rs : List ResultVar} {res : α→X} {bs' : List (List C)} {s : St}
theorem Nw (a : α) {x : X} (h : resX T s rs=some x) (hx : x=res a) (hb : subB s (R4 0 bs')) : retE T rs res bs' [] .ret s:=by
 have h1 : retS T rs (res a) none bs' .ret s:=C5 h hx hb
 exact ⟨a, .inl h1.1,h1.2.2,fun e he=>by cases he⟩
theorem Au (a : α) {x : X} (h : resX T s rs=some x) (hx : x=res a) (hb : subB s (R4 0 bs')) : retE T rs res bs' [] .normal s:=Nw a h hx hb
def uAX (s : St) (cs : List C) : List (Nat × Nm × Nat)→Prop
 | []=>True
 | m :: r=>(∃ k u,cs[m.1]? = some (.o u)∧s.get k=some (true, .kn true [.o u] [(0,m.2.1,m.2.2)]))∧uAX s cs r
theorem Kx {cs : List C} : ∀ {ms : List (Nat × Nm × Nat)},uAX s cs ms → ∀ m ∈ ms,∃ k u,cs[m.1]? = some (.o u)∧s.get k=some (true, .kn true [.o u] [(0,m.2.1,m.2.2)])
 | [],_,m,hm=>by cases hm
 | x :: r,h,m,hm=>by
  rcases List.mem_cons.1 hm with rfl | hm
  ·exact h.1
  ·exact Kx h.2 m hm
def uAC (s : St) : List (Nat × List C)→Prop
 | []=>True
 | e :: r=>s.box (.l e.1)=some e.2∧uAC s r
theorem Mi : ∀ {nb : List (Nat × List C)},uAC s nb → ∀ e ∈ nb,s.box (.l e.1)=some e.2
 | [],_,e,he=>by cases he
 | x :: r,h,e,he=>by
  rcases List.mem_cons.1 he with rfl | he
  ·exact h.1
  ·exact Mi h.2 e he
theorem uBV (a : α) {cs : List C} {ms : List (Nat × Nm × Nat)} {nb : List (Nat × List C)} (hr : res a = .kn false cs ms) (h : resX T s rs=some (.v (.agg cs))) (hm : uAX s cs ms) (hb : subB s (R4 0 bs')) (hn : uAC s nb) : retE T rs res bs' nb .ret s:=by
 have h1 : retS T rs (.v (.agg cs)) none bs' .ret s:=C5 h J hb
 exact ⟨a, .inr ⟨cs,ms,hr,h,Kx hm⟩,h1.2.2,Mi hn⟩
end
theorem ps3 {st : St} {a b c : Pass} (ha : st.box a.n=some a.cs) (hb : st.box b.n=some b.cs) (hc : st.box c.n=some c.cs) : ∀ p ∈ [a,b,c],st.box p.n=some p.cs:=by
 intro p hp
 simp only [List.mem_cons,List.not_mem_nil,or_false] at hp
 rcases hp with rfl | rfl | rfl <;> assumption
theorem ps4 {st : St} {a b c d : Pass} (ha : st.box a.n=some a.cs) (hb : st.box b.n=some b.cs) (hc : st.box c.n=some c.cs) (hd : st.box d.n=some d.cs) : ∀ p ∈ [a,b,c,d],st.box p.n=some p.cs:=by
 intro p hp
 simp only [List.mem_cons,List.not_mem_nil,or_false] at hp
 rcases hp with rfl | rfl | rfl | rfl <;> assumption
end Go.Abs
namespace Go.Proofs.YteidahabkfgfjaaGreat
open Go Go.Abs
theorem Ul (l : List (List UInt8)) (h : l.length≤100000) (h0 : l≠[]) : CtrN sys 90 [.v (.c (.sl 1 (strR l)))] l.length (strR l).flatten:=by
 have hr : (strR l).length=l.length:=B3 l
 have hp : 0 < l.length:=List.length_pos_iff.2 h0
 have hf : (strR l).flatten≠[]:=by
  cases l with
  | nil=>exact absurd J h0
  | cons x r=>intro q; have := congrArg List.length q; simp [strR] at this
 refine V4 1 (hp) (hf) Tryz.func90 J J J J J ?_;refine A8 (A6 ?_);refine C3 J (H4 (.inr J) J J) ?_;refine B0 ?_;refine A8 ?_;refine A8 (A6 ?_);refine A5 J J J (A7 J gU) ?_;refine V2 J J J J J J J J (fun b hb=>?_);refine B0 ?_;refine B9 J (fun hc=>?_) (fun hc=>?_)
 ·exfalso
  have := congrArg List.length (hb hc)
  rw[hr] at this; simp at this; exact h0 this
 ·refine C0 ?_
  refine A8 (A6 ?_);refine E6 (xs:=[]) J J J J J J J J J gU J ?_;refine A5 J J J (A7 J gU) ?_;refine Em 5 5 J J J ?_;refine W4 7 J J J J J J J J J J J J J (by simp) (by omega) (by simp; omega) (by omega) ?_
  rw[Nat.zero_add,hr]
  refine C3 J (E8 (.inr J) J J J) ?_;refine B0 ?_;refine C1 ?_
  repeat(first|refine tR ?_|refine bR ?_)
  refine ⟨7,rfl,?_⟩
  rfl
theorem Va (l : List Fs) (h : l.length≤100000) (h0 : l≠[]) : CtrN sys 91 [.v (.c (.sl 3 (Fs.rows l)))] l.length (Fs.rows l).flatten:=by
 have hr : (Fs.rows l).length=l.length:=Fs.rows_len l
 have hp : 0 < l.length:=List.length_pos_iff.2 h0
 have hf : (Fs.rows l).flatten≠[]:=by
  cases l with
  | nil=>exact absurd J h0
  | cons x r=>intro q; have := congrArg List.length q; simp [Fs.rows,Fs.cells] at this
 refine V4 3 (hp) (hf) Tryz.func91 J J J J J ?_;refine A8 (A6 ?_);refine C3 J (H4 (.inr J) J J) ?_;refine B0 ?_;refine A8 ?_;refine A8 (A6 ?_);refine A5 J J J (A7 J gU) ?_;refine V2 J J J J J J J J (fun b hb=>?_);refine B0 ?_;refine B9 J (fun hc=>?_) (fun hc=>?_)
 ·exfalso
  have := congrArg List.length (hb hc)
  rw[hr] at this; simp at this; exact h0 this
 ·refine C0 ?_
  refine A8 (A6 ?_);refine E6 (xs:=[]) J J J J J J J J J gU J ?_;refine A5 J J J (A7 J gU) ?_;refine Em 5 5 J J J ?_;refine W4 7 J J J J J J J J J J J J J (by simp) (by omega) (by simp; omega) (by omega) ?_
  rw[Nat.zero_add,hr]
  refine C3 J (E8 (.inr J) J J J) ?_;refine B0 ?_;refine C1 ?_
  repeat(first|refine tR ?_|refine bR ?_)
  refine ⟨7,rfl,?_⟩
  rfl
theorem Ri (l : List (List UInt8)) (h : l.length≤100000) (m : Nat) : CtrE sys 90 [.v (.c (.sl 1 (strR l)))] [] (fun u : Value=>.kn true [.o u] [(0, .l m,l.length)]) [] [(m,(strR l).flatten)]:=by
 cases l with
 | nil=>exact CtrE.ofNil (Pr [] (by simp)) m
 | cons x r=>exact CtrE.ofN (Ul _ h (by simp)) (by simp) m
theorem Zz (l : List Fs) (h : l.length≤100000) (m : Nat) : CtrE sys 91 [.v (.c (.sl 3 (Fs.rows l)))] [] (fun u : Value=>.kn true [.o u] [(0, .l m,l.length)]) [] [(m,(Fs.rows l).flatten)]:=by
 cases l with
 | nil=>exact CtrE.ofNil (Ru [] (by simp)) m
 | cons x r=>exact CtrE.ofN (Va _ h (by simp)) (by simp) m
theorem Xy (l : List Sp) (h : l.length≤100000) (h0 : l≠[]) (m : Nat) : CtrE sys 92 [.v (.c (.sl 7 (Sp.rows l)))] [] (fun u : Value=>.kn true [.o u] [(0, .l m,l.length)]) [] [(m,(Sp.rows l).flatten)] :=
 CtrE.ofN (Rf _ h h0) (List.length_pos_iff.2 h0) m
theorem Wu (l : List Gl) (h : l.length≤100000) (m : Nat) : CtrE sys 93 [.v (.c (.sl 5 (Gl.rows l)))] [] (fun u : Value=>.kn true [.o u] [(0, .l m,l.length)]) [] [(m,(Gl.rows l).flatten)]:=by
 cases l with
 | nil=>exact CtrE.ofNil Na m
 | cons x r=>exact CtrE.ofN (Pv _ h (by simp)) (by simp) m
def swp (fr tn s : List UInt8) : List UInt8:=if s=fr then tn else s
abbrev swG (fr tn : List UInt8) : ChG:=fun nm so=>(swp fr tn nm,so)
noncomputable def zK (fv : Value) (i j : Nat) : Pg:={ sysO with ex:=KEx fv 66 i j }
theorem Bw (s fr tn : List UInt8) : CtrE sysO 66 [.v (.ptr (.o 0) 0), .v (.ptr (.o 1) 0), .v (.ptr (.o 2) 0)] [[.s s],[.s fr],[.s tn]] (fun _ : Unit=>.tup []) [[.s (swp fr tn s)],[.s fr],[.s tn]] []:=by
 refine Z7 Tryz.func66 J J J J J ?_;refine A8 ?_;refine awp_drawn' (by kernel_rfl) ?_;refine B5 J J J J (A7 J gU) ?_;refine B5 J J J J (L2 J gU) ?_;refine G4 J J J J J J J gU J J J J ?_;refine G4 J J J J J J J gU J J J J ?_;refine B5 J J J J (G0 J J gU gU J) ?_;refine F6 (by kernel_rfl) ?_;refine B6 (s:=⟨[(0,_,_),(2,_,_),(8,_,_)],[(.o 0,_),(.o 1,_),(.o 2,_)],[],[]⟩) (B4 (⟨U J,U J,U J,O⟩) (⟨U J,U J,U J,O⟩) O) ?_;refine B9 J (fun hc=>?_) (fun hc=>?_)
 ·try simp only [nn,B3,nq] at hc
  have e : swp fr tn s=tn:=by rw[swp,if_pos hc]
  rw[e]
  refine A6 ?_;refine A5 J J J (A7 J gU) ?_;refine A5 J J J (B2 J gU J J J J) ?_;refine A5 J J J (L2 J gU) ?_;refine C3 J (C8 J J J J J J J) ?_;refine B0 ?_;refine Au () J ?_ (⟨⟨_,rfl,?_⟩,⟨⟨_,rfl,?_⟩,⟨⟨_,rfl,?_⟩,O⟩⟩⟩)
  all_goals rfl
 ·try simp only [nn,B3,nq] at hc
  have e : swp fr tn s=s:=by rw[swp,if_neg hc]
  rw[e]
  refine C0 ?_;refine Au () J ?_ (⟨⟨_,rfl,?_⟩,⟨⟨_,rfl,?_⟩,⟨⟨_,rfl,?_⟩,O⟩⟩⟩)
  all_goals rfl
theorem uB6 (fv : Value) (t : T) (fr tn : List UInt8) : CtrE (zK fv 2 3) 67 [.v (.ptr (.o 0) 0), .v (.ptr (.o 1) 0)] [t.cells,[.o fv],[.s fr],[.s tn]] (fun _ : Unit=>.tup []) [(⟨t.kind,swp fr tn t.name,t.sort,t.kids⟩ : T).cells,[.o fv],[.s fr],[.s tn]] []:=by
 refine Z7 Tryz.func67 J J J J J ?_;refine uAS ?_;refine F1 0 [1] (by kernel_rfl) ⟨⟨_,rfl,?_⟩,⟨_,rfl,?_⟩,O⟩
 ·refine A5 J J J (B2 J gU J J J J) (Nz 3 J J (B0 ?_))
  refine F1 1 [] (by kernel_rfl) ⟨⟨_,rfl,?_⟩,O⟩;refine A5 J J J (A7 J gU) (B0 ?_);refine F1 2 [] (by kernel_rfl) ⟨⟨_,rfl,?_⟩,O⟩;refine A5 J J J (L2 J gU) (B0 ?_);refine F1 3 [] (by kernel_rfl) ⟨⟨_,rfl,?_⟩,O⟩;refine A5 J J J (B1 J gU J J) (B0 ?_);refine F1 4 [] (by kernel_rfl) ⟨⟨_,rfl,?_⟩,O⟩;refine Y4 (Z':=sysO) [⟨.o 0,1,t.cells,[.s (swp fr tn t.name)]⟩,⟨.o 2,0,[.s fr],[.s fr]⟩,⟨.o 3,0,[.s tn],[.s tn]⟩] J J J J J J J J (ps3 J J J) J (Bw t.name fr tn) J J J (fun _ _ _ _ _ _=>O) (B0 ?_);exact Dj (by kernel_rfl) (Au () J J ⟨⟨_,rfl,rfl⟩,⟨_,rfl,rfl⟩,⟨_,rfl,rfl⟩,⟨_,rfl,rfl⟩,O⟩)
 ·refine A5 J J J (A7 J gU) (B0 ?_)
  refine F1 0 [2] (by kernel_rfl) ⟨⟨_,rfl,?_⟩,⟨_,rfl,?_⟩,O⟩
  ·refine A5 J J J (B2 J gU J J J J) (Nz 3 J J (B0 ?_))
   refine F1 2 [] (by kernel_rfl) ⟨⟨_,rfl,?_⟩,O⟩;refine A5 J J J (L2 J gU) (B0 ?_);refine F1 3 [] (by kernel_rfl) ⟨⟨_,rfl,?_⟩,O⟩;refine A5 J J J (B1 J gU J J) (B0 ?_);refine F1 4 [] (by kernel_rfl) ⟨⟨_,rfl,?_⟩,O⟩;refine Y4 (Z':=sysO) [⟨.o 0,1,t.cells,[.s (swp fr tn t.name)]⟩,⟨.o 2,0,[.s fr],[.s fr]⟩,⟨.o 3,0,[.s tn],[.s tn]⟩] J J J J J J J J (ps3 J J J) J (Bw t.name fr tn) J J J (fun _ _ _ _ _ _=>O) (B0 ?_);exact Dj (by kernel_rfl) (Au () J J ⟨⟨_,rfl,rfl⟩,⟨_,rfl,rfl⟩,⟨_,rfl,rfl⟩,⟨_,rfl,rfl⟩,O⟩)
  ·refine A5 J J J (L2 J gU) (B0 ?_)
   refine F1 0 [3] (by kernel_rfl) ⟨⟨_,rfl,?_⟩,⟨_,rfl,?_⟩,O⟩
   ·refine A5 J J J (B2 J gU J J J J) (Nz 3 J J (B0 ?_))
    refine F1 3 [] (by kernel_rfl) ⟨⟨_,rfl,?_⟩,O⟩;refine A5 J J J (B1 J gU J J) (B0 ?_);refine F1 4 [] (by kernel_rfl) ⟨⟨_,rfl,?_⟩,O⟩;refine Y4 (Z':=sysO) [⟨.o 0,1,t.cells,[.s (swp fr tn t.name)]⟩,⟨.o 2,0,[.s fr],[.s fr]⟩,⟨.o 3,0,[.s tn],[.s tn]⟩] J J J J J J J J (ps3 J J J) J (Bw t.name fr tn) J J J (fun _ _ _ _ _ _=>O) (B0 ?_);exact Dj (by kernel_rfl) (Au () J J ⟨⟨_,rfl,rfl⟩,⟨_,rfl,rfl⟩,⟨_,rfl,rfl⟩,⟨_,rfl,rfl⟩,O⟩)
   ·refine A5 J J J (B1 J gU J J) (B0 ?_)
    refine F1 0 [] (by kernel_rfl) ⟨⟨_,rfl,?_⟩,O⟩;refine A5 J J J (B2 J gU J J J J) (Nz 3 J J (B0 ?_));refine F1 4 [] (by kernel_rfl) ⟨⟨_,rfl,?_⟩,O⟩;refine Y4 (Z':=sysO) [⟨.o 0,1,t.cells,[.s (swp fr tn t.name)]⟩,⟨.o 2,0,[.s fr],[.s fr]⟩,⟨.o 3,0,[.s tn],[.s tn]⟩] J J J J J J J J (ps3 J J J) J (Bw t.name fr tn) J J J (fun _ _ _ _ _ _=>O) (B0 ?_);exact Dj (by kernel_rfl) (Au () J J ⟨⟨_,rfl,rfl⟩,⟨_,rfl,rfl⟩,⟨_,rfl,rfl⟩,⟨_,rfl,rfl⟩,O⟩)
set_option maxHeartbeats 4000000 in
theorem Sd (fv : Value) (fr tn : List UInt8) : ∀ (m : Nat) (t : T),t.size≤m→m≤900000→gdB t=true→CtrE (zK fv 1 2) 94 [xm t, .fn 67 [.ptr (.o 0) 0]] [[.o fv],[.s fr],[.s tn]] (fun _ : Unit=>xm (chT (swG fr tn) t)) [[.o fv],[.s fr],[.s tn]] []:=by
 intro m
 induction m with
 | zero=>intro t h; have := t.size_pos; omega
 | succ m ih =>
  intro t ht hm hgd
  have hr:=T.rows_len t.kids
  have hls:=T.len_sizes t.kids
  have hse:=t.size_eq
  have hgk:=Cz hgd
  refine Z7 Tryz.func94 J J J J J ?_;refine A8 (A6 ?_);refine C3 J (D8 J J J J) ?_;refine C3 J (D9 J J J) ?_;refine B0 ?_;refine A8 ?_;refine A8 (A6 ?_);refine A5 J J J (B1 J gU J J) ?_;refine A5 J J J (B2 J gU J J J J) ?_;refine A5 J J J (B7 J J gU gU J) ?_;refine B0 ?_;refine B6 (s:=⟨[(1,_,_),(2,_,_),(4,_,_),(10,_,_)],[(.l 2,_),(.l 4,_),(.o 0,_),(.o 1,_),(.o 2,_)],[],[]⟩) (B4 (⟨U J,U J,U J,U J,O⟩) (⟨U J,U J,U J,U J,U J,O⟩) O) ?_;refine B9 J (fun hc=>?_) (fun hc=>?_)
  ·try simp only [nn,B3,nq] at hc
   have hk : t.kids=[]:=(uAp hgd (by omega)).2
   have hE : chT (swG fr tn) t=⟨t.kind,swp fr tn t.name,t.sort,t.kids⟩:=by rw[Nn,if_pos hc,if_pos hc,hk]; rfl
   refine A8 (A6 ?_);refine A5 J J J (A7 J gU) ?_;refine Y4 (Z':=zK fv 2 3) [⟨.l 2,0,t.cells,(⟨t.kind,swp fr tn t.name,t.sort,t.kids⟩ : T).cells⟩,⟨.o 0,0,[.o fv],[.o fv]⟩,⟨.o 1,0,[.s fr],[.s fr]⟩,⟨.o 2,0,[.s tn],[.s tn]⟩] J J J J J J J J (ps4 J J J J) J (uB6 fv t fr tn) J J J (fun E G a w hr hE=>Fg (i:=1) (j:=2) (i':=2) (j':=3) J J J J J J J E G a w hr hE) ?_
   rw[hE]
   refine B0 ?_;refine A8 (A6 ?_);refine A5 J J J (B8 J gU J J J J J) ?_;refine C3 J (C8 J J J J J J J) ?_;refine B0 ?_;refine C1 ?_
   repeat(first|refine tR ?_|refine bR ?_)
   refine Nw () J ?_ (⟨⟨_,rfl,?_⟩,⟨⟨_,rfl,?_⟩,⟨⟨_,rfl,?_⟩,O⟩⟩⟩)
   all_goals rfl
  ·try simp only [nn,B3,nq] at hc
   have hE : chT (swG fr tn) t=⟨t.kind,t.name,t.sort,t.kids.map (chT (swG fr tn))⟩:=by rw[Nn,if_neg hc,if_neg hc]
   rw[hE]
   refine C0 ?_;refine A8 (A6 ?_);refine A5 J J J (B1 J gU J J) ?_;refine A5 J J J (B2 J gU J J J J) ?_;refine E0 J J J J J gU J J ?_ (fun hh=>by simp at hh); intro hlen;refine C3 J (Sf (n:=t.kids.length) J J J J J J J (by omega) (by omega) (by omega)) ?_;refine A5 J J J (A9 J gU) ?_;refine B0 ?_;refine B6 (s:=⟨[(1,_,_),(2,_,_),(4,_,_),(5,_,_)],[(.l 17,_),(.l 2,_),(.l 4,_),(.o 0,_),(.o 1,_),(.o 2,_)],[],[]⟩) (B4 (⟨U J,U J,U J,U J,O⟩) (⟨U J,U J,U J,U J,U J,U J,O⟩) O) ?_;refine A8 ?_;refine A8 (A6 ?_);refine A5 J J J (B1 J gU J J) ?_;refine A5 J J J (B2 J gU J J J J) ?_;refine E0 J J J J J gU J J ?_ (fun hh=>by simp at hh); intro hlen;refine A5 J J J (A7 J gU) ?_;refine B0 ?_;refine C4 ?_;refine F2 (ι:=Nat) { t:=[(1,_,_),(2,_,_),(4,_,_),(5,_,_),(19,_,_),(20,_,_)],bx:=[(.l 2,_),(.l 4,_),(.o 0,_),(.o 1,_),(.o 2,_)],ow:=[] } (fun k=>[(21,true,xi (k : Int))]) (fun k=>[((.l 17),(T.rows (padT ((t.kids.take k).map (chT (swG fr tn))) t.kids.length)).flatten)]) (fun k=>k≤t.kids.length) (fun k=>t.kids.length - k) (0) (by simp) (B4 (⟨U J,U J,U J,U J,U J,U J,U J,O⟩) (⟨⟨_,rfl,uBc _⟩,⟨U J,U J,U J,U J,U J,O⟩⟩) O) ?_
   intro k hok
   dsimp only [List.cons_append,List.nil_append]
   have hpl : ((t.kids.take k).map (chT (swG fr tn))).length=k:=by rw[List.length_map,List.length_take]; omega
   have hpn:=uBe (l:=(t.kids.take k).map (chT (swG fr tn))) (n:=t.kids.length) (by omega)
   refine A8 (A6 ?_);refine A5 J J J (B7 J J gU gU J) ?_;refine B0 ?_;refine A8 ?_;refine B9 J (fun hc2=>?_) (fun hc2=>?_)
   ·try simp only [nn,B3,nq] at hc2
    have hlt : k < t.kids.length:=by omega
    have hmm:=K8 (d:=default) hlt
    have hks:=M8 hmm
    have hT:=I2 (l:=t.kids) (d:=default) hlt
    have hset : H6 (T.rows (padT ((t.kids.take k).map (chT (swG fr tn))) t.kids.length)).flatten (k * 4) (chT (swG fr tn) (t.kids.getD k default)).cells=(T.rows (padT ((t.kids.take (k + 1)).map (chT (swG fr tn))) t.kids.length)).flatten:=by
     have h1:=Zi (l:=(t.kids.take k).map (chT (swG fr tn))) (n:=t.kids.length) (by omega) (chT (swG fr tn) (t.kids.getD k default))
     rw[hpl] at h1
     rw[Kc _ _ _ (by omega),h1,hT,List.map_append]; rfl
    refine C0 ?_;refine A8 ?_;refine C4 ?_;refine A8 (A6 ?_);refine A5 J J J (A7 J gU) ?_;refine A5 J J J (C2 J J gU gU J J J (fun hh=>T.rows_at (by first|omega|(simp at hh ⊢; omega)))) ?_;refine A5 J J J (D4 J gU J J J J) ?_;refine C3 J (D9 J J J) ?_;refine A5 J J J (A9 J gU) ?_;refine C3 J (C8 J J J J J J J) ?_;refine B0 ?_;refine B6 (s:=⟨[(1,_,_),(2,_,_),(4,_,_),(5,_,_),(6,_,_),(7,_,_),(19,_,_),(20,_,_),(21,_,_)],[(.l 17,_),(.l 2,_),(.l 4,_),(.l 7,_),(.o 0,_),(.o 1,_),(.o 2,_)],[],[]⟩) (B4 (⟨U J,U J,U J,U J,U J,U J,U J,U J,U J,O⟩) (⟨U J,U J,U J,U J,U J,U J,U J,O⟩) O) ?_;refine A6 ?_;refine A5 J J J (A7 J gU) ?_;refine A5 J J J (A7 J gU) ?_;refine A5 J J J (B8 J gU J J J J J) ?_;refine A5 J J J (A7 J gU) ?_;refine Y4 (Z':=zK fv 1 2) [⟨.o 0,0,[.o fv],[.o fv]⟩,⟨.o 1,0,[.s fr],[.s fr]⟩,⟨.o 2,0,[.s tn],[.s tn]⟩] J J J J J J J J (ps3 J J J) J (ih (t.kids.getD k default) (by omega) (by omega) (hgk _ hmm)) J J J (fun E G a w hr hE=>Fg (i:=1) (j:=2) (i':=1) (j':=2) J J J J J J J E G a w hr hE) ?_
    refine A5 J J J (I6 J J gU gU J J J (fun _=>by omega)) ?_;refine C3 J (C8 J J J J J J (uAW _ _ _ (by omega))) ?_;refine B0 ?_;refine B6 (s:=⟨[(1,_,_),(2,_,_),(4,_,_),(5,_,_),(19,_,_),(20,_,_),(21,_,_)],[(.l 17,_),(.l 2,_),(.l 4,_),(.o 0,_),(.o 1,_),(.o 2,_)],[],[]⟩) (B4 (⟨U J,U J,U J,U J,U J,U J,U J,O⟩) (⟨U J,U J,U J,U J,U J,U J,O⟩) O) ?_;refine A6 ?_;refine A5 J J J (D0 J J gU gU J (IntWalk.i64_in _ (by omega))) ?_;refine A5 J J J (A7 J gU) ?_;refine B0 ?_;refine ⟨k + 1,?_,?_,B4 (⟨⟨_,rfl,?_⟩,⟨U J,U J,U J,U J,U J,U J,O⟩⟩) (⟨⟨_,rfl,?_⟩,⟨U J,U J,U J,U J,U J,O⟩⟩) O⟩
    all_goals (first|rfl|omega|(rw[Nat.zero_add,hset]; done))
   ·try simp only [nn,B3,nq] at hc2
    have hke : k=t.kids.length:=by omega
    subst hke
    rw[List.take_length,Xv (by rw[List.length_map])]
    refine E1 ?_
    repeat(first|refine D5 ?_|refine D6 ?_|refine D2 J ?_)
    refine A8 (A6 ?_);refine Lr 5 17 (T.rows (t.kids.map (chT (swG fr tn)))) J J (by rw[T.rows_len,List.length_map]) (by omega) (Vn _) J ?_;refine A5 J J J (A7 J gU) ?_;refine A5 J J J (B1 J gU J J) ?_;refine C3 J (C8 J J J J J J J) ?_;refine B0 ?_;refine A8 (A6 ?_);refine A5 J J J (B8 J gU J J J J J) ?_;refine C3 J (C8 J J J J J J J) ?_;refine B0 ?_;refine C1 ?_
    repeat(first|refine tR ?_|refine bR ?_)
    refine Nw () J ?_ (⟨⟨_,rfl,?_⟩,⟨⟨_,rfl,?_⟩,⟨⟨_,rfl,?_⟩,O⟩⟩⟩)
    all_goals rfl
def rnF (fr tn : List UInt8) (f : Fs) : Fs:=⟨swp fr tn f.role,swp fr tn f.name,f.sort⟩
def rnS0 (fr tn : List UInt8) (s : Sp) : Sp:=⟨swp fr tn s.frm,swp fr tn s.dst,s.msg,s.line⟩
def rnS (fr tn : List UInt8) (s : Sp) : Sp:=⟨swp fr tn s.frm,swp fr tn s.dst,chT (swG fr tn) s.msg,s.line⟩
def rnL0 (fr tn : List UInt8) (g : Gl) : Gl:=⟨g.kind,swp fr tn g.role,swp fr tn g.wth,g.data,g.line⟩
def rnL (fr tn : List UInt8) (g : Gl) : Gl:=⟨g.kind,swp fr tn g.role,swp fr tn g.wth,g.data.map (chT (swG fr tn)),g.line⟩
def rnN (fr tn : List UInt8) (n : Nar) : Nar:=⟨n.name,n.roles.map (swp fr tn),n.fresh.map (rnF fr tn),n.tags.map (swp fr tn),n.steps.map (rnS fr tn),n.goals.map (rnL fr tn)⟩
def rnE (n : Nar) (fr tn : List UInt8) : Nar × Int:=if (chkE E3 n).2≠0 then (nar0,(chkE E3 n).2) else if (H2 n).contains fr=false then (nar0,4) else if (H2 n).contains tn=true then (nar0,5)
 else if (chkE E3 (rnN fr tn n)).2≠0 then (nar0,(chkE E3 (rnN fr tn n)).2) else (rnN fr tn n,0)
abbrev xne (r : Nar × Int) : X:=.tup [.agg r.1.cells, .c (.i .i64 r.2)]
theorem uB4 (fr tn : List UInt8) (l : List Sp) : (l.map (chS (swG fr tn))).map (rnS0 fr tn)=l.map (rnS fr tn):=by rw[List.map_map]; rfl
theorem uB2 (fr tn : List UInt8) (l : List Gl) : (l.map (chL (swG fr tn))).map (rnL0 fr tn)=l.map (rnL fr tn):=by rw[List.map_map]; rfl
theorem Jm {n : Nar} (fr tn : List UInt8) (hs : ∀ s ∈ n.steps,s.msg.size≤900000) (hg : ∀ g ∈ n.goals,T.sizes g.data≤900000) : (∀ s ∈ (rnN fr tn n).steps,s.msg.size≤900000) ∧ ∀ g ∈ (rnN fr tn n).goals,T.sizes g.data≤900000:=by
 refine ⟨fun x hx=>?_,fun x hx=>?_⟩
 ·obtain ⟨y,hy,rfl⟩:=List.mem_map.1 (show x ∈ n.steps.map (rnS fr tn) from hx)
  show (chT (swG fr tn) y.msg).size≤900000
  rw[Qh]; exact hs y hy
 ·obtain ⟨y,hy,rfl⟩:=List.mem_map.1 (show x ∈ n.goals.map (rnL fr tn) from hx)
  show T.sizes (y.data.map (chT (swG fr tn)))≤900000
  rw[← Kg,Gc]; exact hg y hy
theorem Lp (l : List (List UInt8)) : ∀ (i : Nat) (row : List C),(strR l)[i]? = some row→row.length=1:=by
 intro i row h
 rw[strR,List.getElem?_map] at h
 cases hx : l[i]? with
 | none=>rw[hx] at h; cases h
 | some t=>rw[hx] at h; cases h; rfl
theorem Mf (l : List Fs) : ∀ (i : Nat) (row : List C),(Fs.rows l)[i]? = some row→row.length=3:=by
 intro i row h
 rw[Fs.rows,List.getElem?_map] at h
 cases hx : l[i]? with
 | none=>rw[hx] at h; cases h
 | some t=>rw[hx] at h; cases h; rfl
theorem P7 {sz : Nat} : ∀ {xs : List (List C)},(∀ (i : Nat) (row : List C),xs[i]? = some row→row.length=sz)→xs.flatten.length=xs.length * sz
 | [],_=>by simp
 | x :: xs,h=>by
  rw[List.flatten_cons,List.length_append,P7 (xs:=xs) fun i row hi=>h (i + 1) row (by simpa using hi),h 0 x J,List.length_cons,Nat.add_mul]; omega
theorem U1 {sz : Nat} {xs : List (List C)} {k j : Nat} {row : List C} {c : C} (h : ∀ (i : Nat) (row : List C),xs[i]? = some row→row.length=sz) (hi : xs[k]? = some row) (hj : row[j]? = some c) : (xs.flatten.drop (0 + k * sz + j)).take 1=[c]:=by
 have hl:=(List.getElem?_eq_some_iff.1 hj).1
 have hr:=h k row hi
 rw[Nat.zero_add,On h hi (by omega),List.drop_eq_getElem_cons hl]
 rw[(List.getElem?_eq_some_iff.1 hj).2]
 rfl
theorem R6 {sz : Nat} {xs : List (List C)} {k j : Nat} {row : List C} (c : C) (h : ∀ (i : Nat) (row : List C),xs[i]? = some row→row.length=sz) (hi : xs[k]? = some row) (hj : j + 1≤sz) : H6 xs.flatten (0 + k * sz + j) [c]=(xs.set k (row.set j c)).flatten:=by
 rw[Nat.zero_add,Ny h hi hj]; rfl
theorem Wf {l : List (List UInt8)} {k : Nat} {s : List UInt8} (h : l[k]? = some s) : (strR l)[k]? = some [.s s]:=by rw[strR,List.getElem?_map,h]; rfl
theorem Ob {l : List Fs} {k : Nat} {s : Fs} (h : l[k]? = some s) : (Fs.rows l)[k]? = some s.cells:=by rw[Fs.rows,List.getElem?_map,h]; rfl
theorem No {l : List Sp} {k : Nat} {s : Sp} (h : l[k]? = some s) : (Sp.rows l)[k]? = some s.cells:=by rw[Sp.rows,List.getElem?_map,h]; rfl
theorem Nr {l : List Gl} {k : Nat} {s : Gl} (h : l[k]? = some s) : (Gl.rows l)[k]? = some s.cells:=by rw[Gl.rows,List.getElem?_map,h]; rfl
theorem uCi {l : List (List UInt8)} {k : Nat} {s : List UInt8} (h : l[k]? = some s) : ((strR l).flatten.drop (0 + k * 1)).take 1=[.s s]:=U1 (j:=0) (Lp l) (Wf h) J
theorem uCo {l : List (List UInt8)} {k : Nat} {s : List UInt8} (h : l[k]? = some s) (x : List UInt8) : H6 (strR l).flatten (0 + k * 1) [.s x]=(strR (l.set k x)).flatten:=by
 rw[show 0 + k * 1=0 + k * 1 + 0 from J,R6 (.s x) (Lp l) (Wf h) (Nat.le_refl _),strR,strR,List.map_set]; rfl
theorem uC3 {l : List Fs} {k : Nat} {s : Fs} (h : l[k]? = some s) (x : List UInt8) : H6 (Fs.rows l).flatten (0 + k * 3 + 0) [.s x]=(Fs.rows (l.set k ⟨x,s.name,s.sort⟩)).flatten:=by
 rw[R6 (.s x) (Mf l) (Ob h) (by omega),Fs.rows,Fs.rows,List.map_set]; rfl
theorem uCX {l : List Fs} {k : Nat} {s : Fs} (h : l[k]? = some s) (x : List UInt8) : H6 (Fs.rows l).flatten (0 + k * 3 + 1) [.s x]=(Fs.rows (l.set k ⟨s.role,x,s.sort⟩)).flatten:=by
 rw[R6 (.s x) (Mf l) (Ob h) (by omega),Fs.rows,Fs.rows,List.map_set]; rfl
theorem uC6 {l : List Sp} {k : Nat} {s : Sp} (h : l[k]? = some s) (x : List UInt8) : H6 (Sp.rows l).flatten (0 + k * 7 + 0) [.s x]=(Sp.rows (l.set k ⟨x,s.dst,s.msg,s.line⟩)).flatten:=by
 rw[R6 (.s x) (Gv l) (No h) (by omega),Sp.rows,Sp.rows,List.map_set]; rfl
theorem uC1 {l : List Sp} {k : Nat} {s : Sp} (h : l[k]? = some s) (x : List UInt8) : H6 (Sp.rows l).flatten (0 + k * 7 + 1) [.s x]=(Sp.rows (l.set k ⟨s.frm,x,s.msg,s.line⟩)).flatten:=by
 rw[R6 (.s x) (Gv l) (No h) (by omega),Sp.rows,Sp.rows,List.map_set]; rfl
theorem uC8 {l : List Gl} {k : Nat} {s : Gl} (h : l[k]? = some s) (x : List UInt8) : H6 (Gl.rows l).flatten (0 + k * 5 + 1) [.s x]=(Gl.rows (l.set k ⟨s.kind,x,s.wth,s.data,s.line⟩)).flatten:=by
 rw[R6 (.s x) (Gu l) (Nr h) (by omega),Gl.rows,Gl.rows,List.map_set]; rfl
theorem uC0 {l : List Gl} {k : Nat} {s : Gl} (h : l[k]? = some s) (x : List UInt8) : H6 (Gl.rows l).flatten (0 + k * 5 + 2) [.s x]=(Gl.rows (l.set k ⟨s.kind,s.role,x,s.data,s.line⟩)).flatten:=by
 rw[R6 (.s x) (Gu l) (Nr h) (by omega),Gl.rows,Gl.rows,List.map_set]; rfl
theorem Uu {α : Type} {l : List α} {k : Nat} {a b : α} (h : l[k]? = some a) : (l.set k b)[k]? = some b:=by
 have := (List.getElem?_eq_some_iff.1 h).1
 rw[List.getElem?_set_self this]
theorem Ch {old : List C} {s fr tn : List UInt8} (h : old=[.s s]) : CtrE sysO 66 [.v (.ptr (.o 0) 0), .v (.ptr (.o 1) 0), .v (.ptr (.o 2) 0)] [old,[.s fr],[.s tn]] (fun _ : Unit=>.tup []) [[.s (swp fr tn s)],[.s fr],[.s tn]] []:=by
 rw[h]; exact Bw s fr tn
abbrev eP (k off : Nat) : Nat × Bool × X:=(k,true, .v (.ptr (.l 2) off))
abbrev eS (k sz : Nat) (es : List (List C)) : Nat × Bool × X:=(k,true, .v (.c (.sl sz es)))
abbrev eK (k : Nat) (u : Value) (L : Nat) : Nat × Bool × X:=(k,true, .kn true [.o u] [(0, .l k,L)])
abbrev stA (fv : Value) (fr tn : List UInt8) (ts : List (Nat × Bool × X)) (c2 : List C) (bs : List (Nm × List C)) : St :=
 {t:=(1,true, .fn 67 [.ptr (.o 0) 0]) :: (2,true, .v (.ptr (.l 2) 0)) :: (4,true, .v (.ptr (.l 4) 0)) :: ts,bx:=(.l 2,c2) :: (.l 4,[.s [], .sl 1 [], .sl 3 [], .sl 1 [], .sl 7 [], .sl 5 []]) :: (.o 0,[.o fv]) :: (.o 1,[.s fr]) :: (.o 2,[.s tn]) :: bs,ow:=[] }
abbrev stB (n : Nar) (fv : Value) (fr tn : List UInt8) (u1 u2 u3 : Value) (ts : List (Nat × Bool × X)) (c2 : List C) (bs : List (Nm × List C)) : St :=
 stA fv fr tn (eK 11 u1 n.roles.length :: eK 14 u2 n.fresh.length :: eK 17 u3 n.tags.length :: ts) c2 ((.l 11,(strR n.roles).flatten) :: (.l 14,(Fs.rows n.fresh).flatten) :: (.l 17,(strR n.tags).flatten) :: bs)
abbrev V5:=Value × Value × Value × Value × Value
abbrev allR (n : Nar) (q : Nat) (x : V5) : X:=.kn false [.s n.name, .o x.1, .o x.2.1, .o x.2.2.1, .o x.2.2.2.1, .o x.2.2.2.2] [(1, .l (q + 11),n.roles.length),(2, .l (q + 14),n.fresh.length),(3, .l (q + 17),n.tags.length),(4, .l (q + 23),n.steps.length),(5, .l (q + 26),n.goals.length)]
abbrev allB (n : Nar) (fr tn : List UInt8) : List (Nat × List C):=[(11,(strR n.roles).flatten),(14,(Fs.rows n.fresh).flatten),(17,(strR n.tags).flatten),(23,(Sp.rows (n.steps.map (chS (swG fr tn)))).flatten),(26,(Gl.rows (n.goals.map (chL (swG fr tn)))).flatten)]
set_option maxHeartbeats 8000000 in
theorem Zd (n : Nar) (fv : Value) (fr tn : List UInt8) (hr : n.roles.length≤100) (hf : n.fresh.length≤100) (ht : n.tags.length≤100) (hs : n.steps.length≤100) (hg : n.goals.length≤100) (hs0 : n.steps≠[])
  (hm : ∀ s ∈ n.steps,gdB s.msg=true∧s.msg.size≤900000) (hd : ∀ g ∈ n.goals,g.data≠[]∧g.data.length≤100 ∧ ∀ t ∈ g.data,gdB t=true∧t.size≤900000) :
  CtrE (zK fv 1 2) 56 [xn n, .fn 67 [.ptr (.o 0) 0]] [[.o fv],[.s fr],[.s tn]] (allR n 0) [[.o fv],[.s fr],[.s tn]] (allB n fr tn):=by
 have cs1:=Ri n.roles (by omega) 11
 have cs2:=Zz n.fresh (by omega) 14
 have cs3:=Ri n.tags (by omega) 17
 have cs4:=Xy n.steps (by omega) hs0 23
 have cs5:=Wu n.goals (by omega) 26
 have hfs:=Gw n.steps
 have hfg:=Hg n.goals
 refine Z7 Tryz.func56 J J J J J ?_;refine A8 (A6 ?_);refine C3 J (D8 J J J J) ?_;refine C3 J (D9 J J J) ?_;refine B0 ?_;refine Mh (fun x : Value × Value × Value=>stA fv fr tn [eK 11 x.1 n.roles.length,eK 14 x.2.1 n.fresh.length,eK 17 x.2.2 n.tags.length] [.s n.name, .o x.1, .o x.2.1, .o x.2.2, .sl 7 (Sp.rows n.steps), .sl 5 (Gl.rows n.goals)] [(.l 11,(strR n.roles).flatten),(.l 14,(Fs.rows n.fresh).flatten),(.l 17,(strR n.tags).flatten)]) (fun x=>?_) ?_
 rotate_left
 ·refine H7 5 #[true,true,true,true,true,true,true,true,true,true,false,false,false,false,false] (fun x : Value × Value × Value=>stA fv fr tn [eK 11 x.1 n.roles.length,eK 14 x.2.1 n.fresh.length,eK 17 x.2.2 n.tags.length,eP 18 1] n.cells [(.l 11,(strR n.roles).flatten),(.l 14,(Fs.rows n.fresh).flatten),(.l 17,(strR n.tags).flatten)]) (fun x=>?_) (fun g1023=>?_)
  ·obtain ⟨u1,u2,u3⟩:=x
   try dsimp only
   refine F1 10 [] (by kernel_rfl) ⟨⟨_,rfl,?_⟩,O⟩;refine C3 J (R9 J J J J J J) (B0 ?_);refine F1 11 [] (by kernel_rfl) ⟨⟨_,rfl,?_⟩,O⟩;refine A5 J J J (B1 J gU J J) (B0 ?_);refine F1 12 [] (by kernel_rfl) ⟨⟨_,rfl,?_⟩,O⟩;refine C3 J (R9 J J J J J J) (B0 ?_);refine F1 13 [] (by kernel_rfl) ⟨⟨_,rfl,?_⟩,O⟩;refine A5 J J J (B1 J gU J J) (B0 ?_);refine F1 14 [] (by kernel_rfl) ⟨⟨_,rfl,?_⟩,O⟩;refine C3 J (R9 J J J J J J) (B0 ?_);exact Dj (by kernel_rfl) ⟨(u1,u2,u3),B4 ⟨U J,U J,U J,U J,U J,U J,O⟩ ⟨U J,U J,U J,U J,U J,U J,U J,U J,O⟩ O⟩
  refine H7 6 #[true,true,true,true,true,true,true,true,false,true,false,false,false,false,false] (fun x : Value × Value × Value=>stA fv fr tn [eK 11 x.1 n.roles.length,eK 14 x.2.1 n.fresh.length,eS 16 1 (strR n.tags),eP 18 1] n.cells [(.l 11,(strR n.roles).flatten),(.l 14,(Fs.rows n.fresh).flatten)]) (fun x=>?_) (fun g767=>?_)
  ·obtain ⟨u1,u2,u3⟩:=x
   try dsimp only
   refine F1 8 [] (by kernel_rfl) ⟨⟨_,rfl,?_⟩,O⟩;refine J6 (Z':=sys) 0 [] true (fun u=>[.o u]) [(0,17,n.tags.length)] J J J J J J J J (fun p hp=>by cases hp) rfl cs3 (fun _=>rfl) rfl (by simp) rfl rfl rfl (fun _ _ _ _ _ _=>O) (fun u3=>(B0 ?_));exact g1023 (u1,u2,u3) (by kernel_rfl) (B4 ⟨U J,U J,U J,U J,U J,U J,U J,O⟩ ⟨U J,U J,U J,U J,U J,U J,U J,U J,O⟩ O)
  refine H7 7 #[true,true,true,true,true,true,true,true,false,false,false,false,false,false,false] (fun x : Value × Value × Value=>stA fv fr tn [eK 11 x.1 n.roles.length,eK 14 x.2.1 n.fresh.length,eS 16 1 (strR n.tags)] n.cells [(.l 11,(strR n.roles).flatten),(.l 14,(Fs.rows n.fresh).flatten)]) (fun x=>?_) (fun g255=>?_)
  ·obtain ⟨u1,u2,u3⟩:=x
   try dsimp only
   refine F1 8 [9] (by kernel_rfl) ⟨⟨_,rfl,?_⟩,⟨_,rfl,?_⟩,O⟩
   ·refine J6 (Z':=sys) 0 [] true (fun u=>[.o u]) [(0,17,n.tags.length)] J J J J J J J J (fun p hp=>by cases hp) rfl cs3 (fun _=>rfl) rfl (by simp) rfl rfl rfl (fun _ _ _ _ _ _=>O) (fun u3=>(B0 ?_))
    refine F1 9 [] (by kernel_rfl) ⟨⟨_,rfl,?_⟩,O⟩;refine A5 J J J (B1 J gU J J) (B0 ?_);exact g1023 (u1,u2,u3) (by kernel_rfl) (B4 ⟨U J,U J,U J,U J,U J,U J,U J,O⟩ ⟨U J,U J,U J,U J,U J,U J,U J,U J,O⟩ O)
   ·refine A5 J J J (B1 J gU J J) (B0 ?_)
    exact g767 (u1,u2,undef) (by kernel_rfl) (B4 ⟨U J,U J,U J,U J,U J,U J,U J,O⟩ ⟨U J,U J,U J,U J,U J,U J,U J,O⟩ O)
  refine H7 8 #[true,true,true,true,true,true,true,false,false,false,false,false,false,false,false] (fun x : Value × Value × Value=>stA fv fr tn [eK 11 x.1 n.roles.length,eK 14 x.2.1 n.fresh.length,eP 15 3] n.cells [(.l 11,(strR n.roles).flatten),(.l 14,(Fs.rows n.fresh).flatten)]) (fun x=>?_) (fun g127=>?_)
  ·obtain ⟨u1,u2,u3⟩:=x
   try dsimp only
   refine F1 7 [] (by kernel_rfl) ⟨⟨_,rfl,?_⟩,O⟩;refine A5 J J J (B2 J gU J J J J) (B0 ?_);exact g255 (u1,u2,undef) (by kernel_rfl) (B4 ⟨U J,U J,U J,U J,U J,U J,O⟩ ⟨U J,U J,U J,U J,U J,U J,U J,O⟩ O)
  refine H7 8 #[true,true,true,true,true,false,true,true,false,false,false,false,false,false,false] (fun x : Value × Value × Value=>stA fv fr tn [eK 11 x.1 n.roles.length,eS 13 3 (Fs.rows n.fresh),eS 16 1 (strR n.tags)] n.cells [(.l 11,(strR n.roles).flatten)]) (fun x=>?_) (fun g223=>?_)
  ·obtain ⟨u1,u2,u3⟩:=x
   try dsimp only
   refine F1 5 [9] (by kernel_rfl) ⟨⟨_,rfl,?_⟩,⟨_,rfl,?_⟩,O⟩
   ·refine J6 (Z':=sys) 0 [] true (fun u=>[.o u]) [(0,14,n.fresh.length)] J J J J J J J J (fun p hp=>by cases hp) rfl cs2 (fun _=>rfl) rfl (by simp) rfl rfl rfl (fun _ _ _ _ _ _=>O) (fun u2=>(B0 ?_))
    exact g255 (u1,u2,undef) (by kernel_rfl) (B4 ⟨U J,U J,U J,U J,U J,U J,O⟩ ⟨U J,U J,U J,U J,U J,U J,U J,O⟩ O)
   ·refine A5 J J J (B1 J gU J J) (B0 ?_)
    refine F1 5 [] (by kernel_rfl) ⟨⟨_,rfl,?_⟩,O⟩;refine J6 (Z':=sys) 0 [] true (fun u=>[.o u]) [(0,14,n.fresh.length)] J J J J J J J J (fun p hp=>by cases hp) rfl cs2 (fun _=>rfl) rfl (by simp) rfl rfl rfl (fun _ _ _ _ _ _=>O) (fun u2=>(B0 ?_));exact g767 (u1,u2,undef) (by kernel_rfl) (B4 ⟨U J,U J,U J,U J,U J,U J,U J,O⟩ ⟨U J,U J,U J,U J,U J,U J,U J,O⟩ O)
  refine H7 9 #[true,true,true,true,true,false,true,false,false,false,false,false,false,false,false] (fun x : Value × Value × Value=>stA fv fr tn [eK 11 x.1 n.roles.length,eS 13 3 (Fs.rows n.fresh),eP 15 3] n.cells [(.l 11,(strR n.roles).flatten)]) (fun x=>?_) (fun g95=>?_)
  ·obtain ⟨u1,u2,u3⟩:=x
   try dsimp only
   refine F1 5 [7] (by kernel_rfl) ⟨⟨_,rfl,?_⟩,⟨_,rfl,?_⟩,O⟩
   ·refine J6 (Z':=sys) 0 [] true (fun u=>[.o u]) [(0,14,n.fresh.length)] J J J J J J J J (fun p hp=>by cases hp) rfl cs2 (fun _=>rfl) rfl (by simp) rfl rfl rfl (fun _ _ _ _ _ _=>O) (fun u2=>(B0 ?_))
    exact g127 (u1,u2,undef) (by kernel_rfl) (B4 ⟨U J,U J,U J,U J,U J,U J,O⟩ ⟨U J,U J,U J,U J,U J,U J,U J,O⟩ O)
   ·refine A5 J J J (B2 J gU J J J J) (B0 ?_)
    exact g223 (u1,undef,undef) (by kernel_rfl) (B4 ⟨U J,U J,U J,U J,U J,U J,O⟩ ⟨U J,U J,U J,U J,U J,U J,O⟩ O)
  refine H7 9 #[true,true,true,true,false,false,true,true,false,false,false,false,false,false,false] (fun x : Value × Value × Value=>stA fv fr tn [eK 11 x.1 n.roles.length,eP 12 2,eS 16 1 (strR n.tags)] n.cells [(.l 11,(strR n.roles).flatten)]) (fun x=>?_) (fun g207=>?_)
  ·obtain ⟨u1,u2,u3⟩:=x
   try dsimp only
   refine F1 4 [] (by kernel_rfl) ⟨⟨_,rfl,?_⟩,O⟩;refine A5 J J J (B2 J gU J J J J) (B0 ?_);exact g223 (u1,undef,undef) (by kernel_rfl) (B4 ⟨U J,U J,U J,U J,U J,U J,O⟩ ⟨U J,U J,U J,U J,U J,U J,O⟩ O)
  refine H7 9 #[true,true,false,true,true,false,true,true,false,false,false,false,false,false,false] (fun x : Value × Value × Value=>stA fv fr tn [eS 10 1 (strR n.roles),eS 13 3 (Fs.rows n.fresh),eS 16 1 (strR n.tags)] n.cells []) (fun x=>?_) (fun g219=>?_)
  ·obtain ⟨u1,u2,u3⟩:=x
   try dsimp only
   refine F1 2 [] (by kernel_rfl) ⟨⟨_,rfl,?_⟩,O⟩;refine J6 (Z':=sys) 0 [] true (fun u=>[.o u]) [(0,11,n.roles.length)] J J J J J J J J (fun p hp=>by cases hp) rfl cs1 (fun _=>rfl) rfl (by simp) rfl rfl rfl (fun _ _ _ _ _ _=>O) (fun u1=>(B0 ?_));exact g223 (u1,undef,undef) (by kernel_rfl) (B4 ⟨U J,U J,U J,U J,U J,U J,O⟩ ⟨U J,U J,U J,U J,U J,U J,O⟩ O)
  refine H7 10 #[true,true,true,true,true,false,false,false,false,false,false,false,false,false,false] (fun x : Value × Value × Value=>stA fv fr tn [eK 11 x.1 n.roles.length,eS 13 3 (Fs.rows n.fresh)] n.cells [(.l 11,(strR n.roles).flatten)]) (fun x=>?_) (fun g31=>?_)
  ·obtain ⟨u1,u2,u3⟩:=x
   try dsimp only
   refine F1 5 [6] (by kernel_rfl) ⟨⟨_,rfl,?_⟩,⟨_,rfl,?_⟩,O⟩
   ·refine J6 (Z':=sys) 0 [] true (fun u=>[.o u]) [(0,14,n.fresh.length)] J J J J J J J J (fun p hp=>by cases hp) rfl cs2 (fun _=>rfl) rfl (by simp) rfl rfl rfl (fun _ _ _ _ _ _=>O) (fun u2=>(B0 ?_))
    refine F1 6 [] (by kernel_rfl) ⟨⟨_,rfl,?_⟩,O⟩;refine A5 J J J (B1 J gU J J) (B0 ?_);exact g127 (u1,u2,undef) (by kernel_rfl) (B4 ⟨U J,U J,U J,U J,U J,U J,O⟩ ⟨U J,U J,U J,U J,U J,U J,U J,O⟩ O)
   ·refine A5 J J J (B1 J gU J J) (B0 ?_)
    exact g95 (u1,undef,undef) (by kernel_rfl) (B4 ⟨U J,U J,U J,U J,U J,U J,O⟩ ⟨U J,U J,U J,U J,U J,U J,O⟩ O)
  refine H7 10 #[true,true,true,true,false,false,true,false,false,false,false,false,false,false,false] (fun x : Value × Value × Value=>stA fv fr tn [eK 11 x.1 n.roles.length,eP 12 2,eP 15 3] n.cells [(.l 11,(strR n.roles).flatten)]) (fun x=>?_) (fun g79=>?_)
  ·obtain ⟨u1,u2,u3⟩:=x
   try dsimp only
   refine F1 4 [7] (by kernel_rfl) ⟨⟨_,rfl,?_⟩,⟨_,rfl,?_⟩,O⟩
   ·refine A5 J J J (B2 J gU J J J J) (B0 ?_)
    exact g95 (u1,undef,undef) (by kernel_rfl) (B4 ⟨U J,U J,U J,U J,U J,U J,O⟩ ⟨U J,U J,U J,U J,U J,U J,O⟩ O)
   ·refine A5 J J J (B2 J gU J J J J) (B0 ?_)
    exact g207 (u1,undef,undef) (by kernel_rfl) (B4 ⟨U J,U J,U J,U J,U J,U J,O⟩ ⟨U J,U J,U J,U J,U J,U J,O⟩ O)
  refine H7 10 #[true,true,false,true,true,false,true,false,false,false,false,false,false,false,false] (fun x : Value × Value × Value=>stA fv fr tn [eS 10 1 (strR n.roles),eS 13 3 (Fs.rows n.fresh),eP 15 3] n.cells []) (fun x=>?_) (fun g91=>?_)
  ·obtain ⟨u1,u2,u3⟩:=x
   try dsimp only
   refine F1 2 [7] (by kernel_rfl) ⟨⟨_,rfl,?_⟩,⟨_,rfl,?_⟩,O⟩
   ·refine J6 (Z':=sys) 0 [] true (fun u=>[.o u]) [(0,11,n.roles.length)] J J J J J J J J (fun p hp=>by cases hp) rfl cs1 (fun _=>rfl) rfl (by simp) rfl rfl rfl (fun _ _ _ _ _ _=>O) (fun u1=>(B0 ?_))
    exact g95 (u1,undef,undef) (by kernel_rfl) (B4 ⟨U J,U J,U J,U J,U J,U J,O⟩ ⟨U J,U J,U J,U J,U J,U J,O⟩ O)
   ·refine A5 J J J (B2 J gU J J J J) (B0 ?_)
    exact g219 (undef,undef,undef) (by kernel_rfl) (B4 ⟨U J,U J,U J,U J,U J,U J,O⟩ ⟨U J,U J,U J,U J,U J,O⟩ O)
  refine H7 10 #[true,true,true,false,false,false,true,true,false,false,false,false,false,false,false] (fun x : Value × Value × Value=>stA fv fr tn [eK 11 x.1 n.roles.length,eS 16 1 (strR n.tags)] n.cells [(.l 11,(strR n.roles).flatten)]) (fun x=>?_) (fun g199=>?_)
  ·obtain ⟨u1,u2,u3⟩:=x
   try dsimp only
   refine F1 3 [] (by kernel_rfl) ⟨⟨_,rfl,?_⟩,O⟩;refine A5 J J J (B1 J gU J J) (B0 ?_);exact g207 (u1,undef,undef) (by kernel_rfl) (B4 ⟨U J,U J,U J,U J,U J,U J,O⟩ ⟨U J,U J,U J,U J,U J,U J,O⟩ O)
  refine H7 10 #[true,true,false,true,false,false,true,true,false,false,false,false,false,false,false] (fun x : Value × Value × Value=>stA fv fr tn [eS 10 1 (strR n.roles),eP 12 2,eS 16 1 (strR n.tags)] n.cells []) (fun x=>?_) (fun g203=>?_)
  ·obtain ⟨u1,u2,u3⟩:=x
   try dsimp only
   refine F1 2 [4] (by kernel_rfl) ⟨⟨_,rfl,?_⟩,⟨_,rfl,?_⟩,O⟩
   ·refine J6 (Z':=sys) 0 [] true (fun u=>[.o u]) [(0,11,n.roles.length)] J J J J J J J J (fun p hp=>by cases hp) rfl cs1 (fun _=>rfl) rfl (by simp) rfl rfl rfl (fun _ _ _ _ _ _=>O) (fun u1=>(B0 ?_))
    exact g207 (u1,undef,undef) (by kernel_rfl) (B4 ⟨U J,U J,U J,U J,U J,U J,O⟩ ⟨U J,U J,U J,U J,U J,U J,O⟩ O)
   ·refine A5 J J J (B2 J gU J J J J) (B0 ?_)
    exact g219 (undef,undef,undef) (by kernel_rfl) (B4 ⟨U J,U J,U J,U J,U J,U J,O⟩ ⟨U J,U J,U J,U J,U J,O⟩ O)
  refine H7 10 #[true,false,false,true,true,false,true,true,false,false,false,false,false,false,false] (fun x : Value × Value × Value=>stA fv fr tn [eP 9 1,eS 13 3 (Fs.rows n.fresh),eS 16 1 (strR n.tags)] n.cells []) (fun x=>?_) (fun g217=>?_)
  ·obtain ⟨u1,u2,u3⟩:=x
   try dsimp only
   refine F1 1 [] (by kernel_rfl) ⟨⟨_,rfl,?_⟩,O⟩;refine A5 J J J (B2 J gU J J J J) (B0 ?_);exact g219 (undef,undef,undef) (by kernel_rfl) (B4 ⟨U J,U J,U J,U J,U J,U J,O⟩ ⟨U J,U J,U J,U J,U J,O⟩ O)
  refine H7 11 #[true,true,true,true,false,false,false,false,false,false,false,false,false,false,false] (fun x : Value × Value × Value=>stA fv fr tn [eK 11 x.1 n.roles.length,eP 12 2] n.cells [(.l 11,(strR n.roles).flatten)]) (fun x=>?_) (fun g15=>?_)
  ·obtain ⟨u1,u2,u3⟩:=x
   try dsimp only
   refine F1 4 [6] (by kernel_rfl) ⟨⟨_,rfl,?_⟩,⟨_,rfl,?_⟩,O⟩
   ·refine A5 J J J (B2 J gU J J J J) (B0 ?_)
    exact g31 (u1,undef,undef) (by kernel_rfl) (B4 ⟨U J,U J,U J,U J,U J,O⟩ ⟨U J,U J,U J,U J,U J,U J,O⟩ O)
   ·refine A5 J J J (B1 J gU J J) (B0 ?_)
    exact g79 (u1,undef,undef) (by kernel_rfl) (B4 ⟨U J,U J,U J,U J,U J,U J,O⟩ ⟨U J,U J,U J,U J,U J,U J,O⟩ O)
  refine H7 11 #[true,true,false,true,true,false,false,false,false,false,false,false,false,false,false] (fun x : Value × Value × Value=>stA fv fr tn [eS 10 1 (strR n.roles),eS 13 3 (Fs.rows n.fresh)] n.cells []) (fun x=>?_) (fun g27=>?_)
  ·obtain ⟨u1,u2,u3⟩:=x
   try dsimp only
   refine F1 2 [6] (by kernel_rfl) ⟨⟨_,rfl,?_⟩,⟨_,rfl,?_⟩,O⟩
   ·refine J6 (Z':=sys) 0 [] true (fun u=>[.o u]) [(0,11,n.roles.length)] J J J J J J J J (fun p hp=>by cases hp) rfl cs1 (fun _=>rfl) rfl (by simp) rfl rfl rfl (fun _ _ _ _ _ _=>O) (fun u1=>(B0 ?_))
    exact g31 (u1,undef,undef) (by kernel_rfl) (B4 ⟨U J,U J,U J,U J,U J,O⟩ ⟨U J,U J,U J,U J,U J,U J,O⟩ O)
   ·refine A5 J J J (B1 J gU J J) (B0 ?_)
    exact g91 (undef,undef,undef) (by kernel_rfl) (B4 ⟨U J,U J,U J,U J,U J,U J,O⟩ ⟨U J,U J,U J,U J,U J,O⟩ O)
  refine H7 11 #[true,true,true,false,false,false,true,false,false,false,false,false,false,false,false] (fun x : Value × Value × Value=>stA fv fr tn [eK 11 x.1 n.roles.length,eP 15 3] n.cells [(.l 11,(strR n.roles).flatten)]) (fun x=>?_) (fun g71=>?_)
  ·obtain ⟨u1,u2,u3⟩:=x
   try dsimp only
   refine F1 3 [7] (by kernel_rfl) ⟨⟨_,rfl,?_⟩,⟨_,rfl,?_⟩,O⟩
   ·refine A5 J J J (B1 J gU J J) (B0 ?_)
    exact g79 (u1,undef,undef) (by kernel_rfl) (B4 ⟨U J,U J,U J,U J,U J,U J,O⟩ ⟨U J,U J,U J,U J,U J,U J,O⟩ O)
   ·refine A5 J J J (B2 J gU J J J J) (B0 ?_)
    exact g199 (u1,undef,undef) (by kernel_rfl) (B4 ⟨U J,U J,U J,U J,U J,O⟩ ⟨U J,U J,U J,U J,U J,U J,O⟩ O)
  refine H7 11 #[true,true,false,true,false,false,true,false,false,false,false,false,false,false,false] (fun x : Value × Value × Value=>stA fv fr tn [eS 10 1 (strR n.roles),eP 12 2,eP 15 3] n.cells []) (fun x=>?_) (fun g75=>?_)
  ·obtain ⟨u1,u2,u3⟩:=x
   try dsimp only
   refine F1 2 [4,7] (by kernel_rfl) ⟨⟨_,rfl,?_⟩,⟨_,rfl,?_⟩,⟨_,rfl,?_⟩,O⟩
   ·refine J6 (Z':=sys) 0 [] true (fun u=>[.o u]) [(0,11,n.roles.length)] J J J J J J J J (fun p hp=>by cases hp) rfl cs1 (fun _=>rfl) rfl (by simp) rfl rfl rfl (fun _ _ _ _ _ _=>O) (fun u1=>(B0 ?_))
    exact g79 (u1,undef,undef) (by kernel_rfl) (B4 ⟨U J,U J,U J,U J,U J,U J,O⟩ ⟨U J,U J,U J,U J,U J,U J,O⟩ O)
   ·refine A5 J J J (B2 J gU J J J J) (B0 ?_)
    exact g91 (undef,undef,undef) (by kernel_rfl) (B4 ⟨U J,U J,U J,U J,U J,U J,O⟩ ⟨U J,U J,U J,U J,U J,O⟩ O)
   ·refine A5 J J J (B2 J gU J J J J) (B0 ?_)
    exact g203 (undef,undef,undef) (by kernel_rfl) (B4 ⟨U J,U J,U J,U J,U J,U J,O⟩ ⟨U J,U J,U J,U J,U J,O⟩ O)
  refine H7 11 #[true,false,false,true,true,false,true,false,false,false,false,false,false,false,false] (fun x : Value × Value × Value=>stA fv fr tn [eP 9 1,eS 13 3 (Fs.rows n.fresh),eP 15 3] n.cells []) (fun x=>?_) (fun g89=>?_)
  ·obtain ⟨u1,u2,u3⟩:=x
   try dsimp only
   refine F1 1 [7] (by kernel_rfl) ⟨⟨_,rfl,?_⟩,⟨_,rfl,?_⟩,O⟩
   ·refine A5 J J J (B2 J gU J J J J) (B0 ?_)
    exact g91 (undef,undef,undef) (by kernel_rfl) (B4 ⟨U J,U J,U J,U J,U J,U J,O⟩ ⟨U J,U J,U J,U J,U J,O⟩ O)
   ·refine A5 J J J (B2 J gU J J J J) (B0 ?_)
    exact g217 (undef,undef,undef) (by kernel_rfl) (B4 ⟨U J,U J,U J,U J,U J,U J,O⟩ ⟨U J,U J,U J,U J,U J,O⟩ O)
  refine H7 11 #[true,true,false,false,false,false,true,true,false,false,false,false,false,false,false] (fun x : Value × Value × Value=>stA fv fr tn [eS 10 1 (strR n.roles),eS 16 1 (strR n.tags)] n.cells []) (fun x=>?_) (fun g195=>?_)
  ·obtain ⟨u1,u2,u3⟩:=x
   try dsimp only
   refine F1 2 [3] (by kernel_rfl) ⟨⟨_,rfl,?_⟩,⟨_,rfl,?_⟩,O⟩
   ·refine J6 (Z':=sys) 0 [] true (fun u=>[.o u]) [(0,11,n.roles.length)] J J J J J J J J (fun p hp=>by cases hp) rfl cs1 (fun _=>rfl) rfl (by simp) rfl rfl rfl (fun _ _ _ _ _ _=>O) (fun u1=>(B0 ?_))
    exact g199 (u1,undef,undef) (by kernel_rfl) (B4 ⟨U J,U J,U J,U J,U J,O⟩ ⟨U J,U J,U J,U J,U J,U J,O⟩ O)
   ·refine A5 J J J (B1 J gU J J) (B0 ?_)
    exact g203 (undef,undef,undef) (by kernel_rfl) (B4 ⟨U J,U J,U J,U J,U J,U J,O⟩ ⟨U J,U J,U J,U J,U J,O⟩ O)
  refine H7 11 #[true,false,false,true,false,false,true,true,false,false,false,false,false,false,false] (fun x : Value × Value × Value=>stA fv fr tn [eP 9 1,eP 12 2,eS 16 1 (strR n.tags)] n.cells []) (fun x=>?_) (fun g201=>?_)
  ·obtain ⟨u1,u2,u3⟩:=x
   try dsimp only
   refine F1 1 [4] (by kernel_rfl) ⟨⟨_,rfl,?_⟩,⟨_,rfl,?_⟩,O⟩
   ·refine A5 J J J (B2 J gU J J J J) (B0 ?_)
    exact g203 (undef,undef,undef) (by kernel_rfl) (B4 ⟨U J,U J,U J,U J,U J,U J,O⟩ ⟨U J,U J,U J,U J,U J,O⟩ O)
   ·refine A5 J J J (B2 J gU J J J J) (B0 ?_)
    exact g217 (undef,undef,undef) (by kernel_rfl) (B4 ⟨U J,U J,U J,U J,U J,U J,O⟩ ⟨U J,U J,U J,U J,U J,O⟩ O)
  refine H7 11 #[false,false,false,true,true,false,true,true,false,false,false,false,false,false,false] (fun x : Value × Value × Value=>stA fv fr tn [eS 13 3 (Fs.rows n.fresh),eS 16 1 (strR n.tags)] n.cells []) (fun x=>?_) (fun g216=>?_)
  ·obtain ⟨u1,u2,u3⟩:=x
   try dsimp only
   refine F1 0 [] (by kernel_rfl) ⟨⟨_,rfl,?_⟩,O⟩;refine A5 J J J (B1 J gU J J) (B0 ?_);exact g217 (undef,undef,undef) (by kernel_rfl) (B4 ⟨U J,U J,U J,U J,U J,U J,O⟩ ⟨U J,U J,U J,U J,U J,O⟩ O)
  refine H7 12 #[true,true,false,true,false,false,false,false,false,false,false,false,false,false,false] (fun x : Value × Value × Value=>stA fv fr tn [eS 10 1 (strR n.roles),eP 12 2] n.cells []) (fun x=>?_) (fun g11=>?_)
  ·obtain ⟨u1,u2,u3⟩:=x
   try dsimp only
   refine F1 2 [4,6] (by kernel_rfl) ⟨⟨_,rfl,?_⟩,⟨_,rfl,?_⟩,⟨_,rfl,?_⟩,O⟩
   ·refine J6 (Z':=sys) 0 [] true (fun u=>[.o u]) [(0,11,n.roles.length)] J J J J J J J J (fun p hp=>by cases hp) rfl cs1 (fun _=>rfl) rfl (by simp) rfl rfl rfl (fun _ _ _ _ _ _=>O) (fun u1=>(B0 ?_))
    exact g15 (u1,undef,undef) (by kernel_rfl) (B4 ⟨U J,U J,U J,U J,U J,O⟩ ⟨U J,U J,U J,U J,U J,U J,O⟩ O)
   ·refine A5 J J J (B2 J gU J J J J) (B0 ?_)
    exact g27 (undef,undef,undef) (by kernel_rfl) (B4 ⟨U J,U J,U J,U J,U J,O⟩ ⟨U J,U J,U J,U J,U J,O⟩ O)
   ·refine A5 J J J (B1 J gU J J) (B0 ?_)
    exact g75 (undef,undef,undef) (by kernel_rfl) (B4 ⟨U J,U J,U J,U J,U J,U J,O⟩ ⟨U J,U J,U J,U J,U J,O⟩ O)
  refine H7 12 #[true,false,false,true,true,false,false,false,false,false,false,false,false,false,false] (fun x : Value × Value × Value=>stA fv fr tn [eP 9 1,eS 13 3 (Fs.rows n.fresh)] n.cells []) (fun x=>?_) (fun g25=>?_)
  ·obtain ⟨u1,u2,u3⟩:=x
   try dsimp only
   refine F1 1 [6] (by kernel_rfl) ⟨⟨_,rfl,?_⟩,⟨_,rfl,?_⟩,O⟩
   ·refine A5 J J J (B2 J gU J J J J) (B0 ?_)
    exact g27 (undef,undef,undef) (by kernel_rfl) (B4 ⟨U J,U J,U J,U J,U J,O⟩ ⟨U J,U J,U J,U J,U J,O⟩ O)
   ·refine A5 J J J (B1 J gU J J) (B0 ?_)
    exact g89 (undef,undef,undef) (by kernel_rfl) (B4 ⟨U J,U J,U J,U J,U J,U J,O⟩ ⟨U J,U J,U J,U J,U J,O⟩ O)
  refine H7 12 #[true,true,false,false,false,false,true,false,false,false,false,false,false,false,false] (fun x : Value × Value × Value=>stA fv fr tn [eS 10 1 (strR n.roles),eP 15 3] n.cells []) (fun x=>?_) (fun g67=>?_)
  ·obtain ⟨u1,u2,u3⟩:=x
   try dsimp only
   refine F1 2 [3,7] (by kernel_rfl) ⟨⟨_,rfl,?_⟩,⟨_,rfl,?_⟩,⟨_,rfl,?_⟩,O⟩
   ·refine J6 (Z':=sys) 0 [] true (fun u=>[.o u]) [(0,11,n.roles.length)] J J J J J J J J (fun p hp=>by cases hp) rfl cs1 (fun _=>rfl) rfl (by simp) rfl rfl rfl (fun _ _ _ _ _ _=>O) (fun u1=>(B0 ?_))
    exact g71 (u1,undef,undef) (by kernel_rfl) (B4 ⟨U J,U J,U J,U J,U J,O⟩ ⟨U J,U J,U J,U J,U J,U J,O⟩ O)
   ·refine A5 J J J (B1 J gU J J) (B0 ?_)
    exact g75 (undef,undef,undef) (by kernel_rfl) (B4 ⟨U J,U J,U J,U J,U J,U J,O⟩ ⟨U J,U J,U J,U J,U J,O⟩ O)
   ·refine A5 J J J (B2 J gU J J J J) (B0 ?_)
    exact g195 (undef,undef,undef) (by kernel_rfl) (B4 ⟨U J,U J,U J,U J,U J,O⟩ ⟨U J,U J,U J,U J,U J,O⟩ O)
  refine H7 12 #[true,false,false,true,false,false,true,false,false,false,false,false,false,false,false] (fun x : Value × Value × Value=>stA fv fr tn [eP 9 1,eP 12 2,eP 15 3] n.cells []) (fun x=>?_) (fun g73=>?_)
  ·obtain ⟨u1,u2,u3⟩:=x
   try dsimp only
   refine F1 1 [4,7] (by kernel_rfl) ⟨⟨_,rfl,?_⟩,⟨_,rfl,?_⟩,⟨_,rfl,?_⟩,O⟩
   ·refine A5 J J J (B2 J gU J J J J) (B0 ?_)
    exact g75 (undef,undef,undef) (by kernel_rfl) (B4 ⟨U J,U J,U J,U J,U J,U J,O⟩ ⟨U J,U J,U J,U J,U J,O⟩ O)
   ·refine A5 J J J (B2 J gU J J J J) (B0 ?_)
    exact g89 (undef,undef,undef) (by kernel_rfl) (B4 ⟨U J,U J,U J,U J,U J,U J,O⟩ ⟨U J,U J,U J,U J,U J,O⟩ O)
   ·refine A5 J J J (B2 J gU J J J J) (B0 ?_)
    exact g201 (undef,undef,undef) (by kernel_rfl) (B4 ⟨U J,U J,U J,U J,U J,U J,O⟩ ⟨U J,U J,U J,U J,U J,O⟩ O)
  refine H7 12 #[false,false,false,true,true,false,true,false,false,false,false,false,false,false,false] (fun x : Value × Value × Value=>stA fv fr tn [eS 13 3 (Fs.rows n.fresh),eP 15 3] n.cells []) (fun x=>?_) (fun g88=>?_)
  ·obtain ⟨u1,u2,u3⟩:=x
   try dsimp only
   refine F1 0 [7] (by kernel_rfl) ⟨⟨_,rfl,?_⟩,⟨_,rfl,?_⟩,O⟩
   ·refine A5 J J J (B1 J gU J J) (B0 ?_)
    exact g89 (undef,undef,undef) (by kernel_rfl) (B4 ⟨U J,U J,U J,U J,U J,U J,O⟩ ⟨U J,U J,U J,U J,U J,O⟩ O)
   ·refine A5 J J J (B2 J gU J J J J) (B0 ?_)
    exact g216 (undef,undef,undef) (by kernel_rfl) (B4 ⟨U J,U J,U J,U J,U J,O⟩ ⟨U J,U J,U J,U J,U J,O⟩ O)
  refine H7 12 #[true,false,false,false,false,false,true,true,false,false,false,false,false,false,false] (fun x : Value × Value × Value=>stA fv fr tn [eP 9 1,eS 16 1 (strR n.tags)] n.cells []) (fun x=>?_) (fun g193=>?_)
  ·obtain ⟨u1,u2,u3⟩:=x
   try dsimp only
   refine F1 1 [3] (by kernel_rfl) ⟨⟨_,rfl,?_⟩,⟨_,rfl,?_⟩,O⟩
   ·refine A5 J J J (B2 J gU J J J J) (B0 ?_)
    exact g195 (undef,undef,undef) (by kernel_rfl) (B4 ⟨U J,U J,U J,U J,U J,O⟩ ⟨U J,U J,U J,U J,U J,O⟩ O)
   ·refine A5 J J J (B1 J gU J J) (B0 ?_)
    exact g201 (undef,undef,undef) (by kernel_rfl) (B4 ⟨U J,U J,U J,U J,U J,U J,O⟩ ⟨U J,U J,U J,U J,U J,O⟩ O)
  refine H7 12 #[false,false,false,true,false,false,true,true,false,false,false,false,false,false,false] (fun x : Value × Value × Value=>stA fv fr tn [eP 12 2,eS 16 1 (strR n.tags)] n.cells []) (fun x=>?_) (fun g200=>?_)
  ·obtain ⟨u1,u2,u3⟩:=x
   try dsimp only
   refine F1 0 [4] (by kernel_rfl) ⟨⟨_,rfl,?_⟩,⟨_,rfl,?_⟩,O⟩
   ·refine A5 J J J (B1 J gU J J) (B0 ?_)
    exact g201 (undef,undef,undef) (by kernel_rfl) (B4 ⟨U J,U J,U J,U J,U J,U J,O⟩ ⟨U J,U J,U J,U J,U J,O⟩ O)
   ·refine A5 J J J (B2 J gU J J J J) (B0 ?_)
    exact g216 (undef,undef,undef) (by kernel_rfl) (B4 ⟨U J,U J,U J,U J,U J,O⟩ ⟨U J,U J,U J,U J,U J,O⟩ O)
  refine H7 13 #[true,false,false,true,false,false,false,false,false,false,false,false,false,false,false] (fun x : Value × Value × Value=>stA fv fr tn [eP 9 1,eP 12 2] n.cells []) (fun x=>?_) (fun g9=>?_)
  ·obtain ⟨u1,u2,u3⟩:=x
   try dsimp only
   refine F1 1 [4,6] (by kernel_rfl) ⟨⟨_,rfl,?_⟩,⟨_,rfl,?_⟩,⟨_,rfl,?_⟩,O⟩
   ·refine A5 J J J (B2 J gU J J J J) (B0 ?_)
    exact g11 (undef,undef,undef) (by kernel_rfl) (B4 ⟨U J,U J,U J,U J,U J,O⟩ ⟨U J,U J,U J,U J,U J,O⟩ O)
   ·refine A5 J J J (B2 J gU J J J J) (B0 ?_)
    exact g25 (undef,undef,undef) (by kernel_rfl) (B4 ⟨U J,U J,U J,U J,U J,O⟩ ⟨U J,U J,U J,U J,U J,O⟩ O)
   ·refine A5 J J J (B1 J gU J J) (B0 ?_)
    exact g73 (undef,undef,undef) (by kernel_rfl) (B4 ⟨U J,U J,U J,U J,U J,U J,O⟩ ⟨U J,U J,U J,U J,U J,O⟩ O)
  refine H7 13 #[true,false,false,false,false,false,true,false,false,false,false,false,false,false,false] (fun x : Value × Value × Value=>stA fv fr tn [eP 9 1,eP 15 3] n.cells []) (fun x=>?_) (fun g65=>?_)
  ·obtain ⟨u1,u2,u3⟩:=x
   try dsimp only
   refine F1 1 [3,7] (by kernel_rfl) ⟨⟨_,rfl,?_⟩,⟨_,rfl,?_⟩,⟨_,rfl,?_⟩,O⟩
   ·refine A5 J J J (B2 J gU J J J J) (B0 ?_)
    exact g67 (undef,undef,undef) (by kernel_rfl) (B4 ⟨U J,U J,U J,U J,U J,O⟩ ⟨U J,U J,U J,U J,U J,O⟩ O)
   ·refine A5 J J J (B1 J gU J J) (B0 ?_)
    exact g73 (undef,undef,undef) (by kernel_rfl) (B4 ⟨U J,U J,U J,U J,U J,U J,O⟩ ⟨U J,U J,U J,U J,U J,O⟩ O)
   ·refine A5 J J J (B2 J gU J J J J) (B0 ?_)
    exact g193 (undef,undef,undef) (by kernel_rfl) (B4 ⟨U J,U J,U J,U J,U J,O⟩ ⟨U J,U J,U J,U J,U J,O⟩ O)
  refine H7 13 #[false,false,false,true,false,false,true,false,false,false,false,false,false,false,false] (fun x : Value × Value × Value=>stA fv fr tn [eP 12 2,eP 15 3] n.cells []) (fun x=>?_) (fun g72=>?_)
  ·obtain ⟨u1,u2,u3⟩:=x
   try dsimp only
   refine F1 0 [4,7] (by kernel_rfl) ⟨⟨_,rfl,?_⟩,⟨_,rfl,?_⟩,⟨_,rfl,?_⟩,O⟩
   ·refine A5 J J J (B1 J gU J J) (B0 ?_)
    exact g73 (undef,undef,undef) (by kernel_rfl) (B4 ⟨U J,U J,U J,U J,U J,U J,O⟩ ⟨U J,U J,U J,U J,U J,O⟩ O)
   ·refine A5 J J J (B2 J gU J J J J) (B0 ?_)
    exact g88 (undef,undef,undef) (by kernel_rfl) (B4 ⟨U J,U J,U J,U J,U J,O⟩ ⟨U J,U J,U J,U J,U J,O⟩ O)
   ·refine A5 J J J (B2 J gU J J J J) (B0 ?_)
    exact g200 (undef,undef,undef) (by kernel_rfl) (B4 ⟨U J,U J,U J,U J,U J,O⟩ ⟨U J,U J,U J,U J,U J,O⟩ O)
  refine F1 0 [3,6] (by kernel_rfl) ⟨⟨_,rfl,?_⟩,⟨_,rfl,?_⟩,⟨_,rfl,?_⟩,O⟩
  ·refine A5 J J J (B1 J gU J J) (B0 ?_)
   refine F1 1 [3,6] (by kernel_rfl) ⟨⟨_,rfl,?_⟩,⟨_,rfl,?_⟩,⟨_,rfl,?_⟩,O⟩
   ·refine A5 J J J (B2 J gU J J J J) (B0 ?_)
    refine F1 2 [3,6] (by kernel_rfl) ⟨⟨_,rfl,?_⟩,⟨_,rfl,?_⟩,⟨_,rfl,?_⟩,O⟩
    ·refine J6 (Z':=sys) 0 [] true (fun u=>[.o u]) [(0,11,n.roles.length)] J J J J J J J J (fun p hp=>by cases hp) rfl cs1 (fun _=>rfl) rfl (by simp) rfl rfl rfl (fun _ _ _ _ _ _=>O) (fun u1=>(B0 ?_))
     refine F1 3 [6] (by kernel_rfl) ⟨⟨_,rfl,?_⟩,⟨_,rfl,?_⟩,O⟩
     ·refine A5 J J J (B1 J gU J J) (B0 ?_)
      exact g15 (u1,undef,undef) (by kernel_rfl) (B4 ⟨U J,U J,U J,U J,U J,O⟩ ⟨U J,U J,U J,U J,U J,U J,O⟩ O)
     ·refine A5 J J J (B1 J gU J J) (B0 ?_)
      exact g71 (u1,undef,undef) (by kernel_rfl) (B4 ⟨U J,U J,U J,U J,U J,O⟩ ⟨U J,U J,U J,U J,U J,U J,O⟩ O)
    ·refine A5 J J J (B1 J gU J J) (B0 ?_)
     exact g11 (undef,undef,undef) (by kernel_rfl) (B4 ⟨U J,U J,U J,U J,U J,O⟩ ⟨U J,U J,U J,U J,U J,O⟩ O)
    ·refine A5 J J J (B1 J gU J J) (B0 ?_)
     exact g67 (undef,undef,undef) (by kernel_rfl) (B4 ⟨U J,U J,U J,U J,U J,O⟩ ⟨U J,U J,U J,U J,U J,O⟩ O)
   ·refine A5 J J J (B1 J gU J J) (B0 ?_)
    exact g9 (undef,undef,undef) (by kernel_rfl) (B4 ⟨U J,U J,U J,U J,U J,O⟩ ⟨U J,U J,U J,U J,U J,O⟩ O)
   ·refine A5 J J J (B1 J gU J J) (B0 ?_)
    exact g65 (undef,undef,undef) (by kernel_rfl) (B4 ⟨U J,U J,U J,U J,U J,O⟩ ⟨U J,U J,U J,U J,U J,O⟩ O)
  ·refine A5 J J J (B1 J gU J J) (B0 ?_)
   refine F1 0 [4,6] (by kernel_rfl) ⟨⟨_,rfl,?_⟩,⟨_,rfl,?_⟩,⟨_,rfl,?_⟩,O⟩
   ·refine A5 J J J (B1 J gU J J) (B0 ?_)
    exact g9 (undef,undef,undef) (by kernel_rfl) (B4 ⟨U J,U J,U J,U J,U J,O⟩ ⟨U J,U J,U J,U J,U J,O⟩ O)
   ·refine A5 J J J (B2 J gU J J J J) (B0 ?_)
    refine F1 0 [6] (by kernel_rfl) ⟨⟨_,rfl,?_⟩,⟨_,rfl,?_⟩,O⟩
    ·refine A5 J J J (B1 J gU J J) (B0 ?_)
     exact g25 (undef,undef,undef) (by kernel_rfl) (B4 ⟨U J,U J,U J,U J,U J,O⟩ ⟨U J,U J,U J,U J,U J,O⟩ O)
    ·refine A5 J J J (B1 J gU J J) (B0 ?_)
     exact g88 (undef,undef,undef) (by kernel_rfl) (B4 ⟨U J,U J,U J,U J,U J,O⟩ ⟨U J,U J,U J,U J,U J,O⟩ O)
   ·refine A5 J J J (B1 J gU J J) (B0 ?_)
    exact g72 (undef,undef,undef) (by kernel_rfl) (B4 ⟨U J,U J,U J,U J,U J,O⟩ ⟨U J,U J,U J,U J,U J,O⟩ O)
  ·refine A5 J J J (B1 J gU J J) (B0 ?_)
   refine F1 0 [3,7] (by kernel_rfl) ⟨⟨_,rfl,?_⟩,⟨_,rfl,?_⟩,⟨_,rfl,?_⟩,O⟩
   ·refine A5 J J J (B1 J gU J J) (B0 ?_)
    exact g65 (undef,undef,undef) (by kernel_rfl) (B4 ⟨U J,U J,U J,U J,U J,O⟩ ⟨U J,U J,U J,U J,U J,O⟩ O)
   ·refine A5 J J J (B1 J gU J J) (B0 ?_)
    exact g72 (undef,undef,undef) (by kernel_rfl) (B4 ⟨U J,U J,U J,U J,U J,O⟩ ⟨U J,U J,U J,U J,U J,O⟩ O)
   ·refine A5 J J J (B2 J gU J J J J) (B0 ?_)
    refine F1 0 [3] (by kernel_rfl) ⟨⟨_,rfl,?_⟩,⟨_,rfl,?_⟩,O⟩
    ·refine A5 J J J (B1 J gU J J) (B0 ?_)
     exact g193 (undef,undef,undef) (by kernel_rfl) (B4 ⟨U J,U J,U J,U J,U J,O⟩ ⟨U J,U J,U J,U J,U J,O⟩ O)
    ·refine A5 J J J (B1 J gU J J) (B0 ?_)
     exact g200 (undef,undef,undef) (by kernel_rfl) (B4 ⟨U J,U J,U J,U J,U J,O⟩ ⟨U J,U J,U J,U J,U J,O⟩ O)
 obtain ⟨u1,u2,u3⟩:=x
 dsimp only
 refine Mh (fun x : Value × Value=>stB n fv fr tn u1 u2 u3 [eK 23 x.1 n.steps.length,eK 26 x.2 n.goals.length] [.s n.name, .o u1, .o u2, .o u3, .o x.1, .o x.2] [(.l 23,(Sp.rows n.steps).flatten),(.l 26,(Gl.rows n.goals).flatten)]) (fun x=>?_) ?_
 rotate_left
 ·refine H7 3 #[true,true,true,true,true,true,true,false,false,false] (fun x : Value × Value=>stB n fv fr tn u1 u2 u3 [eK 23 x.1 n.steps.length,eK 26 x.2 n.goals.length,eP 27 4] [.s n.name, .o u1, .o u2, .o u3, .sl 7 (Sp.rows n.steps), .sl 5 (Gl.rows n.goals)] [(.l 23,(Sp.rows n.steps).flatten),(.l 26,(Gl.rows n.goals).flatten)]) (fun x=>?_) (fun g127=>?_)
  ·obtain ⟨u4,u5⟩:=x
   try dsimp only
   refine F1 7 [] (by kernel_rfl) ⟨⟨_,rfl,?_⟩,O⟩;refine C3 J (R9 J J J J J J) (B0 ?_);refine F1 8 [] (by kernel_rfl) ⟨⟨_,rfl,?_⟩,O⟩;refine A5 J J J (B1 J gU J J) (B0 ?_);refine F1 9 [] (by kernel_rfl) ⟨⟨_,rfl,?_⟩,O⟩;refine C3 J (R9 J J J J J J) (B0 ?_);exact Dj (by kernel_rfl) ⟨(u4,u5),B4 ⟨U J,U J,U J,U J,U J,U J,U J,U J,O⟩ ⟨U J,U J,U J,U J,U J,U J,U J,U J,U J,U J,O⟩ O⟩
  refine H7 5 #[true,true,true,true,true,false,false,false,false,false] (fun x : Value × Value=>stB n fv fr tn u1 u2 u3 [eK 23 x.1 n.steps.length,eS 25 5 (Gl.rows n.goals)] [.s n.name, .o u1, .o u2, .o u3, .sl 7 (Sp.rows n.steps), .sl 5 (Gl.rows n.goals)] [(.l 23,(Sp.rows n.steps).flatten)]) (fun x=>?_) (fun g31=>?_)
  ·obtain ⟨u4,u5⟩:=x
   try dsimp only
   refine F1 5 [6] (by kernel_rfl) ⟨⟨_,rfl,?_⟩,⟨_,rfl,?_⟩,O⟩
   ·refine J6 (Z':=sys) 0 [] true (fun u=>[.o u]) [(0,26,n.goals.length)] J J J J J J J J (fun p hp=>by cases hp) rfl cs5 (fun _=>rfl) rfl (by simp) rfl rfl rfl (fun _ _ _ _ _ _=>O) (fun u5=>(B0 ?_))
    refine F1 6 [] (by kernel_rfl) ⟨⟨_,rfl,?_⟩,O⟩;refine A5 J J J (B1 J gU J J) (B0 ?_);exact g127 (u4,u5) (by kernel_rfl) (B4 ⟨U J,U J,U J,U J,U J,U J,U J,U J,U J,O⟩ ⟨U J,U J,U J,U J,U J,U J,U J,U J,U J,U J,O⟩ O)
   ·refine A5 J J J (B1 J gU J J) (B0 ?_)
    refine F1 5 [] (by kernel_rfl) ⟨⟨_,rfl,?_⟩,O⟩;refine J6 (Z':=sys) 0 [] true (fun u=>[.o u]) [(0,26,n.goals.length)] J J J J J J J J (fun p hp=>by cases hp) rfl cs5 (fun _=>rfl) rfl (by simp) rfl rfl rfl (fun _ _ _ _ _ _=>O) (fun u5=>(B0 ?_));exact g127 (u4,u5) (by kernel_rfl) (B4 ⟨U J,U J,U J,U J,U J,U J,U J,U J,U J,O⟩ ⟨U J,U J,U J,U J,U J,U J,U J,U J,U J,U J,O⟩ O)
  refine H7 6 #[true,true,true,true,false,false,false,false,false,false] (fun x : Value × Value=>stB n fv fr tn u1 u2 u3 [eK 23 x.1 n.steps.length,eP 24 5] [.s n.name, .o u1, .o u2, .o u3, .sl 7 (Sp.rows n.steps), .sl 5 (Gl.rows n.goals)] [(.l 23,(Sp.rows n.steps).flatten)]) (fun x=>?_) (fun g15=>?_)
  ·obtain ⟨u4,u5⟩:=x
   try dsimp only
   refine F1 4 [] (by kernel_rfl) ⟨⟨_,rfl,?_⟩,O⟩;refine A5 J J J (B2 J gU J J J J) (B0 ?_);exact g31 (u4,undef) (by kernel_rfl) (B4 ⟨U J,U J,U J,U J,U J,U J,U J,U J,O⟩ ⟨U J,U J,U J,U J,U J,U J,U J,U J,U J,O⟩ O)
  refine H7 6 #[true,true,false,true,true,false,false,false,false,false] (fun x : Value × Value=>stB n fv fr tn u1 u2 u3 [eS 22 7 (Sp.rows n.steps),eS 25 5 (Gl.rows n.goals)] [.s n.name, .o u1, .o u2, .o u3, .sl 7 (Sp.rows n.steps), .sl 5 (Gl.rows n.goals)] []) (fun x=>?_) (fun g27=>?_)
  ·obtain ⟨u4,u5⟩:=x
   try dsimp only
   refine F1 2 [] (by kernel_rfl) ⟨⟨_,rfl,?_⟩,O⟩;refine J6 (Z':=sys) 0 [] true (fun u=>[.o u]) [(0,23,n.steps.length)] J J J J J J J J (fun p hp=>by cases hp) rfl cs4 (fun _=>rfl) rfl (by simp) rfl rfl rfl (fun _ _ _ _ _ _=>O) (fun u4=>(B0 ?_));exact g31 (u4,undef) (by kernel_rfl) (B4 ⟨U J,U J,U J,U J,U J,U J,U J,U J,O⟩ ⟨U J,U J,U J,U J,U J,U J,U J,U J,U J,O⟩ O)
  refine H7 7 #[true,true,false,true,false,false,false,false,false,false] (fun x : Value × Value=>stB n fv fr tn u1 u2 u3 [eS 22 7 (Sp.rows n.steps),eP 24 5] [.s n.name, .o u1, .o u2, .o u3, .sl 7 (Sp.rows n.steps), .sl 5 (Gl.rows n.goals)] []) (fun x=>?_) (fun g11=>?_)
  ·obtain ⟨u4,u5⟩:=x
   try dsimp only
   refine F1 2 [4] (by kernel_rfl) ⟨⟨_,rfl,?_⟩,⟨_,rfl,?_⟩,O⟩
   ·refine J6 (Z':=sys) 0 [] true (fun u=>[.o u]) [(0,23,n.steps.length)] J J J J J J J J (fun p hp=>by cases hp) rfl cs4 (fun _=>rfl) rfl (by simp) rfl rfl rfl (fun _ _ _ _ _ _=>O) (fun u4=>(B0 ?_))
    exact g15 (u4,undef) (by kernel_rfl) (B4 ⟨U J,U J,U J,U J,U J,U J,U J,U J,O⟩ ⟨U J,U J,U J,U J,U J,U J,U J,U J,U J,O⟩ O)
   ·refine A5 J J J (B2 J gU J J J J) (B0 ?_)
    exact g27 (undef,undef) (by kernel_rfl) (B4 ⟨U J,U J,U J,U J,U J,U J,U J,U J,O⟩ ⟨U J,U J,U J,U J,U J,U J,U J,U J,O⟩ O)
  refine H7 7 #[true,false,false,true,true,false,false,false,false,false] (fun x : Value × Value=>stB n fv fr tn u1 u2 u3 [eP 21 4,eS 25 5 (Gl.rows n.goals)] [.s n.name, .o u1, .o u2, .o u3, .sl 7 (Sp.rows n.steps), .sl 5 (Gl.rows n.goals)] []) (fun x=>?_) (fun g25=>?_)
  ·obtain ⟨u4,u5⟩:=x
   try dsimp only
   refine F1 1 [] (by kernel_rfl) ⟨⟨_,rfl,?_⟩,O⟩;refine A5 J J J (B2 J gU J J J J) (B0 ?_);exact g27 (undef,undef) (by kernel_rfl) (B4 ⟨U J,U J,U J,U J,U J,U J,U J,U J,O⟩ ⟨U J,U J,U J,U J,U J,U J,U J,U J,O⟩ O)
  refine H7 8 #[true,false,false,true,false,false,false,false,false,false] (fun x : Value × Value=>stB n fv fr tn u1 u2 u3 [eP 21 4,eP 24 5] [.s n.name, .o u1, .o u2, .o u3, .sl 7 (Sp.rows n.steps), .sl 5 (Gl.rows n.goals)] []) (fun x=>?_) (fun g9=>?_)
  ·obtain ⟨u4,u5⟩:=x
   try dsimp only
   refine F1 1 [4] (by kernel_rfl) ⟨⟨_,rfl,?_⟩,⟨_,rfl,?_⟩,O⟩
   ·refine A5 J J J (B2 J gU J J J J) (B0 ?_)
    exact g11 (undef,undef) (by kernel_rfl) (B4 ⟨U J,U J,U J,U J,U J,U J,U J,U J,O⟩ ⟨U J,U J,U J,U J,U J,U J,U J,U J,O⟩ O)
   ·refine A5 J J J (B2 J gU J J J J) (B0 ?_)
    exact g25 (undef,undef) (by kernel_rfl) (B4 ⟨U J,U J,U J,U J,U J,U J,U J,U J,O⟩ ⟨U J,U J,U J,U J,U J,U J,U J,U J,O⟩ O)
  refine F1 0 [3] (by kernel_rfl) ⟨⟨_,rfl,?_⟩,⟨_,rfl,?_⟩,O⟩
  ·refine A5 J J J (B1 J gU J J) (B0 ?_)
   refine F1 1 [3] (by kernel_rfl) ⟨⟨_,rfl,?_⟩,⟨_,rfl,?_⟩,O⟩
   ·refine A5 J J J (B2 J gU J J J J) (B0 ?_)
    refine F1 2 [3] (by kernel_rfl) ⟨⟨_,rfl,?_⟩,⟨_,rfl,?_⟩,O⟩
    ·refine J6 (Z':=sys) 0 [] true (fun u=>[.o u]) [(0,23,n.steps.length)] J J J J J J J J (fun p hp=>by cases hp) rfl cs4 (fun _=>rfl) rfl (by simp) rfl rfl rfl (fun _ _ _ _ _ _=>O) (fun u4=>(B0 ?_))
     refine F1 3 [] (by kernel_rfl) ⟨⟨_,rfl,?_⟩,O⟩;refine A5 J J J (B1 J gU J J) (B0 ?_);exact g15 (u4,undef) (by kernel_rfl) (B4 ⟨U J,U J,U J,U J,U J,U J,U J,U J,O⟩ ⟨U J,U J,U J,U J,U J,U J,U J,U J,U J,O⟩ O)
    ·refine A5 J J J (B1 J gU J J) (B0 ?_)
     exact g11 (undef,undef) (by kernel_rfl) (B4 ⟨U J,U J,U J,U J,U J,U J,U J,U J,O⟩ ⟨U J,U J,U J,U J,U J,U J,U J,U J,O⟩ O)
   ·refine A5 J J J (B1 J gU J J) (B0 ?_)
    exact g9 (undef,undef) (by kernel_rfl) (B4 ⟨U J,U J,U J,U J,U J,U J,U J,U J,O⟩ ⟨U J,U J,U J,U J,U J,U J,U J,U J,O⟩ O)
  ·refine A5 J J J (B1 J gU J J) (B0 ?_)
   refine F1 0 [4] (by kernel_rfl) ⟨⟨_,rfl,?_⟩,⟨_,rfl,?_⟩,O⟩
   ·refine A5 J J J (B1 J gU J J) (B0 ?_)
    exact g9 (undef,undef) (by kernel_rfl) (B4 ⟨U J,U J,U J,U J,U J,U J,U J,U J,O⟩ ⟨U J,U J,U J,U J,U J,U J,U J,U J,O⟩ O)
   ·refine A5 J J J (B2 J gU J J J J) (B0 ?_)
    refine F1 0 [] (by kernel_rfl) ⟨⟨_,rfl,?_⟩,O⟩;refine A5 J J J (B1 J gU J J) (B0 ?_);exact g25 (undef,undef) (by kernel_rfl) (B4 ⟨U J,U J,U J,U J,U J,U J,U J,U J,O⟩ ⟨U J,U J,U J,U J,U J,U J,U J,U J,O⟩ O)
 obtain ⟨u4,u5⟩:=x
 dsimp only
 refine A8 ?_;refine A8 (A6 ?_);refine A5 J J J (B1 J gU J J) ?_;refine A5 J J J (B2 J gU J J J J) ?_;refine A5 J J J (T9 23 0 0 J gU J J J J J) ?_;refine A5 J J J (A7 J gU) ?_;refine B0 ?_;refine B6 (s:=⟨[(1,_,_),(2,_,_),(4,_,_),(11,_,_),(14,_,_),(17,_,_),(23,_,_),(26,_,_),(31,_,_),(32,_,_)],[(.l 11,_),(.l 14,_),(.l 17,_),(.l 2,_),(.l 23,_),(.l 26,_),(.l 4,_),(.o 0,_),(.o 1,_),(.o 2,_)],[],[]⟩) (B4 (⟨U J,U J,U J,U J,U J,U J,U J,U J,U J,U J,O⟩) (⟨U J,U J,U J,U J,U J,U J,U J,U J,U J,U J,O⟩) O) ?_;refine C4 ?_;refine F2 (ι:=Nat) { t:=[(1,_,_),(2,_,_),(4,_,_),(11,_,_),(14,_,_),(17,_,_),(23,_,_),(26,_,_),(31,_,_)],bx:=[(.l 11,_),(.l 14,_),(.l 17,_),(.l 2,_),(.l 26,_),(.l 4,_),(.o 0,_),(.o 1,_),(.o 2,_)],ow:=[] } (fun k=>[(32,true,xi (k : Int))]) (fun k=>[((.l 23),(Sp.rows (upto (chS (swG fr tn)) n.steps k)).flatten)]) (fun k=>k≤n.steps.length) (fun k=>n.steps.length - k) (0) (by simp) (B4 (⟨U J,U J,U J,U J,U J,U J,U J,U J,U J,U J,O⟩) (⟨⟨_,rfl,by rw[S3]⟩,⟨U J,U J,U J,U J,U J,U J,U J,U J,U J,O⟩⟩) O) ?_
 intro k hoka
 dsimp only [List.cons_append,List.nil_append]
 have hul:=W3 (chS (swG fr tn)) n.steps k
 have hfl:=Gw (upto (chS (swG fr tn)) n.steps k)
 refine A8 (A6 ?_);refine A5 J J J (B7 J J gU gU J) ?_;refine B0 ?_;refine A8 ?_;refine B9 J (fun hc=>?_) (fun hc=>?_)
 ·try simp only [nn,B3,nq] at hc
  have hlt : k < n.steps.length:=by omega
  have hat:=Z9 (f:=chS (swG fr tn)) (d:=default) hlt
  have hset:=W7 (f:=chS (swG fr tn)) (d:=default) hlt
  have hmk:=hm _ (K8 (d:=default) hlt)
  refine C0 ?_;refine A8 ?_;refine C4 ?_;refine A8 (A6 ?_);refine A5 J J J (A7 J gU) ?_;refine A5 J J J (A9 J gU) ?_;refine B0 ?_;refine awp_drawn' (by kernel_rfl) ?_;refine B5 J J J J (B1 J gU J J) ?_;refine K9 23 J J J J J J (N2 23 0 0 7 J gU J J J J J J J (by omega)) ?_;refine B5 J J J J (A7 J gU) ?_;refine B5 J J J J (B1 J gU J J) ?_;refine K9 23 J J J J J J (N2 23 0 0 7 J gU J J J J J J J (by omega)) ?_;refine B5 J J J J (A7 J gU) ?_;refine B5 J J J J (I6 J J gU gU J J J (fun _=>by omega)) ?_;refine B5 J J J J (B1 J gU J J) ?_;refine D7 J J J J J J J gU J J J (uAs hat) J ?_;refine B5 J J J J (A7 J gU) ?_;refine T3 (Z':=zK fv 1 2) ⟨.o 0,0,[.o fv],[.o fv]⟩ [⟨.o 1,0,[.s fr],[.s fr]⟩,⟨.o 2,0,[.s tn],[.s tn]⟩] J J J J J J J J J (ps3 J J J) J (Sd fv fr tn _ (n.steps.getD k default).msg (Nat.le_refl _) hmk.2 hmk.1) J J J (fun s2 E G a w hr hE=>Fg (i:=1) (j:=2) (i':=1) (j':=2) J J J J J J J E G a w hr hE) (Ep J J) ?_;refine B5 J J J J (I6 J J gU gU J J J (fun _=>by omega)) ?_
  refine B5 J J J J (B1 J gU J J) ?_;refine F3 J J J J J J J J J J J (Nat.ble_eq_true_of_le (by rw[hfl,hul]; show 0 + k * 7 + 2 + 4≤_; omega)) ?_;refine F6 (by kernel_rfl) ?_;refine B6 (s:=⟨[(1,_,_),(2,_,_),(4,_,_),(11,_,_),(14,_,_),(17,_,_),(23,_,_),(26,_,_),(31,_,_),(32,_,_)],[(.l 11,_),(.l 14,_),(.l 17,_),(.l 2,_),(.l 23,_),(.l 26,_),(.l 4,_),(.o 0,_),(.o 1,_),(.o 2,_)],[],[]⟩) (B4 (⟨U J,U J,U J,U J,U J,U J,U J,U J,U J,U J,O⟩) (⟨U J,U J,U J,U J,U J,U J,U J,U J,U J,U J,O⟩) O) ?_;refine A6 ?_;refine A5 J J J (D0 J J gU gU J (IntWalk.i64_in _ (by omega))) ?_;refine A5 J J J (A7 J gU) ?_;refine B0 ?_;refine ⟨k + 1,?_,?_,B4 (⟨⟨_,rfl,?_⟩,⟨U J,U J,U J,U J,U J,U J,U J,U J,U J,O⟩⟩) (⟨⟨_,rfl,?_⟩,⟨U J,U J,U J,U J,U J,U J,U J,U J,U J,O⟩⟩) O⟩
  all_goals (first|rfl|omega|(rw[Nat.zero_add,uAr hat,← hset]; rfl))
 ·try simp only [nn,B3,nq] at hc
  have hke : k=n.steps.length:=by omega
  subst hke
  rw[S2]
  refine E1 ?_
  repeat(first|refine D5 ?_|refine D6 ?_|refine D2 J ?_)
  refine A8 ?_;refine A8 (A6 ?_);refine A5 J J J (B1 J gU J J) ?_;refine A5 J J J (B2 J gU J J J J) ?_;refine A5 J J J (T9 26 0 0 J gU J J J J J) ?_;refine A5 J J J (A7 J gU) ?_;refine B0 ?_;refine B6 (s:=⟨[(1,_,_),(2,_,_),(4,_,_),(11,_,_),(14,_,_),(17,_,_),(23,_,_),(26,_,_),(51,_,_),(52,_,_)],[(.l 11,_),(.l 14,_),(.l 17,_),(.l 2,_),(.l 23,_),(.l 26,_),(.l 4,_),(.o 0,_),(.o 1,_),(.o 2,_)],[],[]⟩) (B4 (⟨U J,U J,U J,U J,U J,U J,U J,U J,U J,U J,O⟩) (⟨U J,U J,U J,U J,U J,U J,U J,U J,U J,U J,O⟩) O) ?_;refine C4 ?_;refine F2 (ι:=Nat) { t:=[(1,_,_),(2,_,_),(4,_,_),(11,_,_),(14,_,_),(17,_,_),(23,_,_),(26,_,_),(51,_,_)],bx:=[(.l 11,_),(.l 14,_),(.l 17,_),(.l 2,_),(.l 23,_),(.l 4,_),(.o 0,_),(.o 1,_),(.o 2,_)],ow:=[] } (fun j=>[(52,true,xi (j : Int))]) (fun j=>[((.l 26),(Gl.rows (upto (chL (swG fr tn)) n.goals j)).flatten)]) (fun j=>j≤n.goals.length) (fun j=>n.goals.length - j) (0) (by simp) (B4 (⟨U J,U J,U J,U J,U J,U J,U J,U J,U J,U J,O⟩) (⟨⟨_,rfl,by rw[S3]⟩,⟨U J,U J,U J,U J,U J,U J,U J,U J,U J,O⟩⟩) O) ?_
  intro j hokb
  dsimp only [List.cons_append,List.nil_append]
  have hul:=W3 (chL (swG fr tn)) n.goals j
  have hfl:=Hg (upto (chL (swG fr tn)) n.goals j)
  refine A8 (A6 ?_);refine A5 J J J (B7 J J gU gU J) ?_;refine B0 ?_;refine A8 ?_;refine B9 J (fun hc2=>?_) (fun hc2=>?_)
  ·try simp only [nn,B3,nq] at hc2
   have hlt : j < n.goals.length:=by omega
   have hat:=Z9 (f:=chL (swG fr tn)) (d:=default) hlt
   have hset:=W7 (f:=chL (swG fr tn)) (d:=default) hlt
   obtain ⟨d1,d2,d3⟩:=hd _ (K8 (d:=default) hlt)
   refine C0 ?_;refine A8 ?_;refine C4 ?_;refine A8 (A6 ?_);refine A5 J J J (A7 J gU) ?_;refine A5 J J J (A9 J gU) ?_;refine B0 ?_;refine A8 (A6 ?_);refine A5 J J J (B1 J gU J J) ?_;refine A5 J J J (B2 J gU J J J J) ?_;refine Pz 56 26 0 0 5 J J J J (by omega) ?_;refine A5 J J J (A7 J gU) ?_;refine A5 J J J (I6 J J gU gU J J J (fun _=>by omega)) ?_;refine A5 J J J (B1 J gU J J) ?_;refine A5 J J J (B2 J gU J J J (uAH hat)) ?_;refine uA3 4 J J J J J J J (CtrN.wk (Z:=sys) J (fun g hg=>by cases hg) (Sw (n.goals.getD j default).data (by omega) d1)) ?_;refine A5 J J J (A9 J gU) ?_;refine B0 ?_;refine B6 (s:=⟨[(1,_,_),(2,_,_),(4,_,_),(6,_,_),(7,_,_),(11,_,_),(14,_,_),(17,_,_),(23,_,_),(26,_,_),(51,_,_),(52,_,_)],[(.l 11,_),(.l 14,_),(.l 17,_),(.l 2,_),(.l 23,_),(.l 26,_),(.l 4,_),(.l 61,_),(.o 0,_),(.o 1,_),(.o 2,_)],[],[]⟩) (B4 (⟨U J,U J,U J,U J,U J,U J,U J,U J,U J,U J,U J,U J,O⟩) (⟨U J,U J,U J,U J,U J,U J,U J,U J,U J,U J,U J,O⟩) O) ?_
   refine A8 ?_;refine A8 (A6 ?_);refine A5 J J J (A7 J gU) ?_;refine A5 J J J (Ui J gU J J) ?_;refine A5 J J J (A7 J gU) ?_;refine B0 ?_;refine C4 ?_;refine F2 (ι:=Nat) { t:=[(1,_,_),(2,_,_),(4,_,_),(6,_,_),(7,_,_),(11,_,_),(14,_,_),(17,_,_),(23,_,_),(26,_,_),(51,_,_),(52,_,_),(63,_,_)],bx:=[(.l 11,_),(.l 14,_),(.l 17,_),(.l 2,_),(.l 23,_),(.l 26,_),(.l 4,_),(.o 0,_),(.o 1,_),(.o 2,_)],ow:=[] } (fun i=>[(64,true,xi (i : Int))]) (fun i=>[((.l 61),(T.rows (upto (chT (swG fr tn)) (n.goals.getD j default).data i)).flatten)]) (fun i=>i≤(n.goals.getD j default).data.length) (fun i=>(n.goals.getD j default).data.length - i) (0) (by simp) (B4 (⟨U J,U J,U J,U J,U J,U J,U J,U J,U J,U J,U J,U J,U J,U J,O⟩) (⟨⟨_,rfl,by rw[S3]⟩,⟨U J,U J,U J,U J,U J,U J,U J,U J,U J,U J,O⟩⟩) O) ?_
   intro i hokc
   dsimp only [List.cons_append,List.nil_append]
   have hul2:=W3 (chT (swG fr tn)) (n.goals.getD j default).data i
   have hfl2:=Dr (upto (chT (swG fr tn)) (n.goals.getD j default).data i)
   refine A8 (A6 ?_);refine A5 J J J (B7 J J gU gU J) ?_;refine B0 ?_;refine A8 ?_;refine B9 J (fun hc3=>?_) (fun hc3=>?_)
   ·try simp only [nn,B3,nq] at hc3
    have hlt3 : i < (n.goals.getD j default).data.length:=by omega
    have hat3:=Z9 (f:=chT (swG fr tn)) (d:=default) hlt3
    have hset3:=W7 (f:=chT (swG fr tn)) (d:=default) hlt3
    obtain ⟨e1,e2⟩:=d3 _ (K8 (d:=default) hlt3)
    refine C0 ?_;refine A8 ?_;refine C4 ?_;refine A8 (A6 ?_);refine A5 J J J (A7 J gU) ?_;refine A5 J J J (A9 J gU) ?_;refine B0 ?_;refine A6 ?_;refine A5 J J J (A7 J gU) ?_;refine A5 J J J (A7 J gU) ?_;refine A5 J J J (A7 J gU) ?_;refine A5 J J J (A7 J gU) ?_;refine A5 J J J (I6 J J gU gU J J J (fun _=>by omega)) ?_;refine A5 J J J (B8 J gU J J J (Tb hat3) J) ?_;refine A5 J J J (A7 J gU) ?_;refine Y4 (Z':=zK fv 1 2) [⟨.o 0,0,[.o fv],[.o fv]⟩,⟨.o 1,0,[.s fr],[.s fr]⟩,⟨.o 2,0,[.s tn],[.s tn]⟩] J J J J J J J J (ps3 J J J) J (Sd fv fr tn _ ((n.goals.getD j default).data.getD i default) (Nat.le_refl _) e2 e1) J J J (fun E G a w hr hE=>Fg (i:=1) (j:=2) (i':=1) (j':=2) J J J J J J J E G a w hr hE) ?_;refine A5 J J J (I6 J J gU gU J J J (fun _=>by omega)) ?_;refine C3 J (C8 J J J J J J (Nat.ble_eq_true_of_le (by rw[hfl2,hul2]; show 0 + i * 4 + 4≤_; omega))) ?_;refine B0 ?_;refine B6 (s:=⟨[(1,_,_),(2,_,_),(4,_,_),(6,_,_),(7,_,_),(11,_,_),(14,_,_),(17,_,_),(23,_,_),(26,_,_),(51,_,_),(52,_,_),(63,_,_),(64,_,_)],[(.l 11,_),(.l 14,_),(.l 17,_),(.l 2,_),(.l 23,_),(.l 26,_),(.l 4,_),(.l 61,_),(.o 0,_),(.o 1,_),(.o 2,_)],[],[]⟩) (B4 (⟨U J,U J,U J,U J,U J,U J,U J,U J,U J,U J,U J,U J,U J,U J,O⟩) (⟨U J,U J,U J,U J,U J,U J,U J,U J,U J,U J,U J,O⟩) O) ?_
    refine A6 ?_;refine A5 J J J (D0 J J gU gU J (IntWalk.i64_in _ (by omega))) ?_;refine A5 J J J (A7 J gU) ?_;refine B0 ?_;refine ⟨i + 1,?_,?_,B4 (⟨⟨_,rfl,?_⟩,⟨U J,U J,U J,U J,U J,U J,U J,U J,U J,U J,U J,U J,U J,O⟩⟩) (⟨⟨_,rfl,?_⟩,⟨U J,U J,U J,U J,U J,U J,U J,U J,U J,U J,O⟩⟩) O⟩
    all_goals (first|rfl|omega|(rw[Nat.zero_add,Kc _ _ _ (by rw[hul2]; omega),← hset3]))
   ·try simp only [nn,B3,nq] at hc3
    have hie : i=(n.goals.getD j default).data.length:=by omega
    subst hie
    rw[S2]
    refine E1 ?_
    repeat(first|refine D5 ?_|refine D6 ?_|refine D2 J ?_)
    refine A6 ?_;refine Lr 7 61 (T.rows ((n.goals.getD j default).data.map (chT (swG fr tn)))) J J (by rw[T.rows_len,List.length_map]) (by omega) (Vn _) J ?_;refine A5 J J J (B1 J gU J J) ?_;refine A5 J J J (B2 J gU J J J J) ?_;refine Pz 78 26 0 0 5 J J J J (by omega) ?_;refine A5 J J J (A7 J gU) ?_;refine A5 J J J (A7 J gU) ?_;refine A5 J J J (I6 J J gU gU J J J (fun _=>by omega)) ?_;refine A5 J J J (B1 J gU J J) ?_;refine C3 J (C8 J J J J J J (Nat.ble_eq_true_of_le (by rw[hfl,hul]; show 0 + j * 5 + 3 + 1≤_; omega))) ?_;refine B0 ?_;refine B6 (s:=⟨[(1,_,_),(2,_,_),(4,_,_),(11,_,_),(14,_,_),(17,_,_),(23,_,_),(26,_,_),(51,_,_),(52,_,_)],[(.l 11,_),(.l 14,_),(.l 17,_),(.l 2,_),(.l 23,_),(.l 26,_),(.l 4,_),(.o 0,_),(.o 1,_),(.o 2,_)],[],[]⟩) (B4 (⟨U J,U J,U J,U J,U J,U J,U J,U J,U J,U J,O⟩) (⟨U J,U J,U J,U J,U J,U J,U J,U J,U J,U J,O⟩) O) ?_;refine A6 ?_;refine A5 J J J (D0 J J gU gU J (IntWalk.i64_in _ (by omega))) ?_;refine A5 J J J (A7 J gU) ?_;refine B0 ?_;refine ⟨j + 1,?_,?_,B4 (⟨⟨_,rfl,?_⟩,⟨U J,U J,U J,U J,U J,U J,U J,U J,U J,O⟩⟩) (⟨⟨_,rfl,?_⟩,⟨U J,U J,U J,U J,U J,U J,U J,U J,U J,O⟩⟩) O⟩
    all_goals (first|rfl|omega|(rw[Nat.zero_add,uA2 hat,← hset]; rfl))
  ·try simp only [nn,B3,nq] at hc2
   have hje : j=n.goals.length:=by omega
   subst hje
   rw[S2]
   refine E1 ?_
   repeat(first|refine D5 ?_|refine D6 ?_|refine D2 J ?_)
   refine A8 (A6 ?_);refine A5 J J J (B8 J gU J J J J J) ?_;refine C3 J (C8 J J J J J J J) ?_;refine B0 ?_;refine C1 ?_
   repeat(first|refine tR ?_|refine bR ?_)
   exact uBV ((u1,u2,u3,u4,u5) : V5) J J ⟨⟨11,_,rfl,rfl⟩,⟨14,_,rfl,rfl⟩,⟨17,_,rfl,rfl⟩,⟨23,_,rfl,rfl⟩,⟨26,_,rfl,rfl⟩,O⟩ ⟨⟨_,rfl,rfl⟩,⟨_,rfl,rfl⟩,⟨_,rfl,rfl⟩,O⟩ ⟨rfl,rfl,rfl,rfl,rfl,O⟩
end Go.Proofs.YteidahabkfgfjaaGreat
