/- Our abstract program logic and contracts of this seat's functions, part 3: no statement of its own (long names of ours are shortened by a program). -/
import Derived.Test.YteidahabkfgfjaaGreatM2
import Derived.Lib.Join
import Derived.Shelf.Strings.OnBuilder
import Derived.Shelf.Small.Strs
import Derived.Shelf.Strings.SlTrimAscii
import Derived.Shelf.Strings.Prefix
import Derived.Shelf.Strings.Split
import Derived.Shelf.LaysM
import Derived.Shelf.Strings.Search3
import Derived.Test.YteidahabkfgfjaaGreatProg
import Derived.KernelRfl
import Derived.WalkKit
import Derived.Lib.Builder
import Derived.Lib.UnsafeStr
import Derived.Laws.Externs
set_option linter.unusedVariables false
set_option linter.unusedSimpArgs false
namespace Go.Proofs.YteidahabkfgfjaaGreat
open Go Go.Abs
def M8 (t : T) : Int :=
 if (t.kind=1∨t.kind=2)∧0≤t.sort∧t.sort≤5∧t.kids.length=0∨t.kind=3∧t.sort=0 then
  if R5 t.name=true then (if 8 < t.kids.length then 3 else 0) else 2
 else 1
namespace T
mutual
def nodesE : T→Int
 | mk k n s ks=>if M8 (mk k n s ks)≠0 then M8 (mk k n s ks) else nodesEs ks
def nodesEs : List T→Int
 | []=>0
 | t :: ts=>if nodesE t≠0 then nodesE t else nodesEs ts
end
theorem nodesE_eq (t : T) : t.nodesE=if M8 t≠0 then M8 t else nodesEs t.kids:=by cases t; rw[nodesE]; rfl
theorem nodesEs_hit : ∀ (ts : List T) (k : Nat) (x : T),ts[k]? = some x→nodesEs (ts.take k)=0→x.nodesE≠0→nodesEs ts=x.nodesE
 | [],k,x,h,_,_=>by simp at h
 | t :: ts,0,x,h,_,hx=>by simp at h; subst h; rw[nodesEs,if_pos hx]
 | t :: ts,k + 1,x,h,h0,hx=>by
  rw[List.take_succ_cons,nodesEs] at h0
  rw[nodesEs]
  by_cases ht : t.nodesE=0
  ·rw[if_neg (by simpa using ht)] at h0
   rw[if_neg (by simpa using ht)]
   exact nodesEs_hit ts k x (by simpa using h) h0 hx
  ·rw[if_pos ht] at h0; exact absurd h0 ht
theorem nodesEs_step : ∀ (ts : List T) (k : Nat) (x : T),ts[k]? = some x→nodesEs (ts.take k)=0→x.nodesE=0→nodesEs (ts.take (k + 1))=0
 | [],k,x,h,_,_=>by simp at h
 | t :: ts,0,x,h,_,hx=>by simp at h; subst h; simp [nodesEs,hx]
 | t :: ts,k + 1,x,h,h0,hx=>by
  rw[List.take_succ_cons,nodesEs] at h0
  rw[List.take_succ_cons,nodesEs]
  by_cases ht : t.nodesE=0
  ·rw[if_neg (by simpa using ht)] at h0
   rw[if_neg (by simpa using ht)]
   exact nodesEs_step ts k x (by simpa using h) h0 hx
  ·rw[if_pos ht] at h0; exact absurd h0 ht
mutual
def depth : T→Nat
 | mk _ _ _ ks=>depths ks + 1
def depths : List T→Nat
 | []=>0
 | t :: ts=>max (depth t) (depths ts)
end
theorem depth_eq (t : T) : t.depth=depths t.kids + 1:=by cases t; rw[depth]; rfl
theorem depths_take : ∀ (ts : List T) (k : Nat) (x : T),ts[k]? = some x→depths (ts.take (k + 1))=max (depths (ts.take k)) x.depth
 | [],k,x,h=>by simp at h
 | t :: ts,0,x,h=>by simp at h; subst h; simp [depths]
 | t :: ts,k + 1,x,h=>by
  have := depths_take ts k x (by simpa using h)
  simp only [List.take_succ_cons,depths]
  omega
mutual
theorem depth_le : ∀ t : T,t.depth≤t.size
 | mk k n s ks=>by have := Lc ks; rw[depth,size]; omega
theorem Lc : ∀ ts : List T,depths ts≤sizes ts
 | []=>by simp [depths]
 | t :: ts=>by have h1:=depth_le t; have h2:=Lc ts; rw[depths,sizes]; omega
end
theorem depths_take_le : ∀ (ts : List T) (k : Nat),depths (ts.take k)≤depths ts
 | [],k=>by simp
 | t :: ts,0=>by simp [depths]
 | t :: ts,k + 1=>by have := depths_take_le ts k; simp only [List.take_succ_cons,depths]; omega
structure Chk where
 e : Int
 n : Int
 d : Int
mutual
def chk : T→Int→Int→Int→Chk
 | mk k nm s ks,lv,n,d=>if M8 (mk k nm s ks)≠0 then ⟨M8 (mk k nm s ks),n + 1,max d lv⟩ else chks ks (lv + 1) (n + 1) (max d lv)
def chks : List T→Int→Int→Int→Chk
 | [],_,n,d=>⟨0,n,d⟩
 | t :: ts,lv,n,d=>if (chk t lv n d).e≠0 then chk t lv n d else chks ts lv (chk t lv n d).n (chk t lv n d).d
end
theorem chk_eq (t : T) (lv n d : Int) : t.chk lv n d=if M8 t≠0 then ⟨M8 t,n + 1,max d lv⟩ else chks t.kids (lv + 1) (n + 1) (max d lv):=by cases t; rw[chk]; rfl
mutual
theorem chk_e : ∀ (t : T) (lv n d : Int),(t.chk lv n d).e=t.nodesE
 | mk k nm s ks,lv,n,d=>by
  rw[chk,nodesE]
  split
  ·rfl
  ·exact chks_e ks _ _ _
theorem chks_e : ∀ (ts : List T) (lv n d : Int),(chks ts lv n d).e=nodesEs ts
 | [],_,_,_=>by rw[chks,nodesEs]
 | t :: ts,lv,n,d=>by
  rw[chks,nodesEs]
  rw[chk_e t lv n d]
  split
  ·exact chk_e t lv n d
  ·exact chks_e ts _ _ _
end
mutual
theorem chk_n : ∀ (t : T) (lv n d : Int),n≤(t.chk lv n d).n∧(t.chk lv n d).n≤n + t.size∧(t.nodesE=0→(t.chk lv n d).n=n + t.size)
 | mk k nm s ks,lv,n,d=>by
  rw[chk,nodesE,size]
  have h:=chks_n ks (lv + 1) (n + 1) (max d lv)
  split
  ·dsimp only; exact ⟨by omega,by omega,fun hh=>absurd hh (by assumption)⟩
  ·exact ⟨by omega,by omega,fun hh=>by have := h.2.2 hh; omega⟩
theorem chks_n : ∀ (ts : List T) (lv n d : Int),n≤(chks ts lv n d).n∧(chks ts lv n d).n≤n + sizes ts∧(nodesEs ts=0→(chks ts lv n d).n=n + sizes ts)
 | [],_,n,_=>by rw[chks,sizes]; dsimp only; omega
 | t :: ts,lv,n,d=>by
  rw[chks,nodesEs,sizes,chk_e]
  have h:=chk_n t lv n d
  have h2:=chks_n ts lv (t.chk lv n d).n (t.chk lv n d).d
  split
  ·exact ⟨by omega,by omega,fun hh=>absurd hh (by assumption)⟩
  ·rename_i hz
   have hz' : t.nodesE=0:=by simpa using hz
   have := h.2.2 hz'
   exact ⟨by omega,by omega,fun hh=>by have := h2.2.2 hh; omega⟩
end
mutual
theorem chk_d : ∀ (t : T) (lv n d : Int),t.nodesE=0→(t.chk lv n d).d=max d (lv + t.depth - 1)
 | mk k nm s ks,lv,n,d,h=>by
  rw[nodesE] at h
  rw[chk,depth]
  split
  ·rename_i hz; rw[if_pos hz] at h; exact absurd h hz
  ·rename_i hz
   rw[if_neg hz] at h
   rw[Yu ks (lv + 1) (n + 1) (max d lv) h]
   split <;> omega
theorem Yu : ∀ (ts : List T) (lv n d : Int),nodesEs ts=0→(chks ts lv n d).d=if depths ts=0 then d else max d (lv + depths ts - 1)
 | [],_,n,d,_=>by rw[chks,depths]; simp
 | t :: ts,lv,n,d,h=>by
  rw[nodesEs] at h
  rw[chks,depths,chk_e]
  split
  ·rename_i hz; rw[if_pos hz] at h; exact absurd h hz
  ·rename_i hz
   rw[if_neg hz] at h
   rw[Yu ts lv _ _ h,chk_d t lv n d (by simpa using hz)]
   have hd : 1≤t.depth:=by rw[depth_eq]; omega
   split <;> split <;> omega
end
theorem Bt : ∀ (a b : List T) (lv n d : Int),chks (a++b) lv n d=if (chks a lv n d).e≠0 then chks a lv n d else chks b lv (chks a lv n d).n (chks a lv n d).d
 | [],b,lv,n,d=>by rw[List.nil_append]; simp [chks]
 | t :: a,b,lv,n,d=>by
  rw[List.cons_append,chks,chks]
  by_cases h : (t.chk lv n d).e≠0
  ·rw[if_pos h,if_pos h,if_pos h]
  ·rw[if_neg h,if_neg h,Bt a b]
theorem Yd {ts : List T} {k : Nat} {x : T} (h : ts[k]? = some x) : ts.take (k + 1)=ts.take k++[x]:=by
 rw[List.take_add_one,h]; rfl
theorem chks_step {ts : List T} {k : Nat} {x : T} {lv n d : Int} (h : ts[k]? = some x) (h0 : (chks (ts.take k) lv n d).e=0) (hx : x.nodesE=0) :
  chks (ts.take (k + 1)) lv n d=x.chk lv (chks (ts.take k) lv n d).n (chks (ts.take k) lv n d).d:=by
 rw[Yd h,Bt,if_neg (by simpa using h0),chks,chk_e,if_neg (by simpa using hx),chks]
 have := chk_e x lv (chks (ts.take k) lv n d).n (chks (ts.take k) lv n d).d
 rw[hx] at this
 cases hc : x.chk lv (chks (ts.take k) lv n d).n (chks (ts.take k) lv n d).d
 rw[hc] at this
 simp at this
 simp [this]
theorem chks_hit {ts : List T} {k : Nat} {x : T} {lv n d : Int} (h : ts[k]? = some x) (h0 : (chks (ts.take k) lv n d).e=0) (hx : x.nodesE≠0) :
  chks ts lv n d=x.chk lv (chks (ts.take k) lv n d).n (chks (ts.take k) lv n d).d:=by
 have hs : ts=ts.take k++(x :: ts.drop (k + 1)):=by
  have hlt:=(List.getElem?_eq_some_iff.1 h)
  obtain ⟨hl,he⟩:=hlt
  rw[← he,List.getElem_cons_drop,List.take_append_drop]
 conv=>lhs; rw[hs]
 rw[Bt,if_neg (by simpa using h0),chks,chk_e,if_pos hx]
end T
def V6 (t : T) : Int:=if t.nodesE≠0 then t.nodesE else if 400 < t.size∨40 < t.depth then 3 else 0
end Go.Proofs.YteidahabkfgfjaaGreat
namespace Go.Proofs.YteidahabkfgfjaaGreat
open Go Go.Abs
abbrev xm (t : T) : X:=.v (.agg t.cells)
abbrev xl (ts : List T) : X:=.v (.c (.sl 4 (T.rows ts)))
theorem Cm (v : Int) (h : M4 v=false∨(48≤v∧v≤57)∨v=95∨v=35) : H8 v=false:=by
 rcases h with h | h | h | h
 ·cases hl : H8 v with
  | false=>rfl
  | true=>simp [M4,hl] at h
 all_goals simp [H8]; omega
theorem Sn (v : Int) (h : M4 v=true) (h1 : ¬ (48≤v∧v≤57)) (h2 : ¬ v=95) (h3 : ¬ v=35) : H8 v=true:=by
 cases hl : H8 v with
 | true=>rfl
 | false=>simp [M4,hl,K1] at h; omega
def uAk (l : List UInt8) (k : Nat) : St:={ t:=[(0,true,xs l),(38,true,xi l.length),(39,true,xi k)],bx:=[],ow:=[] }
theorem Mb (l : List UInt8) : Ctr sys 168 [xs l] [] (xb (R5 l)) none []:=by
 refine D1 Tryz.func168 J J J J J J ?_;refine A8 (A6 ?_);refine A5 J J J (A9 J gU) ?_;refine B0 ?_;refine A8 ?_;refine A8 (A6 ?_);refine A5 J J J (A7 J gU) ?_;refine A5 J J J (H1 J J gU gU J) ?_;refine A5 J J J (A7 J gU) ?_;refine A5 J J J (A7 J gU) ?_;refine A5 J J J (M0 J (fun hh=>hh) (Tryz.underlying9)) ?_;refine A5 J J J (B6 J J (fun hh=>hh) gU J) ?_;refine A5 J J J (D9 J J gU (fun _ hi=>gP J hi)) ?_;refine A5 J J J (A7 J gU) ?_;refine A5 J J J (A7 J gU) ?_;refine A5 J J J (E3 J J (fun hh=>hh) gU Tryz.underlying9 J (by intro hh; simp at hh; exact List.length_pos_iff.2 hh.1)) ?_;refine C8 J J J J J J gU (fun hh=>gA ((fun hh=>hh) hh) (rfl)) (Kz _) J ?_;refine A5 J J J (F2 J (fun hh=>hh)) ?_;refine A5 J J J (D9 J J gU (fun _ hi=>gP J hi)) ?_;refine A5 J J J (A7 J gU) ?_;refine A5 J J J (A7 J gU) ?_;refine A5 J J J (E3 J J (fun hh=>hh) gU Tryz.underlying9 J (by intro hh; simp at hh; exact List.length_pos_iff.2 hh.1.1)) ?_;refine A5 J J J (B6 J J (fun hh=>hh) gU J) ?_;refine A5 J J J (A7 J (fun hh=>hh)) ?_
 refine A5 J J J (A7 J gU) ?_;refine A5 J J J (E3 J J (fun hh=>hh) gU Tryz.underlying9 J (by intro hh; simp at hh; exact List.length_pos_iff.2 hh.1.1.1)) ?_;refine A5 J J J (B6 J J (fun hh=>hh) gU J) ?_;refine A5 J J J (E4 J J (fun hh=>hh) (fun hh hi=>gP hh hi)) ?_;refine A5 J J J (D9 J J gU (fun _ hi=>gP J hi)) ?_;refine A5 J J J (A7 J gU) ?_;refine A5 J J J (A7 J gU) ?_;refine A5 J J J (E3 J J (fun hh=>hh) gU Tryz.underlying9 J (by intro hh; simp at hh; exact List.length_pos_iff.2 hh.1.1.1)) ?_;refine A5 J J J (B6 J J (fun hh=>hh) gU J) ?_;refine A5 J J J (D9 J J gU (fun _ hi=>gP J hi)) ?_;refine A5 J J J (A7 J gU) ?_;refine A5 J J J (A7 J gU) ?_;refine A5 J J J (E3 J J (fun hh=>hh) gU Tryz.underlying9 J (by intro hh; simp at hh; exact List.length_pos_iff.2 hh.1.1.1.1)) ?_;refine A5 J J J (B6 J J (fun hh=>hh) gU J) ?_;refine A5 J J J (D9 J J gU (fun _ hi=>gP J hi)) ?_;refine B0 ?_;refine B5 (s:=⟨[(0,_,_),(36,_,_)],[],[],[]⟩) (B3 (⟨U J,U J,O⟩) O O) ?_;refine B8 J (fun hc=>?_) (fun hc=>?_)
 ·refine A8 (A6 ?_)
  refine A5 J J J (A9 J gU) ?_;refine B0 ?_;refine C1 ?_
  repeat(first|refine tR ?_|refine bR ?_)
  refine C5 J ?_ O;refine N0 ?_
  simp only [Bool.or_eq_true,Bool.not_eq_true',decide_eq_true_eq,Bool.and_eq_true,beq_iff_eq] at hc
  rcases hc with ((((hc | hc) | hc) | hc) | hc) | hc
  ·subst hc; rfl
  ·have : ¬ l.length≤24:=by omega
   simp [R5,this]
  ·simp only [R5,Cm _ (.inl hc),Bool.and_false,Bool.false_and]
  ·simp only [R5,Cm _ (.inr (.inl hc)),Bool.and_false,Bool.false_and]
  ·simp only [R5,Cm _ (.inr (.inr (.inl hc))),Bool.and_false,Bool.false_and]
  ·simp only [R5,Cm _ (.inr (.inr (.inr hc))),Bool.and_false,Bool.false_and]
 ·simp only [Bool.or_eq_false_iff,Bool.not_eq_false',decide_eq_false_iff_not,beq_eq_false_iff_ne] at hc
  obtain ⟨⟨⟨⟨⟨hc1,hc2⟩,hc3⟩,hc4⟩,hc5⟩,hc6⟩:=hc
  have hlet:=Sn _ hc3 (by rintro ⟨q1,q2⟩; rw[decide_eq_true q1,decide_eq_true q2] at hc4; simp at hc4) hc5 hc6
  refine C0 ?_;refine A8 ?_;refine A8 (A6 ?_);refine A5 J J J (A7 J gU) ?_;refine L8 J J J J J gU (Tryz.underlying9) ?_ (fun hh=>by simp at hh); intro hlen;refine A5 J J J (A7 J gU) ?_;refine B0 ?_;refine C4 ?_;refine P5 (uAk l) (fun k=>k≤l.length ∧ ∀ j,j < k→M4 ((l.getD j 0).toNat : Int)=true) (fun k=>l.length - k) 0 ⟨Nat.zero_le _,fun j h=>by omega⟩ ?_ ?_
  ·refine B3 ⟨⟨_,rfl,rfl⟩,⟨_,rfl,rfl⟩,⟨_,rfl,rfl⟩,O⟩ O O
  ·rintro k ⟨hk,hall⟩
   refine A8 (A6 ?_);refine A5 J J J (B6 J J gU gU J) ?_;refine B0 ?_;refine A8 ?_;refine B8 J (fun hc2=>?_) (fun hc2=>?_)
   ·have hlt : k < l.length:=by simpa using hc2
    refine C0 ?_;refine A8 ?_;refine C4 ?_;refine A8 (A6 ?_);refine A5 J J J (A7 J gU) ?_;refine A5 J J J (A9 J gU) ?_;refine B0 ?_;refine A8 (A6 ?_);refine A5 J J J (A7 J gU) ?_;refine A5 J J J (A7 J gU) ?_;refine A5 J J J (E3 J J gU gU Tryz.underlying9 J (fun _=>hlt)) ?_;refine C8 J J J J J J gU gU (Kz _) J ?_;refine A5 J J J (F2 J gU) ?_;refine B0 ?_;refine B5 (s:=⟨[(0,_,_),(38,_,_),(39,_,_),(46,_,_)],[],[],[]⟩) (B3 (⟨U J,U J,U J,U J,O⟩) O O) ?_;refine B8 J (fun hc3=>?_) (fun hc3=>?_)
    ·refine A8 (A6 ?_)
     refine A5 J J J (A9 J gU) ?_;refine B0 ?_;refine C1 ?_
     repeat(first|refine tR ?_|refine bR ?_)
     refine C5 J ?_ O;refine N0 ?_
     have : (l.all fun b=>M4 (b.toNat : Int))=false:=Ov hlt (by simpa using hc3)
     simp [R5,this]
    ·refine C0 ?_
     refine A6 ?_;refine A5 J J J (D0 J J gU gU J (IntWalk.i64_in _ (by omega))) ?_;refine A5 J J J (A7 J gU) ?_;refine B0 ?_;refine ⟨k + 1,⟨by omega,?_⟩,by omega,?_⟩
     ·intro j hj
      rcases Nat.lt_or_ge j k with h | h
      ·exact hall j h
      ·have : j=k:=by omega
       subst this
       simpa using hc3
     ·refine B3 ⟨⟨_,rfl,rfl⟩,⟨_,rfl,rfl⟩,⟨_,rfl,rfl⟩,O⟩ O O
   ·refine E1 ?_
    repeat(first|refine D3 ?_|refine D4 ?_|refine D2 J ?_)
    refine A8 (A6 ?_);refine A5 J J J (A9 J gU) ?_;refine B0 ?_;refine C1 ?_
    repeat(first|refine tR ?_|refine bR ?_)
    refine C5 J ?_ O;refine N0 ?_
    have hk' : k=l.length:=by simp at hc2; omega
    subst hk'
    have := uBn (p := fun b=>M4 (b.toNat : Int)) hall
    have hne : l.length≠0 := by intro h; have := List.eq_nil_of_length_eq_zero h; simp [this] at hc1
    have h24 : l.length≤24:=by omega
    simp only [R5,this,hlet]
    rw[decide_eq_true hne,decide_eq_true h24]
    rfl
theorem Ws (t : T) : Ctr sys 148 [xm t] [] (xi (M8 t)) none []:=by
 refine D1 Tryz.func148 J J J J J J ?_;refine A8 (A6 ?_);refine C3 J (E2 J J J J) ?_;refine A5 J J J (A9 J gU) ?_;refine B0 ?_;refine A8 (A6 ?_);refine A5 J J J (B1 J gU J J) ?_;refine A5 J J J (B2 J gU J J J J) ?_;refine A5 J J J (B6 J J gU gU J) ?_;refine A5 J J J (A7 J gU) ?_;refine A5 J J J (B1 J gU J J) ?_;refine A5 J J J (B2 J (fun hh=>hh) J J J J) ?_;refine A5 J J J (B6 J J (fun hh=>hh) gU J) ?_;refine A5 J J J (D9 J J gU (fun _ hi=>gP J hi)) ?_;refine A5 J J J (A9 J gU) ?_;refine B0 ?_;refine B5 (s:=⟨[(1,_,_),(3,_,_)],[(.l 1,_)],[],[]⟩) (B3 (⟨U J,U J,O⟩) (⟨U J,O⟩) O) ?_;refine A8 ?_;refine A8 (A6 ?_);refine A5 J J J (A7 J gU) ?_;refine A5 J J J (F2 J gU) ?_;refine A5 J J J (A7 J gU) ?_;refine A5 J J J (B1 J gU J J) ?_;refine A5 J J J (B2 J (fun hh=>hh) J J J J) ?_;refine A5 J J J (B6 J J (fun hh=>hh) gU J) ?_;refine A5 J J J (E4 J J gU (fun _ hi=>gP J hi)) ?_;refine A5 J J J (A7 J gU) ?_
 refine A5 J J J (B1 J gU J J) ?_;refine A5 J J J (B2 J (fun hh=>hh) J J J J) ?_;refine A5 J J J (B6 J J (fun hh=>hh) gU J) ?_;refine A5 J J J (D9 J J gU (fun _ hi=>gP J hi)) ?_;refine A5 J J J (A7 J gU) ?_;refine A5 J J J (B1 J gU J J) ?_;refine A5 J J J (B2 J (fun hh=>hh) J J J J) ?_;refine A5 J J J (B6 J J (fun hh=>hh) gU J) ?_;refine A5 J J J (D9 J J gU (fun _ hi=>gP J hi)) ?_;refine A5 J J J (A7 J gU) ?_;refine A5 J J J (A7 J gU) ?_;refine A5 J J J (F2 J (fun hh=>hh)) ?_;refine A5 J J J (A7 J (fun hh=>hh)) ?_;refine A5 J J J (B1 J gU J J) ?_;refine A5 J J J (B2 J (fun hh=>hh) J J J J) ?_;refine A5 J J J (B6 J J (fun hh=>hh) gU J) ?_;refine A5 J J J (E4 J J (fun hh=>hh) (fun hh hi=>gP hh hi)) ?_;refine A5 J J J (D9 J J gU (fun _ hi=>gP J hi)) ?_;refine A5 J J J (A7 J gU) ?_;refine A5 J J J (A7 J gU) ?_;refine A5 J J J (A7 J (fun hh=>hh)) ?_;refine A5 J J J (B1 J gU J J) ?_;refine A5 J J J (B2 J (fun hh=>hh) J J J J) ?_
 refine A5 J J J (G7 J (fun hh=>hh) J J) ?_;refine A5 J J J (B6 J J (fun hh=>hh) gU J) ?_;refine A5 J J J (E4 J J (fun hh=>hh) (fun hh hi=>gP hh hi)) ?_;refine A5 J J J (D9 J J gU (fun _ hi=>gP J hi)) ?_;refine B0 ?_;refine B5 (s:=⟨[(1,_,_),(46,_,_)],[(.l 1,_)],[],[]⟩) (B3 (⟨U J,U J,O⟩) (⟨U J,O⟩) O) ?_;refine B8 J (fun hc=>?_) (fun hc=>?_)
 ·refine A8 (A6 ?_)
  refine A5 J J J (A9 J gU) ?_;refine B0 ?_;refine C1 ?_
  repeat(first|refine tR ?_|refine bR ?_)
  refine C5 J ?_ O;refine G8 ?_
  rw[M8,if_neg]
  simp only [Bool.or_eq_true,Bool.and_eq_true,Bool.not_eq_true',Bool.or_eq_false_iff,decide_eq_true_eq,bne_iff_ne,ne_eq,beq_iff_eq,beq_eq_false_iff_ne,T.rows_len] at hc
  rintro (⟨h1,h2,h3,h4⟩ | ⟨h1,h2⟩) <;> omega
 ·have hok : (t.kind=1∨t.kind=2)∧0≤t.sort∧t.sort≤5∧t.kids.length=0∨t.kind=3∧t.sort=0:=by
   simp only [Bool.or_eq_false_iff,Bool.and_eq_false_iff,Bool.not_eq_false',Bool.or_eq_true,decide_eq_false_iff_not,bne_eq_false_iff_eq,beq_iff_eq,beq_eq_false_iff_ne,ne_eq,T.rows_len] at hc
   omega
  refine C0 ?_;refine A8 ?_;refine A8 (A6 ?_);refine A5 J J J (B1 J gU J J) ?_;refine A5 J J J (B2 J gU J J J J) ?_;refine C8 J J J J J J gU gU (Fv _) J ?_;refine A5 J J J (F2 J gU) ?_;refine B0 ?_;refine B8 J (fun hc2=>?_) (fun hc2=>?_)
  ·refine A8 (A6 ?_)
   refine A5 J J J (A9 J gU) ?_;refine B0 ?_;refine C1 ?_
   repeat(first|refine tR ?_|refine bR ?_)
   refine C5 J ?_ O;refine G8 ?_
   simp only [Bool.not_eq_true'] at hc2
   rw[M8,if_pos hok,if_neg (by rw[hc2]; simp)]
  ·simp only [Bool.not_eq_false'] at hc2
   refine C0 ?_;refine A8 ?_;refine A8 (A6 ?_);refine A5 J J J (B1 J gU J J) ?_;refine A5 J J J (B2 J gU J J J J) ?_;refine E0 J J J J J gU J J ?_ (fun hh=>by simp at hh); intro hlen;refine A5 J J J (B6 J J gU gU J) ?_;refine B0 ?_;refine B5 (s:=⟨[(54,_,_)],[],[],[]⟩) (B3 (⟨U J,O⟩) O O) ?_;refine B8 J (fun hc3=>?_) (fun hc3=>?_)
   ·refine A8 (A6 ?_)
    refine A5 J J J (A9 J gU) ?_;refine B0 ?_;refine C1 ?_
    repeat(first|refine tR ?_|refine bR ?_)
    refine C5 J ?_ O;refine G8 ?_
    simp only [T.rows_len,decide_eq_true_eq] at hc3
    rw[M8,if_pos hok,if_pos hc2,if_pos (by omega)]
   ·refine C0 ?_
    refine A8 (A6 ?_);refine A5 J J J (A9 J gU) ?_;refine B0 ?_;refine C1 ?_
    repeat(first|refine tR ?_|refine bR ?_)
    refine C5 J ?_ O;refine G8 ?_
    simp only [T.rows_len,decide_eq_false_iff_not] at hc3
    rw[M8,if_pos hok,if_pos hc2,if_neg (by omega)]
def uCm (t : T) (k : Nat) : St:={ t:=[(1,true, .v (.ptr (.l 1) 0)),(4,true,xi k)],bx:=[(.l 1,t.cells)],ow:=[] }
theorem Rz : ∀ (n : Nat) (t : T),t.size≤n→n≤2000000→Ctr sys 122 [xm t] [] (xi t.nodesE) none []:=by
 intro n
 induction n with
 | zero=>intro t h _; have := t.size_pos; omega
 | succ n ih =>
  intro t ht hn
  refine D1 Tryz.func122 J J J J J J ?_;refine A8 (A6 ?_);refine C3 J (E2 J J J J) ?_;refine A5 J J J (A9 J gU) ?_;refine B0 ?_;refine A8 ?_;refine A8 (A6 ?_);refine A5 J J J (B7 J gU J J J J J) ?_;refine C8 J J J J J J gU gU (Ws t) J ?_;refine A5 J J J (A9 J gU) ?_;refine B0 ?_;refine B5 (s:=⟨[(1,_,_),(3,_,_)],[(.l 1,_)],[],[]⟩) (B3 (⟨U J,U J,O⟩) (⟨U J,O⟩) O) ?_;refine A8 (A6 ?_);refine A5 J J J (A7 J gU) ?_;refine A5 J J J (B6 J J gU gU J) ?_;refine B0 ?_;refine B8 J (fun hc=>?_) (fun hc=>?_)
  ·refine A8 (A6 ?_)
   refine A5 J J J (A7 J gU) ?_;refine A5 J J J (A9 J gU) ?_;refine B0 ?_;refine C1 ?_
   repeat(first|refine tR ?_|refine bR ?_)
   refine C5 J ?_ O;refine G8 ?_
   rw[T.nodesE_eq,if_pos (by simpa using hc)]
  ·refine C0 ?_
   refine A8 ?_;refine A8 (A6 ?_);refine A5 J J J (A9 J gU) ?_;refine B0 ?_;refine C4 ?_
   have hz : M8 t=0:=by simpa using hc
   refine P5 (uCm t) (fun k=>k≤t.kids.length∧T.nodesEs (t.kids.take k)=0) (fun k=>t.kids.length - k) 0 ⟨Nat.zero_le _,by simp [T.nodesEs]⟩ ?_ ?_
   ·refine B3 ⟨⟨_,rfl,rfl⟩,⟨_,rfl,rfl⟩,O⟩ ⟨⟨_,rfl,rfl⟩,O⟩ O
   ·rintro k ⟨hk,h0⟩
    refine A8 ?_;refine A8 (A6 ?_);refine A5 J J J (A7 J gU) ?_;refine A5 J J J (B1 J gU J J) ?_;refine A5 J J J (B2 J gU J J J J) ?_;refine E0 J J J J J gU J J ?_ (fun hh=>by simp at hh); intro hlen;refine A5 J J J (B6 J J gU gU J) ?_;refine B0 ?_;refine B5 (s:=⟨[(1,_,_),(4,_,_),(15,_,_)],[(.l 1,_)],[],[]⟩) (B3 (⟨U J,U J,U J,O⟩) (⟨U J,O⟩) O) ?_;refine B8 J (fun hc2=>?_) (fun hc2=>?_)
    ·rw[T.rows_len] at hlen hc2
     have hlt : k < t.kids.length:=by simpa using hc2
     obtain ⟨x,hx⟩ : ∃ x,t.kids[k]? = some x:=⟨_,List.getElem?_eq_getElem hlt⟩
     have h3:=T.size_kid hx
     refine C0 ?_;refine A8 ?_;refine C4 ?_;refine A8 (A6 ?_);refine A5 J J J (B1 J gU J J) ?_;refine A5 J J J (B2 J gU J J J J) ?_;refine A5 J J J (A7 J gU) ?_;refine A5 J J J (C7 J J gU gU J J J (fun _=>T.rows_get hx)) ?_;refine A5 J J J (D6 J gU J J J J) ?_;refine C8 J J J J J J gU gU (ih x (by omega) (by omega)) J ?_;refine A5 J J J (A9 J gU) ?_;refine B0 ?_;refine B5 (s:=⟨[(1,_,_),(4,_,_),(5,_,_)],[(.l 1,_)],[],[]⟩) (B3 (⟨U J,U J,U J,O⟩) (⟨U J,O⟩) O) ?_;refine A8 (A6 ?_);refine A5 J J J (A7 J gU) ?_;refine A5 J J J (B6 J J gU gU J) ?_;refine B0 ?_;refine B8 J (fun hc3=>?_) (fun hc3=>?_)
     ·refine A8 (A6 ?_)
      refine A5 J J J (A7 J gU) ?_;refine A5 J J J (A9 J gU) ?_;refine B0 ?_;refine C1 ?_
      repeat(first|refine tR ?_|refine bR ?_)
      refine C5 J ?_ O;refine G8 ?_
      rw[T.nodesE_eq t,if_neg (by simpa using hz),T.nodesEs_hit _ _ _ hx h0 (by simpa using hc3)]
     ·refine C0 ?_
      refine A6 ?_;refine A5 J J J (A7 J gU) ?_;refine A5 J J J (D0 J J gU gU J (IntWalk.i64_in _ (by omega))) ?_;refine A5 J J J (A9 J gU) ?_;refine B0 ?_;refine ⟨k + 1,⟨by omega,T.nodesEs_step _ _ _ hx h0 (by simpa using hc3)⟩,by omega,?_⟩;refine B3 ⟨⟨_,rfl,rfl⟩,⟨_,rfl,rfl⟩,O⟩ ⟨⟨_,rfl,rfl⟩,O⟩ O
    ·refine E1 ?_
     repeat(first|refine D3 ?_|refine D4 ?_|refine D2 J ?_)
     refine A8 (A6 ?_);refine A5 J J J (A9 J gU) ?_;refine B0 ?_;refine C1 ?_
     repeat(first|refine tR ?_|refine bR ?_)
     refine C5 J ?_ O
     rw[T.rows_len] at hc2
     have : k=t.kids.length:=by simp at hc2; omega
     subst this
     rw[List.take_length] at h0
     refine G8 ?_
     rw[T.nodesE_eq t,if_neg (by simpa using hz),h0]
def uCi (t : T) (k : Nat) : St:={ t:=[(1,true, .v (.ptr (.l 1) 0)),(3,true,xi (T.depths (t.kids.take k))),(4,true,xi k)],bx:=[(.l 1,t.cells)],ow:=[] }
theorem Sc : ∀ (n : Nat) (t : T),t.size≤n→n≤2000000→Ctr sys 123 [xm t] [] (xi t.depth) none []:=by
 intro n
 induction n with
 | zero=>intro t h _; have := t.size_pos; omega
 | succ n ih =>
  intro t ht hn
  refine D1 Tryz.func123 J J J J J J ?_;refine A8 (A6 ?_);refine C3 J (E2 J J J J) ?_;refine A5 J J J (A9 J gU) ?_;refine B0 ?_;refine A8 (A6 ?_);refine A5 J J J (A9 J gU) ?_;refine B0 ?_;refine A8 ?_;refine A8 (A6 ?_);refine A5 J J J (A9 J gU) ?_;refine B0 ?_;refine C4 ?_;refine P5 (uCi t) (fun k=>k≤t.kids.length) (fun k=>t.kids.length - k) 0 (Nat.zero_le _) ?_ ?_
  ·refine B3 ⟨⟨_,rfl,rfl⟩,⟨_,rfl,rfl⟩,⟨_,rfl,rfl⟩,O⟩ ⟨⟨_,rfl,rfl⟩,O⟩ O
  ·intro k hk
   have hd1:=T.depths_take_le t.kids k
   have hd2:=t.depth_le
   have hd3:=t.depth_eq
   refine A8 ?_;refine A8 (A6 ?_);refine A5 J J J (A7 J gU) ?_;refine A5 J J J (B1 J gU J J) ?_;refine A5 J J J (B2 J gU J J J J) ?_;refine E0 J J J J J gU J J ?_ (fun hh=>by simp at hh); intro hlen;refine A5 J J J (B6 J J gU gU J) ?_;refine B0 ?_;refine B5 (s:=⟨[(1,_,_),(3,_,_),(4,_,_),(9,_,_)],[(.l 1,_)],[],[]⟩) (B3 (⟨U J,U J,U J,U J,O⟩) (⟨U J,O⟩) O) ?_;refine B8 J (fun hc=>?_) (fun hc=>?_)
   ·rw[T.rows_len] at hlen hc
    have hlt : k < t.kids.length:=by simpa using hc
    obtain ⟨x,hx⟩ : ∃ x,t.kids[k]? = some x:=⟨_,List.getElem?_eq_getElem hlt⟩
    have h1:=T.depths_take _ _ _ hx
    have h3:=T.size_kid hx
    refine C0 ?_;refine A8 ?_;refine C4 ?_;refine A6 ?_;refine A5 J J J (A7 J gU) ?_;refine A5 J J J (B1 J gU J J) ?_;refine A5 J J J (B2 J gU J J J J) ?_;refine A5 J J J (A7 J gU) ?_;refine A5 J J J (C7 J J gU gU J J J (fun _=>T.rows_get hx)) ?_;refine A5 J J J (D6 J gU J J J J) ?_;refine C8 J J J J J J gU gU (ih x (by omega) (by omega)) J ?_;refine A5 J J J (Pq J J gU gU) ?_;refine A5 J J J (A9 J gU) ?_;refine B0 ?_;refine B5 (s:=⟨[(1,_,_),(3,_,_),(4,_,_)],[(.l 1,_)],[],[]⟩) (B3 (⟨U J,U J,U J,O⟩) (⟨U J,O⟩) O) ?_;refine A6 ?_;refine A5 J J J (A7 J gU) ?_;refine A5 J J J (D0 J J gU gU J (IntWalk.i64_in _ (by omega))) ?_;refine A5 J J J (A9 J gU) ?_;refine B0 ?_;refine ⟨k + 1,by omega,by omega,?_⟩;refine B3 ⟨⟨_,rfl,rfl⟩,⟨_,rfl,?_⟩,⟨_,rfl,rfl⟩,O⟩ ⟨⟨_,rfl,rfl⟩,O⟩ O
    rw[h1]; simp; omega
   ·refine E1 ?_
    repeat(first|refine D3 ?_|refine D4 ?_|refine D2 J ?_)
    refine A8 (A6 ?_);refine A5 J J J (A7 J gU) ?_;refine A5 J J J (D0 J J gU gU J (IntWalk.i64_in _ (by omega))) ?_;refine A5 J J J (A9 J gU) ?_;refine B0 ?_;refine C1 ?_
    repeat(first|refine tR ?_|refine bR ?_)
    refine C5 J ?_ O
    rw[T.rows_len] at hc
    have : k=t.kids.length:=by simp at hc; omega
    subst this
    refine G8 ?_
    rw[List.take_length,t.depth_eq]
    simp
theorem Tb (t : T) (h : t.size≤2000000) : Ctr sys 96 [xm t] [] (xi (V6 t)) none []:=by
 refine D1 Tryz.func96 J J J J J J ?_;refine A8 (A6 ?_);refine C3 J (E2 J J J J) ?_;refine A5 J J J (A9 J gU) ?_;refine B0 ?_;refine A8 ?_;refine A8 (A6 ?_);refine A5 J J J (B7 J gU J J J J J) ?_;refine C8 J J J J J J gU gU (Rz _ t (Nat.le_refl _) h) J ?_;refine A5 J J J (A9 J gU) ?_;refine B0 ?_;refine B5 (s:=⟨[(1,_,_),(3,_,_)],[(.l 1,_)],[],[]⟩) (B3 (⟨U J,U J,O⟩) (⟨U J,O⟩) O) ?_;refine A8 (A6 ?_);refine A5 J J J (A7 J gU) ?_;refine A5 J J J (B6 J J gU gU J) ?_;refine B0 ?_;refine B8 J (fun hc=>?_) (fun hc=>?_)
 ·refine A8 (A6 ?_)
  refine A5 J J J (A7 J gU) ?_;refine A5 J J J (A9 J gU) ?_;refine B0 ?_;refine C1 ?_
  repeat(first|refine tR ?_|refine bR ?_)
  refine C5 J ?_ O;refine G8 ?_
  rw[V6,if_pos (by simpa using hc)]
 ·refine C0 ?_
  refine A8 ?_;refine A8 (A6 ?_);refine A5 J J J (B7 J gU J J J J J) ?_;refine C8 J J J J J J gU gU (Cn _ t (Nat.le_refl _) h) J ?_;refine A5 J J J (B6 J J gU gU J) ?_;refine A5 J J J (A7 J gU) ?_;refine A5 J J J (B7 J gU J J J J J) ?_;refine C8 J J J J J J gU (fun hh=>gA ((fun hh=>hh) hh) (rfl)) (Sc _ t (Nat.le_refl _) h) J ?_;refine A5 J J J (B6 J J (fun hh=>hh) gU J) ?_;refine A5 J J J (D9 J J gU (fun _ hi=>gP J hi)) ?_;refine B0 ?_;refine B5 (s:=⟨[(16,_,_)],[],[],[]⟩) (B3 (⟨U J,O⟩) O O) ?_
  have hz : t.nodesE=0:=by simpa using hc
  refine B8 J (fun hc2=>?_) (fun hc2=>?_)
  ·refine A8 (A6 ?_)
   refine A5 J J J (A9 J gU) ?_;refine B0 ?_;refine C1 ?_
   repeat(first|refine tR ?_|refine bR ?_)
   refine C5 J ?_ O;refine G8 ?_
   simp only [Bool.or_eq_true,decide_eq_true_eq] at hc2
   rw[V6,if_neg (by simpa using hz),if_pos (by omega)]
  ·refine C0 ?_
   refine A8 (A6 ?_);refine A5 J J J (A9 J gU) ?_;refine B0 ?_;refine C1 ?_
   repeat(first|refine tR ?_|refine bR ?_)
   refine C5 J ?_ O;refine G8 ?_
   simp only [Bool.or_eq_false_iff,decide_eq_false_iff_not] at hc2
   rw[V6,if_neg (by simpa using hz),if_neg (by omega)]
def uCl (t : T) (lv n d : Int) : St:={ t:=[(1,true,xi lv),(2,true, .v (.ptr (.o 0) 0)),(3,true, .v (.ptr (.o 1) 0)),(4,true, .v (.ptr (.l 4) 0))],bx:=[(.l 4,t.cells),(.o 0,[.i .i64 (n + 1)]),(.o 1,[.i .i64 (max d lv)])],ow:=[] }
def uCo (t : T) (lv n d : Int) (k : Nat) : St:={ t:=[(1,true,xi lv),(2,true, .v (.ptr (.o 0) 0)),(3,true, .v (.ptr (.o 1) 0)),(57,true,xl t.kids),(58,true,xi t.kids.length),(59,true,xi k)],bx:=[(.o 0,[.i .i64 (T.chks (t.kids.take k) (lv + 1) (n + 1) (max d lv)).n]),(.o 1,[.i .i64 (T.chks (t.kids.take k) (lv + 1) (n + 1) (max d lv)).d])],ow:=[] }
theorem Si : ∀ (b : Nat) (t : T) (lv n d : Int),t.size≤b→b≤2000000→0≤n→n + t.size≤2000000→0≤lv→lv + t.size≤2000000 →
  Ctr sys 158 [xm t,xi lv, .v (.ptr (.o 0) 0), .v (.ptr (.o 1) 0)] [[.i .i64 n],[.i .i64 d]] (xi t.nodesE) none [[.i .i64 (t.chk lv n d).n],[.i .i64 (t.chk lv n d).d]]:=by
 intro b
 induction b with
 | zero=>intro t _ _ _ h; have := t.size_pos; omega
 | succ b ih =>
  intro t lv n d ht hb hn hn2 hl hl2
  have hsz:=t.size_pos
  have hbad : M8 t≠0→t.nodesE=M8 t∧t.chk lv n d=⟨M8 t,n + 1,max d lv⟩:=fun h=>⟨by rw[T.nodesE_eq,if_pos h],by rw[T.chk_eq,if_pos h]⟩
  refine D1 Tryz.func158 J J J J J J ?_;refine A8 (A6 ?_);refine C3 J (E2 J J J J) ?_;refine A5 J J J (A9 J gU) ?_;refine B0 ?_;refine A8 (A6 ?_);refine A5 J J J (A7 J gU) ?_;refine A5 J J J (K7 J gU) ?_;refine A5 J J J (B2 J gU J J J J) ?_;refine A5 J J J (D0 J J gU gU J (IntWalk.i64_in _ (by omega))) ?_;refine A5 J J J (K7 J gU) ?_;refine C3 J (C9 J J J J J J J) ?_;refine B0 ?_;refine B5 (s:=⟨[(1,_,_),(2,_,_),(3,_,_),(4,_,_)],[(.l 4,_),(.o 0,_),(.o 1,_)],[],[]⟩) (B3 (⟨U J,U J,U J,U J,O⟩) (⟨U J,U J,U J,O⟩) O) ?_;refine A8 (A6 ?_);refine A5 J J J (A7 J gU) ?_;refine A5 J J J (A7 J gU) ?_;refine A5 J J J (K7 J gU) ?_;refine A5 J J J (B2 J gU J J J J) ?_;refine A5 J J J (A7 J gU) ?_;refine A5 J J J (Pq J J gU gU) ?_;refine A5 J J J (K7 J gU) ?_;refine C3 J (C9 J J J J J J J) ?_;refine B0 ?_;refine B5 (s:=⟨[(1,_,_),(2,_,_),(3,_,_),(4,_,_)],[(.l 4,_),(.o 0,_),(.o 1,_)],[],[]⟩) (B3 (⟨U J,U J,U J,U J,O⟩) (⟨U J,U J,U J,O⟩) O) ?_
  refine Uy (uCl t lv n d) ((t.kind=1∨t.kind=2)∧0≤t.sort∧t.sort≤5∧t.kids.length=0∨t.kind=3∧t.sort=0) ?_ (fun hj=>?_)
  ·have h1 : ∀ h : ¬ ((t.kind=1∨t.kind=2)∧0≤t.sort∧t.sort≤5∧t.kids.length=0∨t.kind=3∧t.sort=0),t.nodesE=1∧t.chk lv n d=⟨1,n + 1,max d lv⟩:=by
    intro h
    have hq : M8 t=1:=by rw[M8,if_neg h]
    have := hbad (by rw[hq]; omega)
    rw[hq] at this; exact this
   refine A8 (A6 ?_);refine A5 J J J (B1 J gU J J) ?_;refine A5 J J J (B2 J gU J J J J) ?_;refine B0 ?_;refine C4 ?_;refine A8 ?_;refine A8 (A6 ?_);refine A5 J J J (B6 J J gU gU J) ?_;refine A5 J J J (A9 J gU) ?_;refine B0 ?_;refine B8 J (fun hc=>?_) (fun hc=>?_)
   ·refine C0 ?_
    refine B8 J (fun hc2=>?_) (fun hc2=>?_)
    ·refine A8 (A6 ?_)
     refine A5 J J J (B1 J gU J J) ?_;refine A5 J J J (B2 J gU J J J J) ?_;refine A5 J J J (B6 J J gU gU J) ?_;refine A5 J J J (A7 J gU) ?_;refine A5 J J J (B1 J gU J J) ?_;refine A5 J J J (B2 J (fun hh=>hh) J J J J) ?_;refine A5 J J J (B6 J J (fun hh=>hh) gU J) ?_;refine A5 J J J (D9 J J gU (fun _ hi=>gP J hi)) ?_;refine A5 J J J (A7 J gU) ?_;refine A5 J J J (B1 J gU J J) ?_;refine A5 J J J (B2 J (fun hh=>hh) J J J J) ?_;refine A5 J J J (G7 J (fun hh=>hh) J J) ?_;refine A5 J J J (B6 J J (fun hh=>hh) gU J) ?_;refine A5 J J J (D9 J J gU (fun _ hi=>gP J hi)) ?_;refine B0 ?_;refine B5 (s:=⟨[(1,_,_),(2,_,_),(3,_,_),(4,_,_),(42,_,_)],[(.l 4,_),(.o 0,_),(.o 1,_)],[],[]⟩) (B3 (⟨U J,U J,U J,U J,U J,O⟩) (⟨U J,U J,U J,O⟩) O) ?_;refine B8 J (fun hc3=>?_) (fun hc3=>?_)
     ·refine A8 (A6 ?_)
      refine A5 J J J (A9 J gU) ?_;refine B0 ?_;refine C1 ?_
      repeat(first|refine tR ?_|refine bR ?_)
      refine C5 J ?_ (⟨⟨_,rfl,?_⟩,⟨⟨_,rfl,?_⟩,O⟩⟩)
      all_goals (
       have hno:=h1 (by
        simp only [Bool.or_eq_true,decide_eq_true_eq,decide_eq_false_iff_not,beq_iff_eq,bne_iff_ne,ne_eq,beq_eq_false_iff_ne,T.rows_len] at hc hc3
        rintro (⟨q1,q2,q3,q4⟩ | ⟨q1,q2⟩) <;> omega)
       first|exact G8 hno.1.symm|(rw[hno.2]; done)|(rw[hno.2]; rfl))
     ·refine C0 ?_
      refine ⟨.inl ?_,?_⟩
      ·simp only [Bool.or_eq_false_iff,decide_eq_false_iff_not,beq_iff_eq,T.rows_len] at hc hc3
       omega
      ·refine B3 ⟨⟨_,rfl,rfl⟩,⟨_,rfl,rfl⟩,⟨_,rfl,rfl⟩,⟨_,rfl,rfl⟩,O⟩ ⟨⟨_,rfl,rfl⟩,⟨_,rfl,rfl⟩,⟨_,rfl,rfl⟩,O⟩ O
    ·rw[hc] at hc2; simp at hc2
   ·refine A6 ?_
    refine A5 J J J (B6 J J gU gU J) ?_;refine A5 J J J (A9 J gU) ?_;refine B0 ?_;refine B5 (s:=⟨[(1,_,_),(2,_,_),(3,_,_),(4,_,_),(25,_,_),(26,_,_)],[(.l 4,_),(.o 0,_),(.o 1,_)],[],[]⟩) (B3 (⟨U J,U J,U J,U J,U J,U J,O⟩) (⟨U J,U J,U J,O⟩) O) ?_;refine B8 J (fun hc2=>?_) (fun hc2=>?_)
    ·refine A8 (A6 ?_)
     refine A5 J J J (B1 J gU J J) ?_;refine A5 J J J (B2 J gU J J J J) ?_;refine A5 J J J (B6 J J gU gU J) ?_;refine A5 J J J (A7 J gU) ?_;refine A5 J J J (B1 J gU J J) ?_;refine A5 J J J (B2 J (fun hh=>hh) J J J J) ?_;refine A5 J J J (B6 J J (fun hh=>hh) gU J) ?_;refine A5 J J J (D9 J J gU (fun _ hi=>gP J hi)) ?_;refine A5 J J J (A7 J gU) ?_;refine A5 J J J (B1 J gU J J) ?_;refine A5 J J J (B2 J (fun hh=>hh) J J J J) ?_;refine A5 J J J (G7 J (fun hh=>hh) J J) ?_;refine A5 J J J (B6 J J (fun hh=>hh) gU J) ?_;refine A5 J J J (D9 J J gU (fun _ hi=>gP J hi)) ?_;refine B0 ?_;refine B5 (s:=⟨[(1,_,_),(2,_,_),(3,_,_),(4,_,_),(42,_,_)],[(.l 4,_),(.o 0,_),(.o 1,_)],[],[]⟩) (B3 (⟨U J,U J,U J,U J,U J,O⟩) (⟨U J,U J,U J,O⟩) O) ?_;refine B8 J (fun hc3=>?_) (fun hc3=>?_)
     ·refine A8 (A6 ?_)
      refine A5 J J J (A9 J gU) ?_;refine B0 ?_;refine C1 ?_
      repeat(first|refine tR ?_|refine bR ?_)
      refine C5 J ?_ (⟨⟨_,rfl,?_⟩,⟨⟨_,rfl,?_⟩,O⟩⟩)
      all_goals (
       have hno:=h1 (by
        simp only [Bool.or_eq_true,decide_eq_true_eq,decide_eq_false_iff_not,beq_iff_eq,bne_iff_ne,ne_eq,beq_eq_false_iff_ne,T.rows_len] at hc hc2 hc3
        rintro (⟨q1,q2,q3,q4⟩ | ⟨q1,q2⟩) <;> omega)
       first|exact G8 hno.1.symm|(rw[hno.2]; done)|(rw[hno.2]; rfl))
     ·refine C0 ?_
      refine ⟨.inl ?_,?_⟩
      ·simp only [Bool.or_eq_false_iff,decide_eq_false_iff_not,beq_iff_eq,T.rows_len] at hc2 hc3
       omega
      ·refine B3 ⟨⟨_,rfl,rfl⟩,⟨_,rfl,rfl⟩,⟨_,rfl,rfl⟩,⟨_,rfl,rfl⟩,O⟩ ⟨⟨_,rfl,rfl⟩,⟨_,rfl,rfl⟩,⟨_,rfl,rfl⟩,O⟩ O
    ·refine A8 (A6 ?_)
     refine A5 J J J (B6 J J gU gU J) ?_;refine A5 J J J (A9 J gU) ?_;refine B0 ?_;refine B8 J (fun hc3=>?_) (fun hc3=>?_)
     ·refine A8 (A6 ?_)
      refine A5 J J J (B1 J gU J J) ?_;refine A5 J J J (B2 J gU J J J J) ?_;refine A5 J J J (B6 J J gU gU J) ?_;refine B0 ?_;refine B5 (s:=⟨[(1,_,_),(2,_,_),(3,_,_),(4,_,_),(47,_,_)],[(.l 4,_),(.o 0,_),(.o 1,_)],[],[]⟩) (B3 (⟨U J,U J,U J,U J,U J,O⟩) (⟨U J,U J,U J,O⟩) O) ?_;refine B8 J (fun hc4=>?_) (fun hc4=>?_)
      ·refine A8 (A6 ?_)
       refine A5 J J J (A9 J gU) ?_;refine B0 ?_;refine C1 ?_
       repeat(first|refine tR ?_|refine bR ?_)
       refine C5 J ?_ (⟨⟨_,rfl,?_⟩,⟨⟨_,rfl,?_⟩,O⟩⟩)
       all_goals (
        have hno:=h1 (by
         simp only [Bool.or_eq_true,decide_eq_true_eq,decide_eq_false_iff_not,beq_iff_eq,bne_iff_ne,ne_eq,beq_eq_false_iff_ne,T.rows_len] at hc hc2 hc3 hc4
         rintro (⟨q1,q2,q3,q4⟩ | ⟨q1,q2⟩) <;> omega)
        first|exact G8 hno.1.symm|(rw[hno.2]; done)|(rw[hno.2]; rfl))
      ·refine C0 ?_
       refine ⟨.inr ?_,?_⟩
       ·simp only [bne_eq_false_iff_eq,beq_iff_eq] at hc3 hc4
        exact ⟨hc3,hc4⟩
       ·refine B3 ⟨⟨_,rfl,rfl⟩,⟨_,rfl,rfl⟩,⟨_,rfl,rfl⟩,⟨_,rfl,rfl⟩,O⟩ ⟨⟨_,rfl,rfl⟩,⟨_,rfl,rfl⟩,⟨_,rfl,rfl⟩,O⟩ O
     ·refine A8 (A6 ?_)
      refine A5 J J J (A9 J gU) ?_;refine B0 ?_;refine C1 ?_
      repeat(first|refine tR ?_|refine bR ?_)
      refine C5 J ?_ (⟨⟨_,rfl,?_⟩,⟨⟨_,rfl,?_⟩,O⟩⟩)
      all_goals (
       have hno:=h1 (by
        simp only [Bool.or_eq_true,decide_eq_true_eq,decide_eq_false_iff_not,beq_iff_eq,bne_iff_ne,ne_eq,beq_eq_false_iff_ne,T.rows_len] at hc hc2 hc3
        rintro (⟨q1,q2,q3,q4⟩ | ⟨q1,q2⟩) <;> omega)
       first|exact G8 hno.1.symm|(rw[hno.2]; done)|(rw[hno.2]; rfl))
  ·refine A8 ?_
   refine A8 (A6 ?_);refine A5 J J J (B1 J gU J J) ?_;refine A5 J J J (B2 J gU J J J J) ?_;refine C8 J J J J J J gU gU (Mb _) J ?_;refine A5 J J J (F2 J gU) ?_;refine B0 ?_;refine B8 J (fun hc=>?_) (fun hc=>?_)
   ·refine A8 (A6 ?_)
    refine A5 J J J (A9 J gU) ?_;refine B0 ?_;refine C1 ?_
    repeat(first|refine tR ?_|refine bR ?_)
    refine C5 J ?_ (⟨⟨_,rfl,?_⟩,⟨⟨_,rfl,?_⟩,O⟩⟩)
    all_goals (
     have hq : M8 t=2:=by
      simp only [Bool.not_eq_true'] at hc
      rw[M8,if_pos hj,if_neg (by rw[hc]; simp)]
     have hno:=hbad (by rw[hq]; omega)
     rw[hq] at hno
     first|exact G8 hno.1.symm|(rw[hno.2]; done)|(rw[hno.2]; rfl))
   ·simp only [Bool.not_eq_false'] at hc
    refine C0 ?_;refine A8 ?_;refine A8 (A6 ?_);refine A5 J J J (B1 J gU J J) ?_;refine A5 J J J (B2 J gU J J J J) ?_;refine E0 J J J J J gU J J ?_ (fun hh=>by simp at hh); intro hlen;refine A5 J J J (B6 J J gU gU J) ?_;refine B0 ?_;refine B5 (s:=⟨[(1,_,_),(2,_,_),(3,_,_),(4,_,_),(55,_,_)],[(.l 4,_),(.o 0,_),(.o 1,_)],[],[]⟩) (B3 (⟨U J,U J,U J,U J,U J,O⟩) (⟨U J,U J,U J,O⟩) O) ?_;refine B8 J (fun hc2=>?_) (fun hc2=>?_)
    ·refine A8 (A6 ?_)
     refine A5 J J J (A9 J gU) ?_;refine B0 ?_;refine C1 ?_
     repeat(first|refine tR ?_|refine bR ?_)
     refine C5 J ?_ (⟨⟨_,rfl,?_⟩,⟨⟨_,rfl,?_⟩,O⟩⟩)
     all_goals (
      have hq : M8 t=3:=by
       simp only [T.rows_len,decide_eq_true_eq] at hc2
       rw[M8,if_pos hj,if_pos hc,if_pos (by omega)]
      have hno:=hbad (by rw[hq]; omega)
      rw[hq] at hno
      first|exact G8 hno.1.symm|(rw[hno.2]; done)|(rw[hno.2]; rfl))
    ·have hz : M8 t=0:=by
      simp only [T.rows_len,decide_eq_false_iff_not] at hc2
      rw[M8,if_pos hj,if_pos hc,if_neg (by omega)]
     have hchk : t.chk lv n d=T.chks t.kids (lv + 1) (n + 1) (max d lv):=by rw[T.chk_eq,if_neg (by simpa using hz)]
     have hE : t.nodesE=T.nodesEs t.kids:=by rw[T.nodesE_eq,if_neg (by simpa using hz)]
     have hsE:=t.size_eq
     refine C0 ?_;refine A8 ?_;refine A8 (A6 ?_);refine A5 J J J (B1 J gU J J) ?_;refine A5 J J J (B2 J gU J J J J) ?_;refine E0 J J J J J gU J J ?_ (fun hh=>by simp at hh); intro hlen;refine A5 J J J (A7 J gU) ?_;refine B0 ?_;refine C4 ?_
     have hlk : t.kids.length≤9223372036854775807:=by rw[T.rows_len] at hlen; exact hlen
     refine P5 (uCo t lv n d) (fun k=>k≤t.kids.length∧(T.chks (t.kids.take k) (lv + 1) (n + 1) (max d lv)).e=0) (fun k=>t.kids.length - k) 0 ⟨Nat.zero_le _,by simp [T.chks]⟩ ?_ ?_
     ·refine B3 ⟨⟨_,rfl,rfl⟩,⟨_,rfl,rfl⟩,⟨_,rfl,rfl⟩,⟨_,rfl,rfl⟩,⟨_,rfl,by rw[T.rows_len]⟩,⟨_,rfl,rfl⟩,O⟩ ⟨⟨_,rfl,by simp [T.chks]⟩,⟨_,rfl,by simp [T.chks]⟩,O⟩ O
     ·rintro k ⟨hk,h0⟩
      have hr:=T.chks_n (t.kids.take k) (lv + 1) (n + 1) (max d lv)
      have hrE:=T.chks_e (t.kids.take k) (lv + 1) (n + 1) (max d lv)
      refine A8 (A6 ?_);refine A5 J J J (B6 J J gU gU J) ?_;refine B0 ?_;refine A8 ?_;refine B8 J (fun hc3=>?_) (fun hc3=>?_)
      ·have hlt : k < t.kids.length:=by simpa using hc3
       obtain ⟨x,hx⟩ : ∃ x,t.kids[k]? = some x:=⟨_,List.getElem?_eq_getElem hlt⟩
       have q1:=T.sizes_take _ _ _ hx
       have q2:=T.sizes_take_le t.kids (k + 1)
       have q4:=x.size_pos
       refine C0 ?_;refine A8 ?_;refine C4 ?_;refine A8 (A6 ?_);refine A5 J J J (C7 J J gU gU J J J (fun _=>T.rows_get hx)) ?_;refine A5 J J J (D6 J gU J J J J) ?_;refine C3 J (D7 J J J) ?_;refine C3 J (C9 J J J J J J J) ?_;refine B0 ?_;refine A8 (A6 ?_);refine A5 J J J (B7 J gU J J J J J) ?_;refine A5 J J J (A7 J gU) ?_;refine A5 J J J (D0 J J gU gU J (IntWalk.i64_in _ (by omega))) ?_;refine A5 J J J (A7 J gU) ?_;refine A5 J J J (A7 J gU) ?_;refine Pi [⟨.o 0,0,[.i .i64 (T.chks (t.kids.take k) (lv + 1) (n + 1) (max d lv)).n],[.i .i64 (x.chk (lv + 1) (T.chks (t.kids.take k) (lv + 1) (n + 1) (max d lv)).n (T.chks (t.kids.take k) (lv + 1) (n + 1) (max d lv)).d).n]⟩,⟨.o 1,0,[.i .i64 (T.chks (t.kids.take k) (lv + 1) (n + 1) (max d lv)).d],[.i .i64 (x.chk (lv + 1) (T.chks (t.kids.take k) (lv + 1) (n + 1) (max d lv)).n (T.chks (t.kids.take k) (lv + 1) (n + 1) (max d lv)).d).d]⟩] J J J J (by rfl) (by rfl) (by intro p hp; simp only [List.mem_cons,List.not_mem_nil,or_false] at hp; first|(subst hp; rfl)|(rcases hp with hp|hp <;> subst hp <;> rfl)) (by rfl) (ih x (lv + 1) (T.chks (t.kids.take k) (lv + 1) (n + 1) (max d lv)).n (T.chks (t.kids.take k) (lv + 1) (n + 1) (max d lv)).d (by omega) (by omega) (by omega) (by omega) (by omega) (by omega)) J J J ?_
       refine A5 J J J (A9 J gU) ?_;refine B0 ?_;refine B5 (s:=⟨[(1,_,_),(2,_,_),(3,_,_),(11,_,_),(57,_,_),(58,_,_),(59,_,_)],[(.o 0,_),(.o 1,_)],[],[]⟩) (B3 (⟨U J,U J,U J,U J,U J,U J,U J,O⟩) (⟨U J,U J,O⟩) O) ?_;refine A8 (A6 ?_);refine A5 J J J (A7 J gU) ?_;refine A5 J J J (B6 J J gU gU J) ?_;refine B0 ?_;refine B8 J (fun hc4=>?_) (fun hc4=>?_)
       ·refine A8 (A6 ?_)
        refine A5 J J J (A7 J gU) ?_;refine A5 J J J (A9 J gU) ?_;refine B0 ?_;refine C1 ?_
        repeat(first|refine tR ?_|refine bR ?_)
        refine C5 J ?_ (⟨⟨_,rfl,?_⟩,⟨⟨_,rfl,?_⟩,O⟩⟩)
        ·have := T.chks_hit (lv := lv + 1) (n := n + 1) (d := max d lv) hx h0 (by simpa using hc4)
         refine G8 ?_
         rw[hE,← T.chks_e t.kids (lv + 1) (n + 1) (max d lv),this,T.chk_e]
        ·have := T.chks_hit (lv := lv + 1) (n := n + 1) (d := max d lv) hx h0 (by simpa using hc4)
         rw[hchk,this]; rfl
        ·have := T.chks_hit (lv := lv + 1) (n := n + 1) (d := max d lv) hx h0 (by simpa using hc4)
         rw[hchk,this]; rfl
       ·have hx0 : x.nodesE=0:=by simpa using hc4
        have hst:=T.chks_step (lv:=lv + 1) (n:=n + 1) (d:=max d lv) hx h0 hx0
        refine C0 ?_;refine A6 ?_;refine A5 J J J (D0 J J gU gU J (IntWalk.i64_in _ (by omega))) ?_;refine A5 J J J (A7 J gU) ?_;refine B0 ?_;refine ⟨k + 1,⟨by omega,by rw[hst,T.chk_e,hx0]⟩,by omega,?_⟩;refine B3 ⟨⟨_,rfl,rfl⟩,⟨_,rfl,rfl⟩,⟨_,rfl,rfl⟩,⟨_,rfl,rfl⟩,⟨_,rfl,rfl⟩,⟨_,rfl,rfl⟩,O⟩ ⟨⟨_,rfl,by rw[hst]; rfl⟩,⟨_,rfl,by rw[hst]; rfl⟩,O⟩ O
      ·have hk' : k=t.kids.length:=by simp at hc3; omega
       subst hk'
       rw[List.take_length] at h0
       refine E1 ?_
       repeat(first|refine D3 ?_|refine D4 ?_|refine D2 J ?_)
       refine A8 (A6 ?_);refine A5 J J J (A9 J gU) ?_;refine B0 ?_;refine C1 ?_
       repeat(first|refine tR ?_|refine bR ?_)
       refine C5 J ?_ (⟨⟨_,rfl,?_⟩,⟨⟨_,rfl,?_⟩,O⟩⟩)
       ·refine G8 ?_
        rw[hE,← T.chks_e t.kids (lv + 1) (n + 1) (max d lv),h0]
       ·rw[hchk,List.take_length]
       ·rw[hchk,List.take_length]
theorem Pn (t : T) (h : t.size≤900000) : Ctr sys 139 [xm t] [] (xi (V6 t)) none []:=by
 have q1:=T.chk_n t 1 0 0
 have q2:=T.chk_d t 1 0 0
 have q3:=t.depth_eq
 refine D1 Tryz.func139 J J J J J J ?_;refine A8 (A6 ?_);refine C3 J (E2 J J J J) ?_;refine A5 J J J (A9 J gU) ?_;refine B0 ?_;refine A8 (A6 ?_);refine C3 J (D7 J J J) ?_;refine C3 J (D7 J J J) ?_;refine C3 J (C9 J J J J J J J) ?_;refine C3 J (C9 J J J J J J J) ?_;refine B0 ?_;refine A8 ?_;refine A8 (A6 ?_);refine A5 J J J (B7 J gU J J J J J) ?_;refine Pi [⟨.l 3,0,[.i .i64 0],[.i .i64 (t.chk 1 0 0).n]⟩,⟨.l 4,0,[.i .i64 0],[.i .i64 (t.chk 1 0 0).d]⟩] J J J J (by rfl) (by rfl) (by intro p hp; simp only [List.mem_cons,List.not_mem_nil,or_false] at hp; first|(subst hp; rfl)|(rcases hp with hp|hp <;> subst hp <;> rfl)) (by rfl) (Si _ t 1 0 0 (Nat.le_refl _) (by omega) (by omega) (by omega) (by omega) (by omega)) J J J ?_;refine A5 J J J (A9 J gU) ?_;refine B0 ?_;refine B5 (s:=⟨[(3,_,_),(4,_,_),(5,_,_)],[(.l 3,_),(.l 4,_)],[],[]⟩) (B3 (⟨U J,U J,U J,O⟩) (⟨U J,U J,O⟩) O) ?_;refine A8 (A6 ?_);refine A5 J J J (A7 J gU) ?_;refine A5 J J J (B6 J J gU gU J) ?_;refine B0 ?_;refine B8 J (fun hc=>?_) (fun hc=>?_)
 ·refine A8 (A6 ?_)
  refine A5 J J J (A7 J gU) ?_;refine A5 J J J (A9 J gU) ?_;refine B0 ?_;refine C1 ?_
  repeat(first|refine tR ?_|refine bR ?_)
  refine C5 J ?_ O;refine G8 ?_
  rw[V6,if_pos (by simpa using hc)]
 ·have hz : t.nodesE=0:=by simpa using hc
  have q4:=q1.2.2 hz
  have q5:=q2 hz
  refine C0 ?_;refine A8 ?_;refine A8 (A6 ?_);refine A5 J J J (B2 J gU J J J J) ?_;refine A5 J J J (B6 J J gU gU J) ?_;refine A5 J J J (A7 J gU) ?_;refine A5 J J J (B2 J gU J J J J) ?_;refine A5 J J J (B6 J J (fun hh=>hh) gU J) ?_;refine A5 J J J (D9 J J gU (fun _ hi=>gP J hi)) ?_;refine B0 ?_;refine B5 (s:=⟨[(16,_,_)],[],[],[]⟩) (B3 (⟨U J,O⟩) O O) ?_;refine B8 J (fun hc2=>?_) (fun hc2=>?_)
  ·refine A8 (A6 ?_)
   refine A5 J J J (A9 J gU) ?_;refine B0 ?_;refine C1 ?_
   repeat(first|refine tR ?_|refine bR ?_)
   refine C5 J ?_ O;refine G8 ?_
   simp only [Bool.or_eq_true,decide_eq_true_eq] at hc2
   rw[V6,if_neg (by simpa using hz),if_pos (by omega)]
  ·refine C0 ?_
   refine A8 (A6 ?_);refine A5 J J J (A9 J gU) ?_;refine B0 ?_;refine C1 ?_
   repeat(first|refine tR ?_|refine bR ?_)
   refine C5 J ?_ O;refine G8 ?_
   simp only [Bool.or_eq_false_iff,decide_eq_false_iff_not] at hc2
   rw[V6,if_neg (by simpa using hz),if_neg (by omega)]
def errs {α : Type} (f : α→Int) : List α→Int
 | []=>0
 | x :: r=>if f x≠0 then f x else errs f r
theorem errs_zero {α : Type} {f : α→Int} : ∀ {l : List α},errs f l=0 ↔ ∀ x ∈ l,f x=0
 | []=>by simp [errs]
 | x :: r=>by
  rw[errs]
  split
  ·rename_i h; simp [h]
  ·rename_i h; rw[errs_zero (l:=r)]; simp at h ⊢; exact fun _=>h
theorem Dr {α : Type} {f g : α→Int} : ∀ {l : List α},(∀ x ∈ l,f x=g x)→errs f l=errs g l
 | [],_=>rfl
 | x :: r,h=>by rw[errs,errs,h x (by simp),Dr fun y hy=>h y (by simp [hy])]
abbrev NmB:=List UInt8→Bool
mutual
def rawE (nm : NmB) : T→Int
 | .mk k n s ks=>if k=1∨s≠0 then 10 else if nm n=false then 2 else Cu nm ks
def Cu (nm : NmB) : List T→Int
 | []=>0
 | t :: ts=>if rawE nm t≠0 then rawE nm t else Cu nm ts
end
theorem Vr (nm : NmB) (t : T) : rawE nm t=if t.kind=1∨t.sort≠0 then 10 else if nm t.name=false then 2 else Cu nm t.kids:=by cases t; rw[rawE]; rfl
theorem Dk (nm : NmB) : ∀ ts : List T,Cu nm ts=errs (rawE nm) ts
 | []=>by rw[Cu]; rfl
 | t :: ts=>by rw[Cu,Dk nm ts]; rfl
def Aj (nm : NmB) (t : T) : Int:=if V6 t≠0 then V6 t else rawE nm t
def msgE (nm : NmB) (t : T) : Int:=if Aj nm t≠0 then Aj nm t else if 40 < t.size then 3 else 0
def O2 (nm : NmB) (g : Gl) : Int:=if g.kind < 1∨5 < g.kind then 10 else if nm g.role=false∨(I4 g.kind=true∧nm g.wth=false) then 2 else if I4 g.kind=false∧g.wth≠[] then 1
 else if (I4 g.kind=true∧(g.data.length < 1∨4 < g.data.length))∨(I4 g.kind=false∧g.data.length≠1) then 6 else errs (msgE nm) g.data
def frE (nm : NmB) (f : Fs) : Int:=if nm f.role=false∨nm f.name=false then 2 else if f.sort < 2∨4 < f.sort then 10 else 0
def cntE (n : Nar) : Int:=if n.roles.length < 2 then 8 else if 4 < n.roles.length∨12 < n.fresh.length∨8 < n.tags.length then 3 else if n.steps.length=0 then 8 else if 8 < n.steps.length∨8 < n.goals.length then 3 else 0
def Ag (nm : NmB) (n : Nar) : Int:=if nm n.name=false then 2 else if cntE n≠0 then cntE n else if n.roles.all nm=false then 2 else if errs (frE nm) n.fresh≠0 then errs (frE nm) n.fresh else if n.tags.all nm=false then 2 else 0
def spE (nm : NmB) (s : Sp) : Int:=if nm s.frm=false∨nm s.dst=false then 2 else msgE nm s.msg
def narE (nm : NmB) (n : Nar) : Int:=if Ag nm n≠0 then Ag nm n else if errs (spE nm) n.steps≠0 then errs (spE nm) n.steps else errs (O2 nm) n.goals
def Eh (t : T) : Bool:=decide (t.kind=3) && decide (t.name=La) && decide (t.kids.length=2)
def untA : Nat→T→List T
 | 0,t=>[t]
 | n + 1,t=>if Eh t=true then t.kids.getD 0 default :: untA n (t.kids.getD 1 default) else [t]
def untE (t : T) : List T:=untA t.size t
def Z5 : Nat→T→List UInt8
 | 0,_=>[]
 | n + 1,t=>if t.kind=2 then t.name else if Eh t=true then [60]++Lib.join ((untE t).map (Z5 n)) [44,32]++[62] else t.name++[40]++Lib.join (t.kids.map (Z5 n)) [44,32]++[41]
def V8 (t : T) : List UInt8:=Z5 t.size t
def Au (l : List T) : List UInt8:=Lib.join (l.map V8) [44,32]
theorem uBW {t : T} (h : Eh t=true) : ∃ a b,t.kids=[a,b]:=by
 simp only [Eh,Bool.and_eq_true,decide_eq_true_eq] at h
 obtain ⟨_,h⟩:=h
 match hk : t.kids,h with
 | [a,b],_=>exact ⟨a,b,rfl⟩
theorem S6 {t : T} (h : Eh t=true) : t.size=1 + (t.kids.getD 0 default).size + (t.kids.getD 1 default).size:=by
 obtain ⟨a,b,hk⟩:=uBW h
 rw[T.size_eq,hk]
 simp [T.sizes]; omega
theorem Vl : ∀ (n : Nat) (t x : T),x ∈ untA n t→x.size≤t.size
 | 0,t,x,h=>by simp [untA] at h; subst h; omega
 | n + 1,t,x,h=>by
  rw[untA] at h
  split at h
  ·rename_i hp
   have hs:=S6 hp
   rcases List.mem_cons.1 h with q | q
   ·subst q; omega
   ·have := Vl n _ x q; omega
  ·simp at h; subst h; omega
theorem Ku : ∀ (n : Nat) (t : T),T.sizes (untA n t)≤t.size
 | 0,t=>by simp [untA,T.sizes]
 | n + 1,t=>by
  rw[untA]
  split
  ·rename_i hp
   have hs:=S6 hp
   have := Ku n (t.kids.getD 1 default)
   rw[T.sizes]; omega
  ·simp [T.sizes]
theorem Ur : ∀ (n : Nat) (t : T),1≤(untA n t).length∧(untA n t).length≤t.size
 | 0,t=>by have := t.size_pos; simp [untA]; omega
 | n + 1,t=>by
  rw[untA]
  split
  ·rename_i hp
   have hs:=S6 hp
   have := Ur n (t.kids.getD 1 default)
   have := (t.kids.getD 0 default).size_pos
   rw[List.length_cons]; omega
  ·have := t.size_pos; simp; omega
theorem Pb : ∀ (n m : Nat) (t : T),t.size≤n→t.size≤m→untA n t=untA m t
 | 0,_,t,h,_=>by have := t.size_pos; omega
 | _,0,t,_,h=>by have := t.size_pos; omega
 | n + 1,m + 1,t,hn,hm=>by
  rw[untA,untA]
  split
  ·rename_i hp
   have hs:=S6 hp
   have := (t.kids.getD 0 default).size_pos
   rw[Pb n m _ (by omega) (by omega)]
  ·rfl
theorem Uk (t : T) : untE t=if Eh t=true then t.kids.getD 0 default :: untE (t.kids.getD 1 default) else [t]:=by
 obtain ⟨m,hm⟩ : ∃ m,t.size=m + 1 := ⟨t.size - 1,by have := t.size_pos; omega⟩
 unfold untE
 rw[hm,untA]
 split
 ·rename_i hp
  have hs:=S6 hp
  rw[Pb m _ _ (by omega) (Nat.le_refl _)]
 ·rfl
theorem Td {t x : T} (hp : Eh t=true) (hx : x ∈ untE t) : x.size < t.size:=by
 have hs:=S6 hp
 have h0:=(t.kids.getD 0 default).size_pos
 rw[Uk,if_pos hp] at hx
 rcases List.mem_cons.1 hx with q | q
 ·subst q; have := (t.kids.getD 1 default).size_pos; omega
 ·have := Vl _ _ _ q; omega
theorem Ly {t : T} (hp : Eh t=true) : T.sizes (untE t) < t.size:=by
 have hs:=S6 hp
 rw[Uk,if_pos hp,T.sizes]
 have := Ku (t.kids.getD 1 default).size (t.kids.getD 1 default)
 unfold untE; omega
theorem Ph {x : T} : ∀ {l : List T},x ∈ l→x.size≤T.sizes l
 | [],h=>by simp at h
 | y :: l,h=>by
  rw[T.sizes]
  rcases List.mem_cons.1 h with q | q
  ·subst q; omega
  ·have := Ph q; omega
theorem O1 {t x : T} (h : x ∈ t.kids) : x.size < t.size:=by
 have := Ph h; have := t.size_eq; omega
theorem Ax : ∀ (n m : Nat) (t : T),t.size≤n→t.size≤m→Z5 n t=Z5 m t
 | 0,_,t,h,_=>by have := t.size_pos; omega
 | _,0,t,_,h=>by have := t.size_pos; omega
 | n + 1,m + 1,t,hn,hm=>by
  rw[Z5,Z5]
  split
  ·rfl
  split
  ·rename_i hp
   have e : (untE t).map (Z5 n)=(untE t).map (Z5 m):=List.map_congr_left fun x hx=>by
    have := Td hp hx
    exact Ax n m x (by omega) (by omega)
   rw[e]
  ·have e : t.kids.map (Z5 n)=t.kids.map (Z5 m):=List.map_congr_left fun x hx=>by
    have := O1 hx
    exact Ax n m x (by omega) (by omega)
   rw[e]
theorem Yt (t : T) : V8 t=if t.kind=2 then t.name else if Eh t=true then [60]++Au (untE t)++[62] else t.name++[40]++Au t.kids++[41]:=by
 obtain ⟨m,hm⟩ : ∃ m,t.size=m + 1 := ⟨t.size - 1,by have := t.size_pos; omega⟩
 unfold Au
 conv=>lhs; unfold V8
 rw[hm,Z5]
 split
 ·rfl
 split
 ·rename_i hp
  have e : (untE t).map (Z5 m)=(untE t).map V8:=List.map_congr_left fun x hx=>by
   have := Td hp hx
   exact Ax m x.size x (by omega) (by omega)
  rw[e]
 ·have e : t.kids.map (Z5 m)=t.kids.map V8:=List.map_congr_left fun x hx=>by
   have := O1 hx
   exact Ax m x.size x (by omega) (by omega)
  rw[e]
mutual
def okB : T→Bool
 | .mk k n _ ks=>(decide (k=2) || decide (k=3)) && decide (n.length≤24) && okBs ks
def okBs : List T→Bool
 | []=>true
 | t :: ts=>okB t && okBs ts
end
theorem uAx (t : T) : okB t=((decide (t.kind=2) || decide (t.kind=3)) && decide (t.name.length≤24) && okBs t.kids):=by cases t; rw[okB]; rfl
theorem Qz : ∀ {l : List T},okBs l=true → ∀ x ∈ l,okB x=true
 | [],_,x,h=>by simp at h
 | y :: l,h,x,hx=>by
  rw[okBs,Bool.and_eq_true] at h
  rcases List.mem_cons.1 hx with q | q
  ·subst q; exact h.1
  ·exact Qz h.2 x q
theorem Vc {t : T} (h : okB t=true) : ∀ x ∈ t.kids,okB x=true:=by
 rw[uAx,Bool.and_eq_true] at h
 exact Qz h.2
theorem Zk {t : T} (h : okB t=true) : (t.kind=2∨t.kind=3)∧t.name.length≤24:=by
 rw[uAx] at h
 simp only [Bool.and_eq_true,Bool.or_eq_true,decide_eq_true_eq] at h
 exact h.1
theorem Uq : ∀ (n : Nat) {t : T},okB t=true → ∀ x ∈ untA n t,okB x=true
 | 0,t,h,x,hx=>by simp [untA] at hx; subst hx; exact h
 | n + 1,t,h,x,hx=>by
  rw[untA] at hx
  split at hx
  ·rename_i hp
   obtain ⟨a,b,hk⟩:=uBW hp
   have hkk:=Vc h
   rw[hk] at hx hkk
   rcases List.mem_cons.1 hx with q | q
   ·subst q; exact hkk _ (by simp)
   ·exact Uq n (hkk b (by simp)) x q
  ·simp at hx; subst hx; exact h
theorem uBH {t : T} (h : M8 t=0) : (t.kind=1∨t.kind=2∨t.kind=3)∧t.name.length≤24:=by
 unfold M8 at h
 split at h
 ·split at h
  ·rename_i hq hn
   simp only [R5,Bool.and_eq_true,decide_eq_true_eq] at hn
   exact ⟨by omega,hn.1.1.2⟩
  ·simp at h
 ·simp at h
mutual
theorem uBU (nm : NmB) : ∀ (t : T),t.nodesE=0→rawE nm t=0→okB t=true
 | .mk k n s ks,h1,h2=>by
  rw[T.nodesE] at h1
  rw[rawE] at h2
  rw[okB]
  split at h1
  ·rename_i hz; exact absurd h1 hz
  ·rename_i hz
   have hz:=Decidable.not_not.1 hz
   split at h2
   ·simp at h2
   ·rename_i hk
    split at h2
    ·simp at h2
    ·rw[uAV nm ks h1 h2]
     have hq:=uBH hz
     have q1 : k=1∨k=2∨k=3:=hq.1
     have q2 : n.length≤24:=hq.2
     simp only [Bool.and_true,Bool.and_eq_true,Bool.or_eq_true,decide_eq_true_eq]
     exact ⟨by omega,q2⟩
theorem uAV (nm : NmB) : ∀ (ts : List T),T.nodesEs ts=0→Cu nm ts=0→okBs ts=true
 | [],_,_=>rfl
 | t :: ts,h1,h2=>by
  rw[T.nodesEs] at h1
  rw[Cu] at h2
  rw[okBs]
  split at h1
  ·rename_i hz; exact absurd h1 hz
  ·rename_i hz
   split at h2
   ·rename_i hy; exact absurd h2 hy
   ·rename_i hy
    rw[uBU nm t (Decidable.not_not.1 hz) (Decidable.not_not.1 hy),uAV nm ts h1 h2]; rfl
end
theorem uCc {nm : NmB} {t : T} (h : Aj nm t=0) : okB t=true∧t.size≤400:=by
 unfold Aj at h
 split at h
 ·rename_i hz; exact absurd h hz
 ·rename_i hz
  have hz:=Decidable.not_not.1 hz
  unfold V6 at hz
  split at hz
  ·rename_i hy; exact absurd hz hy
  ·rename_i hy
   split at hz
   ·simp at hz
   ·exact ⟨uBU nm t (Decidable.not_not.1 hy) h,by omega⟩
def Bh (L : List (List UInt8)) : Nat:=(L.map fun x=>x.length + 2).sum
theorem Kw : ∀ (L : List (List UInt8)),(Lib.joinTail [44,32] L).length=Bh L
 | []=>rfl
 | x :: L=>by
  have e : Lib.joinTail [44,32] (x :: L)=[44,32]++(x++Lib.joinTail [44,32] L):=by simp [Lib.joinTail]
  rw[e]
  have := Kw L
  simp only [List.length_append,List.length_cons,List.length_nil,Bh,List.map_cons,List.sum_cons] at this ⊢
  omega
theorem Cg : ∀ (L : List (List UInt8)),(Lib.join L [44,32]).length≤Bh L∧(L≠[]→(Lib.join L [44,32]).length + 2=Bh L)
 | []=>by simp [Lib.join_nil]
 | x :: L=>by
  have := Kw L
  rw[Lib.join_cons,List.length_append]
  simp only [Bh,List.map_cons,List.sum_cons] at this ⊢
  exact ⟨by omega,fun _=>by omega⟩
theorem Z1 : ∀ (l : List T),(∀ x ∈ l,(V8 x).length + 2≤28 * x.size)→Bh (l.map V8)≤28 * T.sizes l
 | [],_=>by simp [Bh,T.sizes]
 | x :: l,h=>by
  have h1:=h x (by simp)
  have h2:=Z1 l fun y hy=>h y (by simp [hy])
  simp only [Bh,List.map_cons,List.sum_cons,T.sizes] at h2 ⊢
  omega
theorem text_len : ∀ (n : Nat) (t : T),t.size≤n→okB t=true→(V8 t).length + 2≤28 * t.size
 | 0,t,h,_=>by have := t.size_pos; omega
 | n + 1,t,h,ho=>by
  have hp:=t.size_pos
  have hn:=(Zk ho).2
  rw[Yt]
  split
  ·omega
  split
  ·rename_i hq
   have h1 := Z1 (untE t) fun x hx=>text_len n x (by have := Td hq hx; omega) (Uq _ ho x hx)
   have h2:=Ly hq
   have h3 := (Cg ((untE t).map V8)).2 (by have := (Ur t.size t).1; intro q; rw[← List.length_map (f := V8)] at this; show False; unfold untE at q; rw[q] at this; simp at this)
   unfold Au
   simp only [List.length_append,List.length_cons,List.length_nil]
   omega
  ·have h1 := Z1 t.kids fun x hx=>text_len n x (by have := O1 hx; omega) (Vc ho x hx)
   have h2:=t.size_eq
   have h3:=Cg (t.kids.map V8)
   unfold Au
   simp only [List.length_append,List.length_cons,List.length_nil]
   by_cases hk : t.kids.map V8=[]
   ·rw[hk,Lib.join_nil]; simp; omega
   ·have := h3.2 hk; omega
theorem Uc {t : T} (h : okB t=true) : (V8 t).length + 2≤28 * t.size:=text_len t.size t (Nat.le_refl _) h
theorem Zw {l : List T} (h : ∀ x ∈ l,okB x=true) : (Au l).length≤28 * T.sizes l:=by
 have h1:=Z1 l fun x hx=>Uc (h x hx)
 have h2:=(Cg (l.map V8)).1
 unfold Au; omega
def hFresh : List UInt8:=[32,32,102,114,101,115,104,32]
def hProt : List UInt8:=[112,114,111,116,111,99,111,108,32]
def hRole : List UInt8:=[32,32,114,111,108,101,32]
def hTag : List UInt8:=[32,32,116,97,103,32]
def hMsg : List UInt8:=[32,32,109,101,115,115,97,103,101,32]
def hGoal : List UInt8:=[32,32,103,111,97,108,32]
def arrow : List UInt8:=[32,45,62,32]
def wSk : List UInt8:=[115,107]
def wPk : List UInt8:=[112,107]
def wEnc : List UInt8:=[101,110,99]
def Ut : List UInt8:=[97,101,110,99]
def Ug : List UInt8:=[115,105,103,110]
def Yz : List UInt8:=[104,97,115,104]
def wShk : List UInt8:=[115,104,107]
def nmsL (n : Nar) : List (List UInt8 × Int):=n.roles.map (fun r=>(r,1))++(n.fresh.map (fun f=>(f.name,f.sort))++n.tags.map fun g=>(g,5))
def K6 (n : Nar) : List (List UInt8):=(nmsL n).map (·.1)
def kid (t : T) (k : Nat) : T:=t.kids.getD k default
def isT (t : T) (w : List UInt8) (k : Int) : Bool:=decide (t.kind=3) && decide (t.name=w) && decide ((t.kids.length : Int)=k)
def Ek (R : List (List UInt8)) (t : T) : Bool:=decide (t.kind=2) && R.contains t.name
def Gn (R : List (List UInt8)) (t : T) : Bool:=isT t wSk 1 && Ek R (kid t 0)
def pubT (R : List (List UInt8)) (t : T) : Bool:=isT t wPk 1 && Gn R (kid t 0)
def shkT (R : List (List UInt8)) (t : T) : Bool:=isT t wShk 2 && Ek R (kid t 0) && Ek R (kid t 1) && !((kid t 0).name == (kid t 1).name)
def N2 (R : List (List UInt8)) (t : T) : Option Nat :=
 if isT t La 2=true∨isT t wEnc 2=true then some 2 else if isT t Yz 1=true then some 1
 else if (isT t Ut 2=true∧pubT R (kid t 1)=true)∨(isT t Ug 2=true∧Gn R (kid t 1)=true) then some 1
 else if pubT R t=true∨shkT R t=true then some 0 else none
def Hn (R K : List (List UInt8)) : Nat→T→Int
 | 0,_=>0
 | n + 1,t=>if t.kind≠3 then (if K.contains t.name=true then 0 else 13) else
  match N2 R t with
  | none=>10
  | some k=>errs (Hn R K n) (t.kids.take k)
def V4 (R K : List (List UInt8)) (t : T) : Int:=Hn R K t.size t
theorem Qq {α : Type} {l : List α} {k : Nat} {x : α} (h : x ∈ l.take k) : x ∈ l:=List.mem_of_mem_take h
theorem Hi (R K : List (List UInt8)) : ∀ (n m : Nat) (t : T),t.size≤n→t.size≤m→Hn R K n t=Hn R K m t
 | 0,_,t,h,_=>by have := t.size_pos; omega
 | _,0,t,_,h=>by have := t.size_pos; omega
 | n + 1,m + 1,t,hn,hm=>by
  rw[Hn,Hn]
  split
  ·rfl
  ·split
   ·rfl
   ·rename_i k _
    exact Dr fun x hx=>by
     have := O1 (Qq hx)
     exact Hi R K n m x (by omega) (by omega)
theorem Bs (R K : List (List UInt8)) (t : T) : V4 R K t=if t.kind≠3 then (if K.contains t.name=true then 0 else 13) else match N2 R t with
  | none=>10
  | some k=>errs (V4 R K) (t.kids.take k):=by
 obtain ⟨m,hm⟩ : ∃ m,t.size=m + 1 := ⟨t.size - 1,by have := t.size_pos; omega⟩
 conv=>lhs; unfold V4
 rw[hm,Hn]
 split
 ·rfl
 ·split
  ·rfl
  ·exact Dr fun x hx=>by
    have := O1 (Qq hx)
    exact Hi R K m x.size x (by omega) (by omega)
def dclL (n : Nar) : List (List UInt8 × Option (List UInt8)):=n.roles.map (fun r=>(r,none))++(n.fresh.map (fun f=>(f.name,some f.role))++n.tags.map fun g=>(g,none))
def dclE (R seen : List (List UInt8)) (x : List UInt8 × Option (List UInt8)) : Int :=
 if x.1.contains 35=true then 2 else if x.2.isSome=true∧(x.1=[101]∨x.1=[103]) then 1 else if seen.contains x.1=true then 5 else match x.2 with
  | some r=>if R.contains r=true then 0 else 13
  | none=>0
def decA (R : List (List UInt8)) : List (List UInt8)→List (List UInt8 × Option (List UInt8))→Int
 | _,[]=>0
 | seen,x :: r=>if dclE R seen x≠0 then dclE R seen x else decA R (seen++[x.1]) r
def decE (n : Nar) : Int:=decA n.roles [] (dclL n)
def twoE (R : List (List UInt8)) (a b : List UInt8) : Int:=if R.contains a=false∨R.contains b=false then 13 else if a=b then 1 else 0
def Af (n : Nar) (s : Sp) : Int:=if twoE n.roles s.frm s.dst≠0 then twoE n.roles s.frm s.dst else V4 n.roles (K6 n) s.msg
def Z7 (n : Nar) (g : Gl) : Int:=if n.roles.contains g.role=false then 13 else if I4 g.kind=true∧twoE n.roles g.role g.wth≠0 then twoE n.roles g.role g.wth else errs (V4 n.roles (K6 n)) g.data
def lnE {α : Type} (f ln : α→Int) : List α→Int × Int
 | []=>(0,0)
 | x :: r=>if f x≠0 then (ln x,f x) else lnE f ln r
def useE (n : Nar) : Int × Int:=if (lnE (Af n) Sp.line n.steps).2≠0 then lnE (Af n) Sp.line n.steps else lnE (Z7 n) Gl.line n.goals
def chkE (nm : NmB) (n : Nar) : Int × Int:=if narE nm n≠0 then (0,narE nm n) else if decE n≠0 then (0,decE n) else useE n
theorem lnE_zero {α : Type} {f ln : α→Int} : ∀ {l : List α},(lnE f ln l).2=0 ↔ ∀ x ∈ l,f x=0
 | []=>by simp [lnE]
 | x :: r=>by
  rw[lnE]
  split
  ·rename_i h; simp [h]
  ·rename_i h; rw[lnE_zero (l:=r)]; simp at h ⊢; exact fun _=>h
theorem Tt {α : Type} {f ln : α→Int} : ∀ {l : List α},(lnE f ln l).2=0→lnE f ln l=(0,0)
 | [],_=>rfl
 | x :: r,h=>by
  rw[lnE] at h ⊢
  split at h
  ·rename_i q; exact absurd h q
  ·rename_i q; rw[if_neg q]; exact Tt h
theorem Uu {α : Type} {f ln : α→Int} {d : α} {l : List α} {k : Nat} (hk : k < l.length) (h : ∀ j,j < k→f (l.getD j d)=0) (hx : f (l.getD k d)≠0) : lnE f ln l=(ln (l.getD k d),f (l.getD k d)):=by
 induction l generalizing k with
 | nil=>simp at hk
 | cons x r ih =>
  cases k with
  | zero=>rw[lnE,if_pos (by simpa using hx)]; rfl
  | succ k =>
   have h0:=h 0 (by omega)
   rw[lnE,if_neg (by simpa using h0),ih (k:=k) (by simpa using hk) (fun j hj=>by simpa using h (j + 1) (by omega)) (by simpa using hx)]
   rfl
theorem Np {α : Type} {f ln : α→Int} {d : α} {l : List α} (h : ∀ j,j < l.length→f (l.getD j d)=0) : lnE f ln l=(0,0):=by
 refine Tt (lnE_zero.2 fun x hx=>?_)
 obtain ⟨j,hj,rfl⟩:=List.mem_iff_getElem.1 hx
 have := h j hj
 rwa [List.getD_eq_getElem?_getD,List.getElem?_eq_getElem hj] at this
def iv (k : Int) : Value:=.int .i64 k
def mapL (l : List (List UInt8 × Int)) : List (List UInt8 × Value):=l.foldl (fun es x=>mput es x.1 (iv x.2)) []
theorem On (k : List UInt8) (v : Value) (j : List UInt8) : ∀ es : List (List UInt8 × Value),mget (mput es k v) j=if k=j then some v else mget es j
 | []=>by simp [mput,mget]
 | (a,u) :: r=>by
  rw[mput]
  split
  ·rename_i h; subst h
   rw[mget,mget]
   split <;> rfl
  ·rename_i h
   rw[mget,mget,On k v j r]
   by_cases h1 : a=j
   ·subst h1
    rw[if_pos J,if_pos J,if_neg (fun q=>h q.symm)]
   ·rw[if_neg h1,if_neg h1]
theorem Ch (l : List (List UInt8 × Int)) (x : List UInt8 × Int) : mapL (l++[x])=mput (mapL l) x.1 (iv x.2):=by simp [mapL]
theorem Zc {α : Type} {P : List α→Prop} (h0 : P []) (h1 : ∀ l x,P l→P (l++[x])) (l : List α) : P l:=by
 suffices h : ∀ m : List α,P m.reverse by simpa using h l.reverse
 intro m
 induction m with
 | nil=>exact h0
 | cons x m ih=>rw[List.reverse_cons]; exact h1 _ _ ih
theorem Nv (l : List (List UInt8 × Int)) (k : List UInt8) : mget (mapL l) k=((l.reverse.find? fun x=>decide (x.1=k)).map fun x=>iv x.2):=by
 refine Zc (P:=fun l=>mget (mapL l) k=((l.reverse.find? fun x=>decide (x.1=k)).map fun x=>iv x.2)) J (fun l x ih=>?_) l
 rw[Ch,On,ih,List.reverse_append]
 simp only [List.reverse_cons,List.reverse_nil,List.nil_append,List.singleton_append,List.find?_cons]
 by_cases h : x.1=k
 ·simp [h]
 ·simp [h]
theorem Q9 (l : List (List UInt8 × Int)) (k : List UInt8) : (mget (mapL l) k).isSome=(l.map (·.1)).contains k:=by
 rw[Nv,Option.isSome_map,Bool.eq_iff_iff]
 simp only [List.find?_isSome,List.mem_reverse,decide_eq_true_eq,List.contains_iff_mem,List.mem_map]
theorem T.len_sizes : ∀ l : List T,l.length≤T.sizes l
 | []=>by simp [T.sizes]
 | t :: l=>by have h1:=T.len_sizes l; have h2:=t.size_pos; simp only [T.sizes,List.length_cons]; omega
theorem Qe (ts : List T) (k : Nat) (x : T) (h : ts[k]? = some x) : x.size≤T.sizes ts:=by
 have h1:=T.sizes_take ts k x h
 have h2:=T.sizes_take_le ts (k + 1)
 omega
theorem Sv : ∀ (n : Nat) (t : T),t.size≤n→n≤2000000→Ctr sys 113 [xm t] [] (xi t.size) none []:=by
 intro n
 induction n with
 | zero=>intro t h; have := t.size_pos; omega
 | succ n ih =>
  intro t ht hn
  have hse:=t.size_eq
  have hrl:=T.rows_len t.kids
  have hls:=T.len_sizes t.kids
  refine D1 Tryz.func113 J J J J J J ?_;refine A8 (A6 ?_);refine C3 J (E2 J J J J) ?_;refine A5 J J J (A9 J gU) ?_;refine B0 ?_;refine A8 (A6 ?_);refine A5 J J J (A9 J gU) ?_;refine B0 ?_;refine A8 ?_;refine A8 (A6 ?_);refine A5 J J J (B1 J gU J J) ?_;refine A5 J J J (B2 J gU J J J J) ?_;refine E0 J J J J J gU J J ?_ (fun hh=>by simp at hh); intro hlen;refine A5 J J J (A7 J gU) ?_;refine B0 ?_;refine B5 (s:=⟨[(3,_,_),(7,_,_),(8,_,_),(9,_,_)],[],[],[]⟩) (B3 (⟨U J,U J,U J,U J,O⟩) O O) ?_;refine C4 ?_;refine F5 (ι:=Nat) { t:=[(7,_,_),(8,_,_)],bx:=[],ow:=[] } (fun k=>[(9,true,xi (k : Int)),(3,true,xi (1 + T.sizes (t.kids.take k) : Nat))]) (fun k=>[]) (fun k=>k≤t.kids.length) (fun k=>t.kids.length - k) (0) (by simp) (B3 (⟨U J,U J,U J,U J,O⟩) O O) ?_
  intro k hok
  dsimp only [List.cons_append,List.nil_append]
  refine A8 (A6 ?_);refine A5 J J J (B6 J J gU gU J) ?_;refine B0 ?_;refine A8 ?_;refine B8 J (fun hc=>?_) (fun hc=>?_)
  ·try simp only [nn,T.rows_len,B4] at hc
   have hlt : k < t.kids.length:=by omega
   have h1:=T.sizes_take _ _ _ (T.getD_some hlt)
   have h2:=T.getD_size hlt
   refine C0 ?_;refine A8 ?_;refine C4 ?_;refine A8 (A6 ?_);refine A5 J J J (C7 J J gU gU J J J (fun hh=>T.rows_at (by first|omega|(simp at hh; omega)))) ?_;refine A5 J J J (D6 J gU J J J J) ?_;refine C3 J (D7 J J J) ?_;refine C3 J (C9 J J J J J J J) ?_;refine B0 ?_;refine A6 ?_;refine A5 J J J (A7 J gU) ?_;refine A5 J J J (B7 J gU J J J J J) ?_;refine C8 J J J J J J gU gU (ih (t.kids.getD k default) (by omega) (by omega)) J ?_;refine A5 J J J (D0 J J gU gU J (IntWalk.i64_in _ (by omega))) ?_;refine A5 J J J (A9 J gU) ?_;refine B0 ?_;refine B5 (s:=⟨[(3,_,_),(7,_,_),(8,_,_),(9,_,_)],[],[],[]⟩) (B3 (⟨U J,U J,U J,U J,O⟩) O O) ?_;refine A6 ?_;refine A5 J J J (D0 J J gU gU J (IntWalk.i64_in _ (by omega))) ?_;refine A5 J J J (A7 J gU) ?_;refine B0 ?_;refine ⟨k + 1,?_,?_,B3 (⟨⟨_,rfl,?_⟩,⟨⟨_,rfl,?_⟩,⟨U J,U J,O⟩⟩⟩) O O⟩
   all_goals first|rfl|omega|exact tx (G8 (by rw[h1]; push_cast; omega))
  ·try simp only [nn,T.rows_len,B4] at hc
   have : k=t.kids.length:=by omega
   subst this
   rw[List.take_length]
   refine E1 ?_
   repeat(first|refine D3 ?_|refine D4 ?_|refine D2 J ?_)
   refine A8 (A6 ?_);refine A5 J J J (A7 J gU) ?_;refine A5 J J J (A9 J gU) ?_;refine B0 ?_;refine C1 ?_
   repeat(first|refine tR ?_|refine bR ?_)
   refine C5 J ?_ O;exact G8 (by omega)
end Go.Proofs.YteidahabkfgfjaaGreat
namespace Go.Proofs.YteidahabkfgfjaaGreat
open Go Go.Proofs Go.Shelf
def Sb : Go.Shelf.Ren:=⟨fun | 99=>157 | 206=>167 | n=>n,fun | 9=>9 | 4=>4 | 3=>3 | n=>n,fun | n=>n⟩
theorem uCj : Go.Proofs.Lays.n99 Tryz.prog Sb:={
 mixed:=by kernel_rfl
 f99:=Tryz.func157.trans (congrArg some (by kernel_rfl))
 f206:=Tryz.func167.trans (congrArg some (by kernel_rfl))
 t3:=Tryz.underlying3
 a3:=Tryz.isAgg3
 z3:=Tryz.sizeOf3
 v3:=Tryz.zeroValue3
 t4:=Tryz.underlying4
 a4:=Tryz.isAgg4
 z4:=Tryz.sizeOf4
 v4:=Tryz.zeroValue4
 t9:=Tryz.underlying9
 a9:=Tryz.isAgg9
 z9:=Tryz.sizeOf9
 v9:=Tryz.zeroValue9 }
def Nw : Go.Shelf.Ren:=⟨fun | 144=>76 | 143=>115 | 219=>141 | 217=>159 | 225=>160 | 224=>161 | 267=>162 | 266=>169 | 314=>170 | n=>n,fun | 9=>9 | 4=>4 | 3=>3 | 5=>5 | 46=>162 | 146=>169 | 51=>168 | n=>n,fun | 1=>0 | n=>n⟩
theorem uBu : Go.Proofs.Lays.n144 Tryz.prog Nw:={
 mixed:=by kernel_rfl
 f143:=Tryz.func115.trans (congrArg some (by kernel_rfl))
 f144:=Tryz.func76.trans (congrArg some (by kernel_rfl))
 f217:=Tryz.func159.trans (congrArg some (by kernel_rfl))
 f219:=Tryz.func141.trans (congrArg some (by kernel_rfl))
 f224:=Tryz.func161.trans (congrArg some (by kernel_rfl))
 f225:=Tryz.func160.trans (congrArg some (by kernel_rfl))
 f266:=Tryz.func169.trans (congrArg some (by kernel_rfl))
 f267:=Tryz.func162.trans (congrArg some (by kernel_rfl))
 f314:=Tryz.func170.trans (congrArg some (by kernel_rfl))
 t3:=Tryz.underlying3
 a3:=Tryz.isAgg3
 z3:=Tryz.sizeOf3
 v3:=Tryz.zeroValue3
 t4:=Tryz.underlying4
 a4:=Tryz.isAgg4
 z4:=Tryz.sizeOf4
 v4:=Tryz.zeroValue4
 t5:=Tryz.underlying5
 a5:=Tryz.isAgg5
 z5:=Tryz.sizeOf5
 v5:=Tryz.zeroValue5
 t9:=Tryz.underlying9
 a9:=Tryz.isAgg9
 z9:=Tryz.sizeOf9
 v9:=Tryz.zeroValue9
 t46:=Tryz.underlying162
 a46:=Tryz.isAgg162
 z46:=Tryz.sizeOf162
 v46:=Tryz.zeroValue162
 t51:=Tryz.underlying168
 a51:=Tryz.isAgg168
 z51:=Tryz.sizeOf168
 v51:=Tryz.zeroValue168
 t146:=Tryz.underlying169
 a146:=Tryz.isAgg169
 z146:=Tryz.sizeOf169
 v146:=Tryz.zeroValue169
 g1:=by kernel_rfl }
end Go.Proofs.YteidahabkfgfjaaGreat
namespace Go.Proofs.YteidahabkfgfjaaGreat
open Go Go.Abs
open Go.RowKit (Below)
theorem Hv (s p : List UInt8) : Ctr sys 157 [xs s,xs p] [] (xb (p.isPrefixOf s)) none []:=by
 refine No [.string ⟨s.toArray⟩, .string ⟨p.toArray⟩] ⟨_,Tryz.func157,by kernel_rfl,by kernel_rfl⟩ (fun w G vs h=>?_) (fun w=>Any.strings_HasPrefix uCj ⟨s.toArray⟩ ⟨p.toArray⟩ w) (fun w G=>CRep.b _)
 match vs,h with
 | [u,v],⟨h1,h2,_⟩=>rw[XRep.str h1,XRep.str h2]
end Go.Proofs.YteidahabkfgfjaaGreat
namespace Go.Proofs.YteidahabkfgfjaaGreat
open Go Go.Proofs Go.RowKit
open Go.Abs (Dz BdSys)
end Go.Proofs.YteidahabkfgfjaaGreat
namespace Go.Proofs.YteidahabkfgfjaaGreat
open Go Go.Abs
theorem Eg (n : Int) : Ctr sys 137 [xu n] [] (xb (H8 n)) none []:=by
 refine D1 Tryz.func137 J J J J J J ?_;refine A8 (A6 ?_);refine A5 J J J (A9 J gU) ?_;refine B0 ?_;refine A8 (A6 ?_);refine A5 J J J (A7 J gU) ?_;refine A5 J J J (B6 J J gU gU J) ?_;refine A5 J J J (A7 J gU) ?_;refine A5 J J J (A7 J gU) ?_;refine A5 J J J (B6 J J (fun hh=>hh) gU J) ?_;refine A5 J J J (E4 J J gU (fun _ hi=>gP J hi)) ?_;refine A5 J J J (A7 J gU) ?_;refine A5 J J J (A7 J gU) ?_;refine A5 J J J (B6 J J (fun hh=>hh) gU J) ?_;refine A5 J J J (A7 J (fun hh=>hh)) ?_;refine A5 J J J (A7 J gU) ?_;refine A5 J J J (B6 J J (fun hh=>hh) gU J) ?_;refine A5 J J J (E4 J J (fun hh=>hh) (fun hh hi=>gP hh hi)) ?_;refine A5 J J J (D9 J J gU (fun _ hi=>gP J hi)) ?_;refine A5 J J J (A9 J gU) ?_;refine B0 ?_;refine C1 ?_
 repeat(first|refine tR ?_|refine bR ?_)
 refine C5 J ?_ O
 rfl
theorem Pw (n : Int) : Ctr sys 156 [xu n] [] (xb (K1 n)) none []:=by
 refine D1 Tryz.func156 J J J J J J ?_;refine A8 (A6 ?_);refine A5 J J J (A9 J gU) ?_;refine B0 ?_;refine A8 (A6 ?_);refine A5 J J J (A7 J gU) ?_;refine A5 J J J (B6 J J gU gU J) ?_;refine A5 J J J (A7 J gU) ?_;refine A5 J J J (A7 J gU) ?_;refine A5 J J J (B6 J J (fun hh=>hh) gU J) ?_;refine A5 J J J (E4 J J gU (fun _ hi=>gP J hi)) ?_;refine A5 J J J (A9 J gU) ?_;refine B0 ?_;refine C1 ?_
 repeat(first|refine tR ?_|refine bR ?_)
 refine C5 J ?_ O
 rfl
theorem pre2 (b : UInt8) (l : List UInt8) : ([35,35] : List UInt8).isPrefixOf (b :: l)=(decide (b.toNat=35) && decide ((l.getD 0 0).toNat=35)):=by
 have hb : ∀ x : UInt8,((35 : UInt8) == x)=decide (x.toNat=35):=by
  intro x
  rw[Bool.eq_iff_iff]
  simp only [beq_iff_eq,decide_eq_true_eq]
  exact ⟨fun h=>by subst h; rfl,fun h=>UInt8.toNat_inj.1 (by rw[h]; rfl)⟩
 cases l with
 | nil=>simp [List.isPrefixOf,hb]
 | cons c r=>simp [List.isPrefixOf,hb]
theorem Gp (s : List UInt8) (hs : s.length≤9223372036854775807) : Ctr sys 138 [xs s] [] (xi (nlE s : Nat)) none []:=by
 refine D1 Tryz.func138 J J J J J J ?_;refine A8 (A6 ?_);refine A5 J J J (A9 J gU) ?_;refine B0 ?_;refine A8 (A6 ?_);refine A5 J J J (A9 J gU) ?_;refine B0 ?_;refine A8 ?_;refine C4 ?_;refine F5 (ι:=Nat) { t:=[(0,_,_)],bx:=[],ow:=[] } (fun k=>[(3,true,xi (k : Int))]) (fun k=>[]) (fun k=>1≤k∧(k≤s.length∨k=1)∧nmP (s.drop k) + k=nlE s) (fun k=>s.length - k) (1) (⟨by omega,by omega,by unfold nlE; omega⟩) (B3 (⟨U J,U J,O⟩) O O) ?_
 intro k hok
 dsimp only [List.cons_append,List.nil_append]
 obtain ⟨hk1,hk,hi⟩:=hok
 refine A8 ?_;refine A8 (A6 ?_);refine A5 J J J (A7 J gU) ?_;refine A5 J J J (A7 J gU) ?_;refine L8 J J J J J gU (Tryz.underlying9) ?_ (fun hh=>by simp at hh); intro hlen;refine A5 J J J (B6 J J gU gU J) ?_;refine A5 J J J (A7 J gU) ?_;refine A5 J J J (A7 J gU) ?_;refine A5 J J J (A7 J gU) ?_;refine A5 J J J (E3 (j:=k) J J (fun hh=>hh) (fun hh=>hh) Tryz.underlying9 (by first|omega|(simp at hh ⊢; omega)) (fun hh=>by first|omega|(simp at hh ⊢; omega))) ?_;refine C8 J J J J J J gU (fun hh=>gA ((fun hh=>hh) hh) (rfl)) (Eg _) J ?_;refine A5 J J J (A7 J (fun hh=>hh)) ?_;refine A5 J J J (A7 J gU) ?_;refine A5 J J J (A7 J gU) ?_;refine H5 (s:=⟨[(0,_,_),(3,_,_),(8,_,_),(13,_,_),(14,_,_),(15,_,_)],[],[],[]⟩) (B3 (⟨U J,U J,U J,U J,U J,U J,O⟩) O O) ?_;refine A5 J J J (E3 (j:=k) J J (fun hh=>hh) (fun hh=>hh) Tryz.underlying9 (by first|omega|(simp at hh ⊢; omega)) (fun hh=>by first|omega|(simp at hh ⊢; omega))) ?_;refine C8 J J J J J J gU (fun hh=>gA ((fun hh=>hh) hh) (rfl)) (Pw _) J ?_;refine A5 J J J (D9 J J (fun hh=>hh) (fun hh hi=>gP hh hi)) ?_
 refine A5 J J J (A7 J (fun hh=>hh)) ?_;refine A5 J J J (A7 J gU) ?_;refine A5 J J J (A7 J gU) ?_;refine A5 J J J (E3 (j:=k) J J (fun hh=>hh) (fun hh=>hh) Tryz.underlying9 (by first|omega|(simp at hh ⊢; omega)) (fun hh=>by first|omega|(simp at hh ⊢; omega))) ?_;refine A5 J J J (B6 J J (fun hh=>hh) gU J) ?_;refine A5 J J J (D9 J J (fun hh=>hh) (fun hh hi=>gP hh hi)) ?_;refine A5 J J J (A7 J (fun hh=>hh)) ?_;refine A5 J J J (A7 J gU) ?_;refine A5 J J J (A7 J gU) ?_;refine H5 (s:=⟨[(0,_,_),(3,_,_),(8,_,_),(25,_,_),(26,_,_),(27,_,_)],[],[],[]⟩) (B3 (⟨U J,U J,U J,U J,U J,U J,O⟩) O O) ?_;refine A5 J J J (E3 (j:=k) J J (fun hh=>hh) (fun hh=>hh) Tryz.underlying9 (by first|omega|(simp at hh ⊢; omega)) (fun hh=>by first|omega|(simp at hh ⊢; omega))) ?_;refine A5 J J J (B6 J J (fun hh=>hh) gU J) ?_;refine A5 J J J (D9 J J (fun hh=>hh) (fun hh hi=>gP hh hi)) ?_;refine A5 J J J (E4 J J gU (fun _ hi=>gP J hi)) ?_;refine B0 ?_;refine B8 J (fun hc=>?_) (fun hc=>?_)
 ·try simp only [nn] at hc
  rw[H6 (by omega),nmP] at hi
  refine C0 ?_;refine C4 ?_;refine A8 ?_;refine A8 (A6 ?_);refine A5 J J J (A7 J gU) ?_;refine A5 J J J (A7 J gU) ?_;refine A5 J J J (K8 (l:=k) J gU Tryz.underlying9 (fun _=>⟨_,_,_,rfl,gU,by first|omega|(simp at hh ⊢; omega)⟩) (fun _=>rfl) (fun hh=>by first|omega|(simp at hh ⊢; omega)) (fun hh=>by first|omega|(simp at hh ⊢; omega))) ?_;refine C8 J J J J J J gU gU (Hv _ _) J ?_;refine B0 ?_;refine B5 (s:=⟨[(0,_,_),(3,_,_),(35,_,_)],[],[],[]⟩) (B3 (⟨U J,U J,U J,O⟩) O O) ?_;refine B8 J (fun hc2=>?_) (fun hc2=>?_)
  ·try simp only [nn] at hc2
   rw[List.take_length,H6 (by omega),pre2] at hc2
   refine E1 ?_
   repeat(first|refine D3 ?_|refine D4 ?_|refine D2 J ?_)
   refine A8 (A6 ?_);refine A5 J J J (A7 J gU) ?_;refine A5 J J J (A9 J gU) ?_;refine B0 ?_;refine C1 ?_
   repeat(first|refine tR ?_|refine bR ?_)
   refine C5 J ?_ O
   (have hn:=hi; rw[if_neg (by intro q; simp only [Bool.and_eq_true,decide_eq_true_eq] at hc2; exact q.2 hc2)] at hn; exact G8 (by omega))
  ·try simp only [nn] at hc2
   rw[List.take_length,H6 (by omega),pre2] at hc2
   have hn:=hi
   rw[if_pos ⟨by simp only [M4]; grind,by simpa using hc2⟩] at hn
   refine C0 ?_;refine A6 ?_;refine A5 J J J (A7 J gU) ?_;refine A5 J J J (D0 J J gU gU J (IntWalk.i64_in _ (by omega))) ?_;refine A5 J J J (A9 J gU) ?_;refine B0 ?_;refine ⟨k + 1,?_,?_,B3 (⟨⟨_,rfl,?_⟩,⟨U J,O⟩⟩) O O⟩
   all_goals (first|rfl|omega|exact ⟨by omega,by omega,by omega⟩)
 ·try simp only [nn] at hc
  refine E1 ?_
  repeat(first|refine D3 ?_|refine D4 ?_|refine D2 J ?_)
  refine A8 (A6 ?_);refine A5 J J J (A7 J gU) ?_;refine A5 J J J (A9 J gU) ?_;refine B0 ?_;refine C1 ?_
  repeat(first|refine tR ?_|refine bR ?_)
  refine C5 J ?_ O
  (have hn : nmP (s.drop k)=0:=by { by_cases hlt : k < s.length; { rw[H6 hlt,nmP,if_neg (by simp only [M4]; grind)] }; { rw[List.drop_of_length_le (by omega)]; rfl } }; exact G8 (by omega))
theorem Gt {c : UInt8} (h : hexB c=true) : 0≤hexV c∧hexV c≤15:=by
 simp [hexB] at h
 unfold hexV
 split <;> omega
theorem uCf {x : Int} {n : Nat} (h : x=n) (hn : n < 256) : x=((UInt8.ofNat n).toNat : Int):=by
 rw[h,UInt8.toNat_ofNat']; omega
theorem Zf {n i : Nat} {l out : List UInt8} (h : l=[]) : litA n l i out=([],0):=by subst h; cases n <;> rfl
theorem uBJ {s : List UInt8} {k : Nat} (h : k < s.length) : escE (s.drop k)=if (s.getD k 0).toNat=110 then (10,1) else if (s.getD k 0).toNat=116 then (9,1) else if (s.getD k 0).toNat=34∨(s.getD k 0).toNat=92 then (s.getD k 0,1)
  else if (s.getD k 0).toNat=120∧k + 2 < s.length∧hexB (s.getD (k + 1) 0)=true∧hexB (s.getD (k + 2) 0)=true then (UInt8.ofNat (16 * hexV (s.getD (k + 1) 0) + hexV (s.getD (k + 2) 0)).toNat,3) else (0,0):=by
 have e : (2≤s.length - (k + 1))=(k + 2 < s.length):=propext (by omega)
 rw[H6 h,escE,Kx,Kx,List.length_drop]
 simp only [e,Nat.add_zero]
theorem Xh {s out : List UInt8} {n k : Nat} (h : k < s.length) : litA (n + 1) (s.drop k) k out=if (s.getD k 0).toNat=34 then (out,k + 1)
  else if (s.getD k 0).toNat=92 then (if (escE (s.drop (k + 1))).2=0 then ([],0) else litA n (s.drop (k + 1 + (escE (s.drop (k + 1))).2)) (k + 1 + (escE (s.drop (k + 1))).2) (out++[(escE (s.drop (k + 1))).1]))
  else if (s.getD k 0).toNat < 32∨126 < (s.getD k 0).toNat then ([],0) else litA n (s.drop (k + 1)) (k + 1) (out++[s.getD k 0]):=by
 rw[H6 h,litA,List.drop_drop]
theorem Vz {n : Int} (h : K1 n=true) : 48≤n∧n≤57:=by simpa [K1] using h
theorem X9 (c : UInt8) (n : Int) (h : n=(c.toNat : Int)) : Ctr sys 129 [xu n] [] (xi (clsE c)) none []:=by
 subst h
 have hu:=c.toNat_lt
 have h18 : syms.length=18:=rfl
 refine D1 Tryz.func129 J J J J J J ?_;refine A8 (A6 ?_);refine A5 J J J (A9 J gU) ?_;refine B0 ?_;refine A8 ?_;refine C4 ?_;refine A8 (A6 ?_);refine A5 J J J (A7 J gU) ?_;refine A5 J J J (B6 J J gU gU J) ?_;refine A5 J J J (A7 J gU) ?_;refine A5 J J J (A7 J gU) ?_;refine A5 J J J (B6 J J (fun hh=>hh) gU J) ?_;refine A5 J J J (D9 J J gU (fun _ hi=>gP J hi)) ?_;refine A5 J J J (A7 J gU) ?_;refine A5 J J J (A7 J gU) ?_;refine A5 J J J (B6 J J (fun hh=>hh) gU J) ?_;refine A5 J J J (D9 J J gU (fun _ hi=>gP J hi)) ?_;refine A5 J J J (A7 J gU) ?_;refine H5 (s:=⟨[(0,_,_),(16,_,_)],[],[],[]⟩) (B3 (⟨U J,U J,O⟩) O O) ?_;refine A5 J J J (A7 J gU) ?_;refine A5 J J J (B6 J J (fun hh=>hh) gU J) ?_;refine A5 J J J (D9 J J gU (fun _ hi=>gP J hi)) ?_;refine A5 J J J (A9 J gU) ?_;refine B0 ?_;refine B8 J (fun hc=>?_) (fun hc=>?_)
 ·try simp only [nn] at hc
  refine A8 (A6 ?_);refine A5 J J J (A9 J gU) ?_;refine B0 ?_;refine C1 ?_
  repeat(first|refine tR ?_|refine bR ?_)
  refine C5 J ?_ O;exact G8 (by rw[clsE,if_pos (by simp [P4]; omega)])
 ·try simp only [nn] at hc
  have hw : ¬P4 c=true:=by simp [P4]; omega
  refine A8 (A6 ?_);refine A5 J J J (A7 J gU) ?_;refine A5 J J J (B6 J J gU gU J) ?_;refine A5 J J J (A7 J gU) ?_;refine A5 J J J (A7 J gU) ?_;refine A5 J J J (B6 J J (fun hh=>hh) gU J) ?_;refine A5 J J J (E4 J J gU (fun _ hi=>gP J hi)) ?_;refine A5 J J J (A7 J gU) ?_;refine A5 J J J (A7 J gU) ?_;refine H5 (s:=⟨[(0,_,_),(27,_,_),(28,_,_)],[],[],[]⟩) (B3 (⟨U J,U J,U J,O⟩) O O) ?_;refine A5 J J J (B6 J J (fun hh=>hh) gU J) ?_;refine A5 J J J (A7 J (fun hh=>hh)) ?_;refine A5 J J J (A7 J gU) ?_;refine A5 J J J (B6 J J (fun hh=>hh) gU J) ?_;refine A5 J J J (E4 J J (fun hh=>hh) (fun hh hi=>gP hh hi)) ?_;refine A5 J J J (D9 J J gU (fun _ hi=>gP J hi)) ?_;refine A5 J J J (A9 J gU) ?_;refine B0 ?_;refine B5 (s:=⟨[(0,_,_),(20,_,_)],[],[],[]⟩) (B3 (⟨U J,U J,O⟩) O O) ?_;refine B8 J (fun hc2=>?_) (fun hc2=>?_)
  ·try simp only [nn] at hc2
   refine A8 (A6 ?_);refine A5 J J J (A9 J gU) ?_;refine B0 ?_;refine C1 ?_
   repeat(first|refine tR ?_|refine bR ?_)
   refine C5 J ?_ O;exact G8 (by rw[clsE,if_neg hw,if_pos (by simp [H8]; omega)])
  ·try simp only [nn] at hc2
   have hl : ¬H8 (c.toNat : Int)=true:=by simp [H8]; omega
   refine A8 (A6 ?_);refine A5 J J J (A7 J gU) ?_;refine A5 J J J (B6 J J gU gU J) ?_;refine A5 J J J (A7 J gU) ?_;refine A5 J J J (A7 J gU) ?_;refine A5 J J J (B6 J J (fun hh=>hh) gU J) ?_;refine A5 J J J (E4 J J gU (fun _ hi=>gP J hi)) ?_;refine A5 J J J (A9 J gU) ?_;refine B0 ?_;refine B5 (s:=⟨[(0,_,_),(35,_,_)],[],[],[]⟩) (B3 (⟨U J,U J,O⟩) O O) ?_;refine B8 J (fun hc3=>?_) (fun hc3=>?_)
   ·try simp only [nn] at hc3
    refine A8 (A6 ?_);refine A5 J J J (A9 J gU) ?_;refine B0 ?_;refine C1 ?_
    repeat(first|refine tR ?_|refine bR ?_)
    refine C5 J ?_ O;exact G8 (by rw[clsE,if_neg hw,if_neg hl,if_pos (by simp [K1]; omega)])
   ·try simp only [nn] at hc3
    have hd : ¬K1 (c.toNat : Int)=true:=by simp [K1]; omega
    refine A8 (A6 ?_);refine A5 J J J (A7 J gU) ?_;refine A5 J J J (B6 J J gU gU J) ?_;refine A5 J J J (A9 J gU) ?_;refine B0 ?_;refine B8 J (fun hc4=>?_) (fun hc4=>?_)
    ·try simp only [nn] at hc4
     refine A8 (A6 ?_);refine A5 J J J (A9 J gU) ?_;refine B0 ?_;refine C1 ?_
     repeat(first|refine tR ?_|refine bR ?_)
     refine C5 J ?_ O;exact G8 (by rw[clsE,if_neg hw,if_neg hl,if_neg hd,if_pos (by omega)])
    ·try simp only [nn] at hc4
     have hx : clsE c=if symB c=true then 4 else 0:=by rw[clsE,if_neg hw,if_neg hl,if_neg hd,if_neg (by omega)]
     rw[hx]
     refine C0 ?_;refine A8 (A6 ?_);refine A5 J J J (A9 J gU) ?_;refine B0 ?_;refine A8 ?_;refine A8 (A6 ?_);refine A5 J J J (A9 J gU) ?_;refine B0 ?_;refine B5 (s:=⟨[(0,_,_),(3,_,_),(4,_,_)],[],[],[]⟩) (B3 (⟨U J,U J,U J,O⟩) O O) ?_;refine C4 ?_;refine F5 (ι:=Nat) { t:=[(0,_,_),(3,_,_)],bx:=[],ow:=[] } (fun k=>[(4,true,xi (k : Int))]) (fun k=>[]) (fun k=>k≤18∧(syms.drop k).contains c=symB c) (fun k=>18 - k) (0) (⟨by omega,rfl⟩) (B3 (⟨U J,U J,U J,O⟩) O O) ?_
     intro k hok
     dsimp only [List.cons_append,List.nil_append]
     obtain ⟨hk,hi⟩:=hok
     refine A8 ?_;refine A8 (A6 ?_);refine A5 J J J (A7 J gU) ?_;refine A5 J J J (A7 J gU) ?_;refine L8 J J J J J gU (Tryz.underlying9) ?_ (fun hh=>by simp at hh); intro hlen;refine A5 J J J (B6 J J gU gU J) ?_;refine B0 ?_;refine B8 J (fun hc5=>?_) (fun hc5=>?_)
     ·try simp only [nn] at hc5
      have hk2 : k < syms.length:=by rw[h18]; simp at hc5; omega
      rw[H6 hk2,List.contains_cons] at hi
      refine C0 ?_;refine A8 ?_;refine C4 ?_;refine A8 (A6 ?_);refine A5 J J J (A7 J gU) ?_;refine A5 J J J (A7 J gU) ?_;refine A5 J J J (E3 (j:=k) J J gU gU Tryz.underlying9 (by first|omega|(show _ < 18; omega)|(simp at hh ⊢; omega)) (fun hh=>by first|omega|(show _ < 18; omega)|(simp at hh ⊢; omega))) ?_;refine A5 J J J (A7 J gU) ?_;refine A5 J J J (B6 J J gU gU J) ?_;refine B0 ?_;refine B5 (s:=⟨[(0,_,_),(3,_,_),(4,_,_),(55,_,_)],[],[],[]⟩) (B3 (⟨U J,U J,U J,U J,O⟩) O O) ?_;refine B8 J (fun hc6=>?_) (fun hc6=>?_)
      ·try simp only [nn] at hc6
       have he : c=syms.getD k 0:=UInt8.toNat_inj.1 (by have : ((syms.getD k 0).toNat : Int)=(c.toNat : Int):=hc6; omega)
       refine A8 (A6 ?_);refine A5 J J J (A9 J gU) ?_;refine B0 ?_;refine C1 ?_
       repeat(first|refine tR ?_|refine bR ?_)
       refine C5 J ?_ O;exact G8 (by rw[← hi,he]; simp)
      ·try simp only [nn] at hc6
       have he : (c == syms.getD k 0)=false:=by
        rw[beq_eq_false_iff_ne]
        intro q
        exact hc6 (by show ((syms.getD k 0).toNat : Int)=(c.toNat : Int); rw[q])
       rw[he,Bool.false_or] at hi
       refine C0 ?_;refine A6 ?_;refine A5 J J J (A7 J gU) ?_;refine A5 J J J (D0 J J gU gU J (IntWalk.i64_in _ (by omega))) ?_;refine A5 J J J (A9 J gU) ?_;refine B0 ?_;refine ⟨k + 1,?_,?_,B3 (⟨⟨_,rfl,?_⟩,⟨U J,U J,O⟩⟩) O O⟩
       all_goals (first|rfl|omega|exact ⟨by omega,hi⟩)
     ·try simp only [nn] at hc5
      have hk2 : k=18:=by simp at hc5; omega
      rw[List.drop_of_length_le (by rw[h18]; omega)] at hi
      refine E1 ?_
      repeat(first|refine D3 ?_|refine D4 ?_|refine D2 J ?_)
      refine A8 (A6 ?_);refine A5 J J J (A9 J gU) ?_;refine B0 ?_;refine C1 ?_
      repeat(first|refine tR ?_|refine bR ?_)
      refine C5 J ?_ O;exact G8 (by rw[← hi]; rfl)
theorem Ay (c : UInt8) : (clsE c=2 ↔ H8 (c.toNat : Int)=true)∧(clsE c=3 ↔ K1 (c.toNat : Int)=true)∧(clsE c=1 ↔ P4 c=true):=by
 unfold clsE
 have h1 : P4 c=true→H8 (c.toNat : Int)≠true∧K1 (c.toNat : Int)≠true:=by simp [P4,H8,K1]; omega
 have h2 : H8 (c.toNat : Int)=true→K1 (c.toNat : Int)≠true:=by simp [H8,K1]; omega
 refine ⟨?_,?_,?_⟩
 all_goals (repeat' split)
 all_goals simp_all
theorem Oq (c : UInt8) : M4 (c.toNat : Int)=true ↔ ((clsE c=2∨clsE c=3)∨c.toNat=95)∨c.toNat=35:=by
 rw[(Ay c).1,(Ay c).2.1]
 have e1 : ((c.toNat : Int)=95)=(c.toNat=95):=propext (by omega)
 have e2 : ((c.toNat : Int)=35)=(c.toNat=35):=propext (by omega)
 simp only [M4,Bool.or_eq_true,beq_iff_eq,e1,e2]
theorem Xo (s : List UInt8) (hs : s.length≤2000000) : Ctr sys 149 [xs s] [] (xs (s.take (wdN s))) none []:=by
 refine D1 Tryz.func149 J J J J J J ?_;refine A8 (A6 ?_);refine A5 J J J (A9 J gU) ?_;refine B0 ?_;refine A8 (A6 ?_);refine A5 J J J (A9 J gU) ?_;refine B0 ?_;refine A8 ?_;refine C4 ?_;refine F5 (ι:=Nat) { t:=[(0,_,_)],bx:=[],ow:=[] } (fun k=>[(3,true,xi (k : Int))]) (fun k=>[]) (fun k=>k≤s.length∧wdN (s.drop k) + k=wdN s) (fun k=>s.length - k) (0) (⟨by omega,rfl⟩) (B3 (⟨U J,U J,O⟩) O O) ?_
 intro k hok
 dsimp only [List.cons_append,List.nil_append]
 obtain ⟨hk,hi⟩:=hok
 refine A8 ?_;refine A8 (A6 ?_);refine A5 J J J (A7 J gU) ?_;refine A5 J J J (A7 J gU) ?_;refine L8 J J J J J gU (Tryz.underlying9) ?_ (fun hh=>by simp at hh); intro hlen;refine A5 J J J (B6 J J gU gU J) ?_;refine A5 J J J (A7 J gU) ?_;refine A5 J J J (A7 J gU) ?_;refine A5 J J J (A7 J gU) ?_;refine A5 J J J (E3 (j:=k) J J (fun hh=>hh) (fun hh=>hh) Tryz.underlying9 (by first|omega|(simp at hh ⊢; omega)) (fun hh=>by first|omega|(simp at hh ⊢; omega))) ?_;refine C8 J J J J J J gU (fun hh=>gA ((fun hh=>hh) hh) (rfl)) (X9 _ _ J) J ?_;refine A5 J J J (B6 J J (fun hh=>hh) gU J) ?_;refine A5 J J J (A7 J (fun hh=>hh)) ?_;refine A5 J J J (A7 J gU) ?_;refine H5 (s:=⟨[(0,_,_),(3,_,_),(8,_,_),(14,_,_),(15,_,_)],[],[],[]⟩) (B3 (⟨U J,U J,U J,U J,U J,O⟩) O O) ?_;refine A5 J J J (A7 J gU) ?_;refine A5 J J J (E3 (j:=k) J J (fun hh=>hh) (fun hh=>hh) Tryz.underlying9 (by first|omega|(simp at hh ⊢; omega)) (fun hh=>by first|omega|(simp at hh ⊢; omega))) ?_;refine C8 J J J J J J gU (fun hh=>gA ((fun hh=>hh) hh) (rfl)) (X9 _ _ J) J ?_
 refine A5 J J J (B6 J J (fun hh=>hh) gU J) ?_;refine A5 J J J (D9 J J (fun hh=>hh) (fun hh hi=>gP hh hi)) ?_;refine A5 J J J (A7 J (fun hh=>hh)) ?_;refine A5 J J J (A7 J gU) ?_;refine A5 J J J (A7 J gU) ?_;refine A5 J J J (E3 (j:=k) J J (fun hh=>hh) (fun hh=>hh) Tryz.underlying9 (by first|omega|(simp at hh ⊢; omega)) (fun hh=>by first|omega|(simp at hh ⊢; omega))) ?_;refine A5 J J J (B6 J J (fun hh=>hh) gU J) ?_;refine A5 J J J (D9 J J (fun hh=>hh) (fun hh hi=>gP hh hi)) ?_;refine A5 J J J (A7 J (fun hh=>hh)) ?_;refine H5 (s:=⟨[(0,_,_),(3,_,_),(8,_,_),(27,_,_)],[],[],[]⟩) (B3 (⟨U J,U J,U J,U J,O⟩) O O) ?_;refine A5 J J J (A7 J gU) ?_;refine A5 J J J (A7 J gU) ?_;refine A5 J J J (E3 (j:=k) J J (fun hh=>hh) (fun hh=>hh) Tryz.underlying9 (by first|omega|(simp at hh ⊢; omega)) (fun hh=>by first|omega|(simp at hh ⊢; omega))) ?_;refine A5 J J J (B6 J J (fun hh=>hh) gU J) ?_;refine A5 J J J (D9 J J (fun hh=>hh) (fun hh hi=>gP hh hi)) ?_;refine A5 J J J (E4 J J gU (fun _ hi=>gP J hi)) ?_;refine B0 ?_;refine B5 (s:=⟨[(0,_,_),(3,_,_),(33,_,_)],[],[],[]⟩) (B3 (⟨U J,U J,U J,O⟩) O O) ?_
 refine B8 J (fun hc=>?_) (fun hc=>?_)
 ·try simp only [nn] at hc
  rw[H6 (by omega),wdN,if_pos ((Oq _).2 (by omega))] at hi
  refine C0 ?_;refine C4 ?_;refine A6 ?_;refine A5 J J J (A7 J gU) ?_;refine A5 J J J (D0 J J gU gU J (IntWalk.i64_in _ (by omega))) ?_;refine A5 J J J (A9 J gU) ?_;refine B0 ?_;refine ⟨k + 1,?_,?_,B3 (⟨⟨_,rfl,?_⟩,⟨U J,O⟩⟩) O O⟩
  all_goals (first|rfl|omega)
 ·try simp only [nn] at hc
  have hn : wdN (s.drop k)=0:=by
   by_cases hlt : k < s.length
   ·rw[H6 hlt,wdN,if_neg (fun q=>by have := (Oq _).1 q; omega)]
   ·rw[List.drop_of_length_le (by omega)]; rfl
  have hn2 : wdN s=k:=by omega
  rw[hn2]
  refine E1 ?_
  repeat(first|refine D3 ?_|refine D4 ?_|refine D2 J ?_)
  refine A8 (A6 ?_);refine A5 J J J (A7 J gU) ?_;refine A5 J J J (A7 J gU) ?_;refine A5 J J J (K8 (h':=k) J gU Tryz.underlying9 (fun _=>rfl) (fun _=>⟨_,_,_,rfl,gU,by first|omega|(simp at hh ⊢; omega)⟩) (fun hh=>by first|omega|(simp at hh ⊢; omega)) (fun hh=>by first|omega|(simp at hh ⊢; omega))) ?_;refine A5 J J J (A9 J gU) ?_;refine B0 ?_;refine C1 ?_
  repeat(first|refine tR ?_|refine bR ?_)
  refine C5 J ?_ O
  rfl
theorem Yg (s : List UInt8) (hs : s.length≤2000000) : Ctr sys 128 [xs s] [] (xs (H2 s)) none []:=by
 refine D1 Tryz.func128 J J J J J J ?_;refine A8 (A6 ?_);refine A5 J J J (A9 J gU) ?_;refine B0 ?_;refine A8 (A6 ?_);refine A5 J J J (A9 J gU) ?_;refine B0 ?_;refine A8 ?_;refine A8 (A6 ?_);refine A5 J J J (A9 J gU) ?_;refine B0 ?_;refine C4 ?_;refine F5 (ι:=Nat × Bool) { t:=[(0,_,_)],bx:=[],ow:=[] } (fun p=>[(4,true,xi (p.1 : Int)),(3,true,xb p.2)]) (fun p=>[]) (fun p=>p.1≤s.length + 1∧s.take (O3 p.2 (s.drop p.1) + p.1)=H2 s) (fun p=>s.length + 1 - p.1) ((0,false)) (⟨by simp,rfl⟩) (B3 (⟨U J,U J,U J,O⟩) O O) ?_
 intro p hok
 dsimp only [List.cons_append,List.nil_append] at *
 obtain ⟨k,ins⟩:=p
 dsimp only at hok ⊢
 obtain ⟨hk,hi⟩:=hok
 refine A8 ?_;refine A8 (A6 ?_);refine A5 J J J (A7 J gU) ?_;refine A5 J J J (A7 J gU) ?_;refine L8 J J J J J gU (Tryz.underlying9) ?_ (fun hh=>by simp at hh); intro hlen;refine A5 J J J (B6 J J gU gU J) ?_;refine B0 ?_;refine B8 J (fun hc=>?_) (fun hc=>?_)
 ·try simp only [nn] at hc
  have hd : s.drop k=s.getD k 0 :: s.drop (k + 1):=H6 (by omega)
  refine C0 ?_;refine A8 ?_;refine C4 ?_;refine A8 ?_;refine A8 (A6 ?_);refine A5 J J J (A7 J gU) ?_;refine A5 J J J (A7 J gU) ?_;refine A5 J J J (A7 J gU) ?_;refine A5 J J J (A7 J gU) ?_;refine A5 J J J (E3 (j:=k) J J (fun hh=>hh) (fun hh=>hh) Tryz.underlying9 (by first|omega|(simp at hh ⊢; omega)) (fun hh=>by first|omega|(simp at hh ⊢; omega))) ?_;refine A5 J J J (B6 J J (fun hh=>hh) gU J) ?_;refine A5 J J J (E4 J J gU (fun _ hi=>gP J hi)) ?_;refine B0 ?_;refine B5 (s:=⟨[(0,_,_),(3,_,_),(4,_,_),(17,_,_)],[],[],[]⟩) (B3 (⟨U J,U J,U J,U J,O⟩) O O) ?_;refine B8 J (fun hc2=>?_) (fun hc2=>?_)
  ·try simp only [nn] at hc2
   have hq : ins=true∧(s.getD k 0).toNat=92:=⟨hc2.1,by omega⟩
   have hi2 : s.take (O3 true (s.drop (k + 2)) + (k + 2))=H2 s:=by
    rw[← hi,hd]
    by_cases hlt : k + 1 < s.length
    ·rw[H6 hlt,O3,if_pos hq,show k + 1 + 1=k + 2 from J]
     congr 1; omega
    ·rw[List.drop_of_length_le (by omega),List.drop_of_length_le (by omega),O3,O3,List.take_of_length_le (by omega),List.take_of_length_le (by omega)]
   refine A8 (A6 ?_);refine A5 J J J (A7 J gU) ?_;refine A5 J J J (D0 J J gU gU J (IntWalk.i64_in _ (by omega))) ?_;refine A5 J J J (A9 J gU) ?_;refine B0 ?_;refine E1 ?_
   repeat(first|refine D3 ?_|refine D4 ?_|refine D2 J ?_)
   refine A6 ?_;refine A5 J J J (A7 J gU) ?_;refine A5 J J J (D0 J J gU gU J (IntWalk.i64_in _ (by omega))) ?_;refine A5 J J J (A9 J gU) ?_;refine B0 ?_;refine ⟨(k + 2,true),?_,?_,B3 (⟨⟨_,rfl,?_⟩,⟨⟨_,rfl,?_⟩,⟨U J,O⟩⟩⟩) O O⟩
   all_goals (first|rfl|omega|exact ⟨by omega,hi2⟩|exact tx (N0 hq.1))
  ·try simp only [nn] at hc2
   have hq : ¬(ins=true∧(s.getD k 0).toNat=92):=by
    rintro ⟨q1,q2⟩
    rcases hc2 with z | z
    ·rw[q1] at z; simp at z
    ·omega
   have hlast : k + 1=s.length → ∀ i2 : Bool,s.take (O3 i2 (s.drop (k + 1)) + (k + 1))=H2 s:=by
    intro e i2
    rw[← hi,hd,List.drop_of_length_le (by omega),List.take_of_length_le (by omega),O3,List.take_of_length_le (by omega)]
   have hcut : k + 1 < s.length→(if (s.getD k 0).toNat=34 then !ins else ins)=false∧(s.getD k 0).toNat=35∧(s.getD (k + 1) 0).toNat=35→s.take k=H2 s:=by
    intro e q
    rw[← hi,hd,H6 e,O3,if_neg hq,if_pos q,Nat.zero_add]
   have hnext : k + 1 < s.length → ¬((if (s.getD k 0).toNat=34 then !ins else ins)=false∧(s.getD k 0).toNat=35∧(s.getD (k + 1) 0).toNat=35)→s.take (O3 (if (s.getD k 0).toNat=34 then !ins else ins) (s.drop (k + 1)) + (k + 1))=H2 s:=by
    intro e q
    rw[← hi,hd,H6 e,O3,if_neg hq,if_neg q]
    congr 1; omega
   have h35 : k + 1 < s.length→((s.take (k + 2)).drop k=[35,35] ↔ (s.getD k 0).toNat=35∧(s.getD (k + 1) 0).toNat=35):=by
    intro e
    have e1 : (s.take (k + 2)).drop k=[s.getD k 0,s.getD (k + 1) 0]:=by
     rw[H6 (by simp; omega),H6 (by simp; omega),List.drop_of_length_le (by simp; omega),Fg _ _ (by omega),Fg _ _ (by omega)]
    rw[e1]
    constructor
    ·intro q; simp only [List.cons.injEq,and_true] at q; rw[q.1,q.2]; exact ⟨rfl,rfl⟩
    ·rintro ⟨q1,q2⟩
     rw[UInt8.toNat_inj.1 (show (s.getD k 0).toNat=(35 : UInt8).toNat from q1),UInt8.toNat_inj.1 (show (s.getD (k + 1) 0).toNat=(35 : UInt8).toNat from q2)]
   refine C0 ?_;refine A8 ?_;refine A8 (A6 ?_);refine A5 J J J (A7 J gU) ?_;refine A5 J J J (A7 J gU) ?_;refine A5 J J J (E3 (j:=k) J J gU gU Tryz.underlying9 (by first|omega|(simp at hh ⊢; omega)) (fun hh=>by first|omega|(simp at hh ⊢; omega))) ?_;refine A5 J J J (B6 J J gU gU J) ?_;refine B0 ?_;refine B8 J (fun hc3=>?_) (fun hc3=>?_)
   ·try simp only [nn] at hc3
    rw[if_pos (by omega)] at hcut hnext
    refine A6 ?_;refine A5 J J J (A7 J gU) ?_;refine A5 J J J (F2 J gU) ?_;refine A5 J J J (A9 J gU) ?_;refine B0 ?_;refine B5 (s:=⟨[(0,_,_),(3,_,_),(4,_,_)],[],[],[]⟩) (B3 (⟨U J,U J,U J,O⟩) O O) ?_;refine A8 (A6 ?_);refine A5 J J J (A7 J gU) ?_;refine A5 J J J (F2 J gU) ?_;refine A5 J J J (A7 J gU) ?_;refine A5 J J J (A7 J gU) ?_;refine A5 J J J (D0 J J (fun hh=>hh) gU J (IntWalk.i64_in _ (by omega))) ?_;refine A5 J J J (A7 J gU) ?_;refine A5 J J J (M0 J (fun hh=>hh) (Tryz.underlying9)) ?_;refine A5 J J J (B6 J J (fun hh=>hh) (fun hh=>hh) J) ?_;refine A5 J J J (E4 J J gU (fun _ hi=>gP J hi)) ?_;refine A5 J J J (A7 J gU) ?_;refine A5 J J J (A7 J gU) ?_;refine A5 J J J (A7 J gU) ?_;refine H5 (s:=⟨[(0,_,_),(3,_,_),(4,_,_),(35,_,_),(36,_,_),(37,_,_)],[],[],[]⟩) (B3 (⟨U J,U J,U J,U J,U J,U J,O⟩) O O) ?_;refine A5 J J J (A7 J gU) ?_;refine A5 J J J (D0 J J (fun hh=>hh) gU J (IntWalk.i64_in _ (by omega))) ?_;refine A5 J J J (K8 (l:=k) (h':=(k + 2)) J (fun hh=>hh) Tryz.underlying9 (fun _=>⟨_,_,_,rfl,(fun hh=>hh),by first|omega|(simp at hh ⊢; omega)⟩) (fun _=>⟨_,_,_,rfl,(fun hh=>hh),by first|omega|(simp at hh ⊢; omega)⟩) (fun hh=>by first|omega|(simp at hh ⊢; omega)) (fun hh=>by first|omega|(simp at hh ⊢; omega))) ?_
    refine A5 J J J (H1 J J (fun hh=>hh) gU J) ?_;refine A5 J J J (E4 J J gU (fun _ hi=>gP J hi)) ?_;refine B0 ?_;refine B5 (s:=⟨[(0,_,_),(3,_,_),(4,_,_),(42,_,_)],[],[],[]⟩) (B3 (⟨U J,U J,U J,U J,O⟩) O O) ?_;refine B8 J (fun hc4=>?_) (fun hc4=>?_)
    ·try simp only [nn] at hc4
     exfalso
     have := (h35 (by omega)).1 hc4.2
     omega
    ·try simp only [nn] at hc4
     have hfin : s.take (O3 (!ins) (s.drop (k + 1)) + (k + 1))=H2 s:=by
      by_cases hlt : k + 1 < s.length
      ·exact hnext hlt (by omega)
      ·exact hlast (by omega) _
     refine C0 ?_;refine A6 ?_;refine A5 J J J (A7 J gU) ?_;refine A5 J J J (D0 J J gU gU J (IntWalk.i64_in _ (by omega))) ?_;refine A5 J J J (A9 J gU) ?_;refine B0 ?_;refine ⟨(k + 1,!ins),?_,?_,B3 (⟨⟨_,rfl,?_⟩,⟨⟨_,rfl,?_⟩,⟨U J,O⟩⟩⟩) O O⟩
     all_goals (first|rfl|omega|exact ⟨by omega,hfin⟩)
   ·try simp only [nn] at hc3
    rw[if_neg (by omega)] at hcut hnext
    refine C0 ?_;refine A8 (A6 ?_);refine A5 J J J (A7 J gU) ?_;refine A5 J J J (F2 J gU) ?_;refine A5 J J J (A7 J gU) ?_;refine A5 J J J (A7 J gU) ?_;refine A5 J J J (D0 J J (fun hh=>hh) gU J (IntWalk.i64_in _ (by omega))) ?_;refine A5 J J J (A7 J gU) ?_;refine A5 J J J (M0 J (fun hh=>hh) (Tryz.underlying9)) ?_;refine A5 J J J (B6 J J (fun hh=>hh) (fun hh=>hh) J) ?_;refine H5 (s:=⟨[(0,_,_),(3,_,_),(4,_,_),(28,_,_),(33,_,_)],[],[],[]⟩) (B3 (⟨U J,U J,U J,U J,U J,O⟩) O O) ?_;refine A5 J J J (E4 J J gU (fun _ hi=>gP J hi)) ?_;refine A5 J J J (A7 J gU) ?_;refine A5 J J J (A7 J gU) ?_;refine A5 J J J (A7 J gU) ?_;refine A5 J J J (A7 J gU) ?_;refine A5 J J J (D0 J J (fun hh=>hh) gU J (IntWalk.i64_in _ (by omega))) ?_;refine A5 J J J (K8 (l:=k) (h':=(k + 2)) J (fun hh=>hh) Tryz.underlying9 (fun _=>⟨_,_,_,rfl,(fun hh=>hh),by first|omega|(simp at hh ⊢; omega)⟩) (fun _=>⟨_,_,_,rfl,(fun hh=>hh),by first|omega|(simp at hh ⊢; omega)⟩) (fun hh=>by first|omega|(simp at hh ⊢; omega)) (fun hh=>by first|omega|(simp at hh ⊢; omega))) ?_
    refine A5 J J J (H1 J J (fun hh=>hh) gU J) ?_;refine A5 J J J (E4 J J gU (fun _ hi=>gP J hi)) ?_;refine B0 ?_;refine B5 (s:=⟨[(0,_,_),(3,_,_),(4,_,_),(42,_,_)],[],[],[]⟩) (B3 (⟨U J,U J,U J,U J,O⟩) O O) ?_;refine B8 J (fun hc4=>?_) (fun hc4=>?_)
    ·try simp only [nn] at hc4
     have := (h35 (by omega)).1 hc4.2
     have hfin:=hcut (by omega) ⟨hc4.1.1,this⟩
     refine A8 (A6 ?_);refine A5 J J J (A7 J gU) ?_;refine A5 J J J (A7 J gU) ?_;refine A5 J J J (K8 (h':=k) J gU Tryz.underlying9 (fun _=>rfl) (fun _=>⟨_,_,_,rfl,gU,by first|omega|(simp at hh ⊢; omega)⟩) (fun hh=>by first|omega|(simp at hh ⊢; omega)) (fun hh=>by first|omega|(simp at hh ⊢; omega))) ?_;refine A5 J J J (A9 J gU) ?_;refine B0 ?_;refine C1 ?_
     repeat(first|refine tR ?_|refine bR ?_)
     refine C5 J ?_ O
     (rw[← hfin]; rfl)
    ·try simp only [nn] at hc4
     have hfin : s.take (O3 ins (s.drop (k + 1)) + (k + 1))=H2 s:=by
      by_cases hlt : k + 1 < s.length
      ·refine hnext hlt ?_
       rintro ⟨q1,q2⟩
       have q3:=(h35 hlt).2 q2
       rcases hc4 with z | z
       ·rcases z with z | z
        ·rw[q1] at z; simp at z
        ·omega
       ·exact z q3
      ·exact hlast (by omega) _
     refine C0 ?_;refine A6 ?_;refine A5 J J J (A7 J gU) ?_;refine A5 J J J (D0 J J gU gU J (IntWalk.i64_in _ (by omega))) ?_;refine A5 J J J (A9 J gU) ?_;refine B0 ?_;refine ⟨(k + 1,ins),?_,?_,B3 (⟨⟨_,rfl,?_⟩,⟨⟨_,rfl,?_⟩,⟨U J,O⟩⟩⟩) O O⟩
     all_goals (first|rfl|omega|exact ⟨by omega,hfin⟩)
 ·try simp only [nn] at hc
  rw[List.take_of_length_le (by omega)] at hi
  refine E1 ?_
  repeat(first|refine D3 ?_|refine D4 ?_|refine D2 J ?_)
  refine A8 (A6 ?_);refine A5 J J J (A7 J gU) ?_;refine A5 J J J (A9 J gU) ?_;refine B0 ?_;refine C1 ?_
  repeat(first|refine tR ?_|refine bR ?_)
  refine C5 J ?_ O
  (rw[← hi]; rfl)
def Ed : List UInt8→Nat→UInt8→Int→Int
 | [],_,_,r=>r
 | b :: l,k,c,r=>Ed l (k + 1) c (if c.toNat=b.toNat then (k : Int) else r)
theorem uCK : ∀ n : Fin 256,Ed hexs 0 (UInt8.ofNat n.val) (-1)=if hexB (UInt8.ofNat n.val)=true then hexV (UInt8.ofNat n.val) else -1:=by decide +kernel
theorem Sl (c : UInt8) : Ed hexs 0 c (-1)=if hexB c=true then hexV c else -1:=by
 have := uCK ⟨c.toNat,c.toNat_lt⟩
 rwa [show UInt8.ofNat c.toNat=c from UInt8.ofNat_toNat] at this
def forms : List UInt8:=[110,10,116,9,34,34,92,92]
def Ke : List UInt8→UInt8→Option UInt8
 | a :: b :: l,c=>if c.toNat=a.toNat then some b else Ke l c
 | _,_=>none
theorem uBo {a b : Int} {n m : Int} (h : a=b) (hn : n=m) : X.tup [.c (.i .u8 a), .c (.i .i64 n)]=X.tup [.c (.i .u8 b), .c (.i .i64 m)]:=by rw[h,hn]
theorem Py (s : List UInt8) (hs : s.length≤2000000) : Ctr sys 164 [xs s] [] (.tup [.c (.i .u8 ((escE s).1.toNat : Int)), .c (.i .i64 ((escE s).2 : Int))]) none []:=by
 have h8 : forms.length=8:=rfl
 have h16 : hexs.length=16:=rfl
 refine D1 Tryz.func164 J J J J J J ?_;refine A8 (A6 ?_);refine A5 J J J (A9 J gU) ?_;refine A5 J J J (A9 J gU) ?_;refine B0 ?_;refine A8 ?_;refine A8 (A6 ?_);refine A5 J J J (A7 J gU) ?_;refine L8 J J J J J gU (Tryz.underlying9) ?_ (fun hh=>by simp at hh); intro hlen;refine A5 J J J (B6 J J gU gU J) ?_;refine B0 ?_;refine B5 (s:=⟨[(0,_,_),(12,_,_)],[],[],[]⟩) (B3 (⟨U J,U J,O⟩) O O) ?_;refine B8 J (fun hc=>?_) (fun hc=>?_)
 ·try simp only [nn] at hc
  have : s=[]:=by cases s; rfl; simp at hc; omega
  subst this
  refine A8 (A6 ?_);refine A5 J J J (A9 J gU) ?_;refine A5 J J J (A9 J gU) ?_;refine B0 ?_;refine C1 ?_
  repeat(first|refine tR ?_|refine bR ?_)
  refine C5 J ?_ O
  rfl
 ·try simp only [nn] at hc
  have he:=uBJ (s:=s) (k:=0) (by omega)
  rw[List.drop_zero,Nat.zero_add,Nat.zero_add] at he
  have hu:=(s.getD 0 0).toNat_lt
  refine C0 ?_;refine A8 (A6 ?_);refine A5 J J J (A9 J gU) ?_;refine B0 ?_;refine A8 ?_;refine A8 (A6 ?_);refine A5 J J J (A9 J gU) ?_;refine B0 ?_;refine C4 ?_;refine F5 (ι:=Nat) { t:=[(0,_,_),(4,_,_)],bx:=[],ow:=[] } (fun k=>[(5,true,xi (k : Int))]) (fun k=>[]) (fun k=>k≤8∧k % 2=0∧Ke (forms.drop k) (s.getD 0 0)=Ke forms (s.getD 0 0)) (fun k=>8 - k) (0) (⟨by omega,by omega,rfl⟩) (B3 (⟨U J,U J,U J,O⟩) O O) ?_
  intro k hok
  dsimp only [List.cons_append,List.nil_append]
  obtain ⟨hk,hk2,hi⟩:=hok
  refine A8 ?_;refine A8 (A6 ?_);refine A5 J J J (A7 J gU) ?_;refine A5 J J J (A7 J gU) ?_;refine L8 J J J J J gU (Tryz.underlying9) ?_ (fun hh=>by simp at hh); intro hlen;refine A5 J J J (B6 J J gU gU J) ?_;refine B0 ?_;refine B8 J (fun hc2=>?_) (fun hc2=>?_)
  ·try simp only [nn] at hc2
   have hk3 : k < 7:=by simp at hc2; omega
   rw[H6 (by omega),H6 (by omega),Ke] at hi
   refine C0 ?_;refine A8 ?_;refine C4 ?_;refine A8 ?_;refine awp_drawn' (by kernel_rfl) ?_;refine B9 J J J J (A7 J gU) ?_;refine B9 J J J J (E3 (j:=0) J J gU gU Tryz.underlying9 (by first|omega|(show _ < 8; omega)|(simp at hh ⊢; omega)) (fun hh=>by first|omega|(show _ < 8; omega)|(simp at hh ⊢; omega))) ?_;refine B9 J J J J (A7 J gU) ?_;refine B9 J J J J (A7 J gU) ?_;refine B9 J J J J (E3 (j:=k) J J gU gU Tryz.underlying9 (by first|omega|(show _ < 8; omega)|(simp at hh ⊢; omega)) (fun hh=>by first|omega|(show _ < 8; omega)|(simp at hh ⊢; omega))) ?_;refine B9 J J J J (B6 J J gU gU J) ?_;refine F8 (by kernel_rfl) ?_;refine B5 (s:=⟨[(0,_,_),(4,_,_),(5,_,_),(24,_,_)],[],[],[]⟩) (B3 (⟨U J,U J,U J,U J,O⟩) O O) ?_;refine B8 J (fun hc3=>?_) (fun hc3=>?_)
   ·try simp only [nn] at hc3
    have hq : (s.getD 0 0).toNat=(forms.getD k 0).toNat:=by have : ((s.getD 0 0).toNat : Int)=((forms.getD k 0).toNat : Int):=hc3; omega
    rw[if_pos hq] at hi
    have hesc : escE s=(forms.getD (k + 1) 0,1):=by
     have hks : k=0∨k=2∨k=4∨k=6:=by omega
     rw[he]
     rcases hks with rfl | rfl | rfl | rfl
     ·rw[if_pos (by rw[hq]; rfl)]; rfl
     ·rw[if_neg (by rw[hq]; decide),if_pos (by rw[hq]; rfl)]; rfl
     ·rw[if_neg (by rw[hq]; decide),if_neg (by rw[hq]; decide),if_pos (by rw[hq]; decide),UInt8.toNat_inj.1 hq]; rfl
     ·rw[if_neg (by rw[hq]; decide),if_neg (by rw[hq]; decide),if_pos (by rw[hq]; decide),UInt8.toNat_inj.1 hq]; rfl
    rw[hesc]
    refine A8 (A6 ?_);refine A5 J J J (A7 J gU) ?_;refine A5 J J J (A7 J gU) ?_;refine A5 J J J (D0 J J gU gU J (IntWalk.i64_in _ (by omega))) ?_;refine A5 J J J (E3 (j:=k + 1) J J gU gU Tryz.underlying9 (by first|omega|(show _ < 8; omega)|(simp at hh ⊢; omega)) (fun hh=>by first|omega|(show _ < 8; omega)|(simp at hh ⊢; omega))) ?_;refine A5 J J J (A9 J gU) ?_;refine A5 J J J (A9 J gU) ?_;refine B0 ?_;refine C1 ?_
    repeat(first|refine tR ?_|refine bR ?_)
    refine C5 J ?_ O
    rfl
   ·try simp only [nn] at hc3
    have hq : ¬(s.getD 0 0).toNat=(forms.getD k 0).toNat:=by intro q; exact hc3 (by show ((s.getD 0 0).toNat : Int)=((forms.getD k 0).toNat : Int); rw[q])
    rw[if_neg hq] at hi
    refine C0 ?_;refine A6 ?_;refine A5 J J J (A7 J gU) ?_;refine A5 J J J (D0 J J gU gU J (IntWalk.i64_in _ (by omega))) ?_;refine A5 J J J (A9 J gU) ?_;refine B0 ?_;refine ⟨k + 2,?_,?_,B3 (⟨⟨_,rfl,?_⟩,⟨U J,U J,O⟩⟩) O O⟩
    all_goals (first|rfl|omega|exact ⟨by omega,by omega,hi⟩)
  ·try simp only [nn] at hc2
   have hk3 : k=8:=by simp at hc2; omega
   rw[List.drop_of_length_le (by omega),show Ke [] (s.getD 0 0)=none from J] at hi
   have hno : (s.getD 0 0).toNat≠110∧(s.getD 0 0).toNat≠116∧(s.getD 0 0).toNat≠34∧(s.getD 0 0).toNat≠92:=by
    have hf : ∀ c : UInt8,Ke forms c=if c.toNat=110 then some 10 else if c.toNat=116 then some 9 else if c.toNat=34 then some 34 else if c.toNat=92 then some 92 else none:=fun c=>rfl
    rw[hf] at hi
    refine ⟨fun q=>?_,fun q=>?_,fun q=>?_,fun q=>?_⟩
    ·rw[if_pos q] at hi; cases hi
    ·rw[if_neg (by omega),if_pos q] at hi; cases hi
    ·rw[if_neg (by omega),if_neg (by omega),if_pos q] at hi; cases hi
    ·rw[if_neg (by omega),if_neg (by omega),if_neg (by omega),if_pos q] at hi; cases hi
   rw[if_neg hno.1,if_neg hno.2.1,if_neg (by omega)] at he
   refine E1 ?_
   repeat(first|refine D3 ?_|refine D4 ?_|refine D2 J ?_)
   refine A8 (A6 ?_);refine A5 J J J (A9 J gU) ?_;refine B0 ?_;refine B5 (s:=⟨[(0,_,_),(6,_,_)],[],[],[]⟩) (B3 (⟨U J,U J,O⟩) O O) ?_;refine A8 ?_;refine A8 (A6 ?_);refine A5 J J J (A7 J gU) ?_;refine A5 J J J (E3 (j:=0) J J gU gU Tryz.underlying9 (by first|omega|(show _ < 16; omega)|(simp at hh ⊢; omega)) (fun hh=>by first|omega|(show _ < 16; omega)|(simp at hh ⊢; omega))) ?_;refine A5 J J J (B6 J J gU gU J) ?_;refine A5 J J J (A7 J gU) ?_;refine A5 J J J (A7 J gU) ?_;refine A5 J J J (M0 J (fun hh=>hh) (Tryz.underlying9)) ?_;refine A5 J J J (B6 J J (fun hh=>hh) gU J) ?_;refine A5 J J J (D9 J J gU (fun _ hi=>gP J hi)) ?_;refine B0 ?_;refine B5 (s:=⟨[(0,_,_),(6,_,_),(36,_,_)],[],[],[]⟩) (B3 (⟨U J,U J,U J,O⟩) O O) ?_;refine B8 J (fun hc3=>?_) (fun hc3=>?_)
   ·try simp only [nn] at hc3
    rw[if_neg (by omega)] at he
    rw[he]
    refine A8 (A6 ?_);refine A5 J J J (A9 J gU) ?_;refine A5 J J J (A9 J gU) ?_;refine B0 ?_;refine C1 ?_
    repeat(first|refine tR ?_|refine bR ?_)
    refine C5 J ?_ O
    rfl
   ·try simp only [nn] at hc3
    refine C0 ?_;refine A8 (A6 ?_);refine A5 J J J (A9 J gU) ?_;refine A5 J J J (A9 J gU) ?_;refine B0 ?_;refine A8 ?_;refine A8 (A6 ?_);refine A5 J J J (A9 J gU) ?_;refine B0 ?_;refine C4 ?_;refine F5 (ι:=Nat × Int × Int) { t:=[(0,_,_),(6,_,_)],bx:=[],ow:=[] } (fun q=>[(9,true,xi (q.1 : Int)),(7,true,xi q.2.1),(8,true,xi q.2.2)]) (fun q=>[]) (fun q=>q.1≤16 ∧ -1≤q.2.1∧q.2.1≤16 ∧ -1≤q.2.2∧q.2.2≤16∧Ed (hexs.drop q.1) q.1 (s.getD 1 0) q.2.1=Ed hexs 0 (s.getD 1 0) (-1)∧Ed (hexs.drop q.1) q.1 (s.getD 2 0) q.2.2=Ed hexs 0 (s.getD 2 0) (-1)) (fun q=>16 - q.1) ((0,-1,-1)) (⟨by simp,by simp,by simp,by simp,by simp,rfl,rfl⟩) (B3 (⟨U J,U J,U J,U J,U J,O⟩) O O) ?_
    intro q hok
    dsimp only [List.cons_append,List.nil_append] at *
    obtain ⟨j,a,b⟩:=q
    dsimp only at hok ⊢
    obtain ⟨hj,ha0,ha1,hb0,hb1,hi1,hi2⟩:=hok
    refine A8 ?_;refine A8 (A6 ?_);refine A5 J J J (A7 J gU) ?_;refine A5 J J J (A7 J gU) ?_;refine L8 J J J J J gU (Tryz.underlying9) ?_ (fun hh=>by simp at hh); intro hlen;refine A5 J J J (B6 J J gU gU J) ?_;refine B0 ?_;refine B8 J (fun hc4=>?_) (fun hc4=>?_)
    ·try simp only [nn] at hc4
     have hj2 : j < 16:=by simp at hc4; omega
     rw[H6 (by omega),Ed] at hi1 hi2
     refine C0 ?_;refine A8 ?_;refine C4 ?_;refine A8 ?_;refine A8 ?_;refine awp_drawn' (by kernel_rfl) ?_;refine B9 J J J J (A7 J gU) ?_;refine B9 J J J J (E3 (j:=1) J J gU gU Tryz.underlying9 (by first|omega|(show _ < 16; omega)|(simp at hh ⊢; omega)) (fun hh=>by first|omega|(show _ < 16; omega)|(simp at hh ⊢; omega))) ?_;refine B9 J J J J (A7 J gU) ?_;refine B9 J J J J (A7 J gU) ?_;refine B9 J J J J (E3 (j:=j) J J gU gU Tryz.underlying9 (by first|omega|(show _ < 16; omega)|(simp at hh ⊢; omega)) (fun hh=>by first|omega|(show _ < 16; omega)|(simp at hh ⊢; omega))) ?_;refine B9 J J J J (B6 J J gU gU J) ?_;refine F8 (by kernel_rfl) ?_;refine B5 (s:=⟨[(0,_,_),(6,_,_),(7,_,_),(8,_,_),(9,_,_),(48,_,_)],[],[],[]⟩) (B3 (⟨U J,U J,U J,U J,U J,U J,O⟩) O O) ?_;refine B8 J (fun hc5=>?_) (fun hc5=>?_)
     ·try simp only [nn] at hc5
      rw[if_pos (by have : ((s.getD 1 0).toNat : Int)=((hexs.getD j 0).toNat : Int):=hc5; omega)] at hi1
      refine A6 ?_;refine A5 J J J (A7 J gU) ?_;refine A5 J J J (A9 J gU) ?_;refine B0 ?_;refine A8 ?_;refine awp_drawn' (by kernel_rfl) ?_;refine B9 J J J J (A7 J gU) ?_;refine B9 J J J J (E3 (j:=2) J J gU gU Tryz.underlying9 (by first|omega|(show _ < 16; omega)|(simp at hh ⊢; omega)) (fun hh=>by first|omega|(show _ < 16; omega)|(simp at hh ⊢; omega))) ?_;refine B9 J J J J (A7 J gU) ?_;refine B9 J J J J (A7 J gU) ?_;refine B9 J J J J (E3 (j:=j) J J gU gU Tryz.underlying9 (by first|omega|(show _ < 16; omega)|(simp at hh ⊢; omega)) (fun hh=>by first|omega|(show _ < 16; omega)|(simp at hh ⊢; omega))) ?_;refine B9 J J J J (B6 J J gU gU J) ?_;refine F8 (by kernel_rfl) ?_;refine B5 (s:=⟨[(0,_,_),(6,_,_),(7,_,_),(8,_,_),(9,_,_),(55,_,_)],[],[],[]⟩) (B3 (⟨U J,U J,U J,U J,U J,U J,O⟩) O O) ?_;refine B8 J (fun hc6=>?_) (fun hc6=>?_)
      ·try simp only [nn] at hc6
       rw[if_pos (by have : ((s.getD 2 0).toNat : Int)=((hexs.getD j 0).toNat : Int):=hc6; omega)] at hi2
       refine A6 ?_;refine A5 J J J (A7 J gU) ?_;refine A5 J J J (A9 J gU) ?_;refine B0 ?_;refine A6 ?_;refine A5 J J J (A7 J gU) ?_;refine A5 J J J (D0 J J gU gU J (IntWalk.i64_in _ (by omega))) ?_;refine A5 J J J (A9 J gU) ?_;refine B0 ?_;refine ⟨(j + 1,(j : Int),(j : Int)),?_,?_,B3 (⟨⟨_,rfl,?_⟩,⟨⟨_,rfl,?_⟩,⟨⟨_,rfl,?_⟩,⟨U J,U J,O⟩⟩⟩⟩) O O⟩
       all_goals (first|rfl|omega|(refine ⟨?_,?_,?_,?_,?_,hi1,hi2⟩ <;> (dsimp only; omega)))
      ·try simp only [nn] at hc6
       rw[if_neg (by intro q; exact hc6 (by show ((s.getD 2 0).toNat : Int)=((hexs.getD j 0).toNat : Int); rw[q]))] at hi2
       refine C0 ?_;refine A6 ?_;refine A5 J J J (A7 J gU) ?_;refine A5 J J J (D0 J J gU gU J (IntWalk.i64_in _ (by omega))) ?_;refine A5 J J J (A9 J gU) ?_;refine B0 ?_;refine ⟨(j + 1,(j : Int),b),?_,?_,B3 (⟨⟨_,rfl,?_⟩,⟨⟨_,rfl,?_⟩,⟨⟨_,rfl,?_⟩,⟨U J,U J,O⟩⟩⟩⟩) O O⟩
       all_goals (first|rfl|omega|(refine ⟨?_,?_,?_,?_,?_,hi1,hi2⟩ <;> (dsimp only; omega)))
     ·try simp only [nn] at hc5
      rw[if_neg (by intro q; exact hc5 (by show ((s.getD 1 0).toNat : Int)=((hexs.getD j 0).toNat : Int); rw[q]))] at hi1
      refine C0 ?_;refine A8 ?_;refine awp_drawn' (by kernel_rfl) ?_;refine B9 J J J J (A7 J gU) ?_;refine B9 J J J J (E3 (j:=2) J J gU gU Tryz.underlying9 (by first|omega|(show _ < 16; omega)|(simp at hh ⊢; omega)) (fun hh=>by first|omega|(show _ < 16; omega)|(simp at hh ⊢; omega))) ?_;refine B9 J J J J (A7 J gU) ?_;refine B9 J J J J (A7 J gU) ?_;refine B9 J J J J (E3 (j:=j) J J gU gU Tryz.underlying9 (by first|omega|(show _ < 16; omega)|(simp at hh ⊢; omega)) (fun hh=>by first|omega|(show _ < 16; omega)|(simp at hh ⊢; omega))) ?_;refine B9 J J J J (B6 J J gU gU J) ?_;refine F8 (by kernel_rfl) ?_;refine B5 (s:=⟨[(0,_,_),(6,_,_),(7,_,_),(8,_,_),(9,_,_),(55,_,_)],[],[],[]⟩) (B3 (⟨U J,U J,U J,U J,U J,U J,O⟩) O O) ?_;refine B8 J (fun hc6=>?_) (fun hc6=>?_)
      ·try simp only [nn] at hc6
       rw[if_pos (by have : ((s.getD 2 0).toNat : Int)=((hexs.getD j 0).toNat : Int):=hc6; omega)] at hi2
       refine A6 ?_;refine A5 J J J (A7 J gU) ?_;refine A5 J J J (A9 J gU) ?_;refine B0 ?_;refine A6 ?_;refine A5 J J J (A7 J gU) ?_;refine A5 J J J (D0 J J gU gU J (IntWalk.i64_in _ (by omega))) ?_;refine A5 J J J (A9 J gU) ?_;refine B0 ?_;refine ⟨(j + 1,a,(j : Int)),?_,?_,B3 (⟨⟨_,rfl,?_⟩,⟨⟨_,rfl,?_⟩,⟨⟨_,rfl,?_⟩,⟨U J,U J,O⟩⟩⟩⟩) O O⟩
       all_goals (first|rfl|omega|(refine ⟨?_,?_,?_,?_,?_,hi1,hi2⟩ <;> (dsimp only; omega)))
      ·try simp only [nn] at hc6
       rw[if_neg (by intro q; exact hc6 (by show ((s.getD 2 0).toNat : Int)=((hexs.getD j 0).toNat : Int); rw[q]))] at hi2
       refine C0 ?_;refine A6 ?_;refine A5 J J J (A7 J gU) ?_;refine A5 J J J (D0 J J gU gU J (IntWalk.i64_in _ (by omega))) ?_;refine A5 J J J (A9 J gU) ?_;refine B0 ?_;refine ⟨(j + 1,a,b),?_,?_,B3 (⟨⟨_,rfl,?_⟩,⟨⟨_,rfl,?_⟩,⟨⟨_,rfl,?_⟩,⟨U J,U J,O⟩⟩⟩⟩) O O⟩
       all_goals (first|rfl|omega|(refine ⟨?_,?_,?_,?_,?_,hi1,hi2⟩ <;> (dsimp only; omega)))
    ·try simp only [nn] at hc4
     have hj2 : j=16:=by simp at hc4; omega
     rw[List.drop_of_length_le (by omega),Ed,Sl] at hi1 hi2
     refine E1 ?_
     repeat(first|refine D3 ?_|refine D4 ?_|refine D2 J ?_)
     refine A8 ?_;refine A8 (A6 ?_);refine A5 J J J (A7 J gU) ?_;refine A5 J J J (B6 J J gU gU J) ?_;refine A5 J J J (A7 J gU) ?_;refine A5 J J J (A7 J gU) ?_;refine A5 J J J (B6 J J (fun hh=>hh) gU J) ?_;refine A5 J J J (D9 J J gU (fun _ hi=>gP J hi)) ?_;refine B0 ?_;refine B5 (s:=⟨[(7,_,_),(8,_,_),(62,_,_)],[],[],[]⟩) (B3 (⟨U J,U J,U J,O⟩) O O) ?_;refine B8 J (fun hc5=>?_) (fun hc5=>?_)
     ·try simp only [nn] at hc5
      rw[if_neg (by
       rintro ⟨-, -, q1,q2⟩
       have := Gt q1
       have := Gt q2
       rw[if_pos q1] at hi1
       rw[if_pos q2] at hi2
       omega)] at he
      rw[he]
      refine A8 (A6 ?_);refine A5 J J J (A9 J gU) ?_;refine A5 J J J (A9 J gU) ?_;refine B0 ?_;refine C1 ?_
      repeat(first|refine tR ?_|refine bR ?_)
      refine C5 J ?_ O
      rfl
     ·try simp only [nn] at hc5
      have x1 : hexB (s.getD 1 0)=true:=by
       by_cases q : hexB (s.getD 1 0)=true
       ·exact q
       ·rw[if_neg q] at hi1; omega
      have x2 : hexB (s.getD 2 0)=true:=by
       by_cases q : hexB (s.getD 2 0)=true
       ·exact q
       ·rw[if_neg q] at hi2; omega
      have x3:=Gt x1
      have x4:=Gt x2
      rw[if_pos x1] at hi1
      rw[if_pos x2] at hi2
      rw[if_pos ⟨by omega,by omega,x1,x2⟩] at he
      rw[he]
      refine C0 ?_;refine A8 (A6 ?_);refine A5 J J J (A7 J gU) ?_;refine A5 J J J (D0 J J gU gU J (IntWalk.i64_in _ (by omega))) ?_;refine A5 J J J (A7 J gU) ?_;refine A5 J J J (D0 J J gU gU J (IntWalk.i64_in _ (by omega))) ?_;refine A5 J J J (Es J gU ⟨_,Tryz.underlying3⟩ (Tryz.underlying5) (IntWalk.u8_in _ (by omega))) ?_;refine A5 J J J (A9 J gU) ?_;refine A5 J J J (A9 J gU) ?_;refine B0 ?_;refine C1 ?_
      repeat(first|refine tR ?_|refine bR ?_)
      refine C5 J ?_ O
      (refine uBo ?_ J; exact uCf (by omega) (by omega))
theorem Wf (s : List UInt8) (k : Nat) (hs : s.length≤2000000) : Ctr sys 164 [xs ((s.take s.length).drop k)] [] (.tup [.c (.i .u8 ((escE (s.drop k)).1.toNat : Int)), .c (.i .i64 ((escE (s.drop k)).2 : Int))]) none []:=by
 rw[List.take_length]
 exact Py _ (by simp; omega)
theorem Wg (s : List UInt8) (h : 0 < s.length) (hs : s.length≤2000000) : Ctr sys 151 [xs s] [] (xsn (litE s)) none []:=by
 refine D1 Tryz.func151 J J J J J J ?_;refine A8 (A6 ?_);refine A5 J J J (A9 J gU) ?_;refine A5 J J J (A9 J gU) ?_;refine B0 ?_;refine A8 (A6 ?_);refine C3 J (H9 (.inr J) J J) ?_;refine B0 ?_;refine A8 ?_;refine A8 (A6 ?_);refine A5 J J J (A9 J gU) ?_;refine B0 ?_;refine C4 ?_;refine F5 (ι:=Nat × List UInt8) { t:=[(0,_,_)],bx:=[],ow:=[(.t 4,_)] } (fun p=>[(5,true,xi (p.1 : Int)),(4,true,xbs p.2)]) (fun p=>[]) (fun p=>p.1≤s.length∧p.2.length≤p.1 ∧ ∃ n,s.length < n + p.1∧litA n (s.drop p.1) p.1 p.2=litE s) (fun p=>s.length - p.1) ((1,[])) (⟨by dsimp only; omega,by simp,s.length + 1,by dsimp only; omega,rfl⟩) (B3 (⟨U J,U J,U J,O⟩) O (⟨rfl,O⟩)) ?_
 intro p hok
 dsimp only [List.cons_append,List.nil_append] at *
 obtain ⟨k,out⟩:=p
 dsimp only at hok ⊢
 obtain ⟨hk,ho,n,hn,hi⟩:=hok
 obtain ⟨n,rfl⟩ : ∃ m,n=m + 1:=⟨n - 1,by omega⟩
 have hu:=(s.getD k 0).toNat_lt
 refine A8 ?_;refine A8 (A6 ?_);refine A5 J J J (A7 J gU) ?_;refine A5 J J J (A7 J gU) ?_;refine L8 J J J J J gU (Tryz.underlying9) ?_ (fun hh=>by simp at hh); intro hlen;refine A5 J J J (B6 J J gU gU J) ?_;refine B0 ?_;refine B8 J (fun hc=>?_) (fun hc=>?_)
 ·try simp only [nn] at hc
  rw[Xh (by omega)] at hi
  have hle:=Lx (s.drop (k + 1))
  rw[List.length_drop] at hle
  refine C0 ?_;refine A8 ?_;refine C4 ?_;refine C4 ?_;refine A8 (A6 ?_);refine A5 J J J (A7 J gU) ?_;refine A5 J J J (A7 J gU) ?_;refine A5 J J J (E3 (j:=k) J J gU gU Tryz.underlying9 (by first|omega|(simp at hh ⊢; omega)) (fun hh=>by first|omega|(simp at hh ⊢; omega))) ?_;refine A5 J J J (B6 J J gU gU J) ?_;refine A5 J J J (A9 J gU) ?_;refine B0 ?_;refine B5 (s:=⟨[(0,_,_),(4,_,_),(5,_,_),(20,_,_)],[],[(.t 4,_)],[]⟩) (B3 (⟨U J,U J,U J,U J,O⟩) O (⟨rfl,O⟩)) ?_;refine B8 J (fun hc2=>?_) (fun hc2=>?_)
  ·try simp only [nn] at hc2
   rw[if_pos (by omega)] at hi
   refine A8 (A6 ?_);refine A5 J J J (A7 J gU) ?_;refine A5 J J J (Jr (l:=out) J (by rfl) gU Tryz.underlying163 Tryz.underlying5 Tryz.underlying9) ?_;refine A5 J J J (A7 J gU) ?_;refine A5 J J J (D0 J J gU gU J (IntWalk.i64_in _ (by omega))) ?_;refine A5 J J J (A9 J gU) ?_;refine A5 J J J (A9 J gU) ?_;refine B0 ?_;refine C1 ?_
   repeat(first|refine tR ?_|refine bR ?_)
   refine C5 J ?_ O
   (rw[← hi]; rfl)
  ·try simp only [nn] at hc2
   rw[if_neg (by omega)] at hi
   refine A8 (A6 ?_);refine A5 J J J (A7 J gU) ?_;refine A5 J J J (A7 J gU) ?_;refine A5 J J J (E3 (j:=k) J J gU gU Tryz.underlying9 (by first|omega|(simp at hh ⊢; omega)) (fun hh=>by first|omega|(simp at hh ⊢; omega))) ?_;refine A5 J J J (B6 J J gU gU J) ?_;refine A5 J J J (A9 J gU) ?_;refine B0 ?_;refine B5 (s:=⟨[(0,_,_),(4,_,_),(5,_,_),(29,_,_)],[],[(.t 4,_)],[]⟩) (B3 (⟨U J,U J,U J,U J,O⟩) O (⟨rfl,O⟩)) ?_;refine B8 J (fun hc3=>?_) (fun hc3=>?_)
   ·try simp only [nn] at hc3
    rw[if_pos (by omega)] at hi
    refine A8 (A6 ?_);refine A5 J J J (A7 J gU) ?_;refine A5 J J J (A7 J gU) ?_;refine A5 J J J (D0 J J gU gU J (IntWalk.i64_in _ (by omega))) ?_;refine A5 J J J (K8 (l:=(k + 1)) J gU Tryz.underlying9 (fun _=>⟨_,_,_,rfl,gU,by first|omega|(simp at hh ⊢; omega)⟩) (fun _=>rfl) (fun hh=>by first|omega|(simp at hh ⊢; omega)) (fun hh=>by first|omega|(simp at hh ⊢; omega))) ?_;refine C8 J J J J J J gU gU (Wf s (k + 1) (by omega)) J ?_;refine A5 J J J (A7 J gU) ?_;refine A5 J J J (C2 J gU J) ?_;refine A5 J J J (C2 J gU J) ?_;refine A5 J J J (A9 J gU) ?_;refine A5 J J J (A9 J gU) ?_;refine B0 ?_;refine B5 (s:=⟨[(0,_,_),(4,_,_),(5,_,_),(6,_,_),(7,_,_)],[],[(.t 4,_)],[]⟩) (B3 (⟨U J,U J,U J,U J,U J,O⟩) O (⟨rfl,O⟩)) ?_;refine A8 ?_;refine A8 (A6 ?_);refine A5 J J J (A7 J gU) ?_;refine A5 J J J (B6 J J gU gU J) ?_;refine B0 ?_;refine B8 J (fun hc4=>?_) (fun hc4=>?_)
    ·try simp only [nn] at hc4
     rw[if_pos (by omega)] at hi
     refine A8 (A6 ?_);refine A5 J J J (A9 J gU) ?_;refine A5 J J J (A9 J gU) ?_;refine B0 ?_;refine C1 ?_
     repeat(first|refine tR ?_|refine bR ?_)
     refine C5 J ?_ O
     (rw[← hi]; rfl)
    ·try simp only [nn] at hc4
     rw[if_neg (by omega)] at hi
     refine C0 ?_;refine A8 (A6 ?_);refine C3 J (F6 (.inl J) J J J) ?_;refine A5 J J J (A7 J gU) ?_;refine E8 (xs:=[_]) J J J J J J J J J gU J ?_;refine C3 J (G0 J J J J J J J (by first|omega|(simp only [List.length_append,List.length_singleton,T4,B4]; omega)) (by first|omega|(simp only [List.length_append,List.length_singleton,T4,B4]; omega))) ?_;refine C3 J (F6 (.inr J) J J J) ?_;refine B0 ?_;refine B5 (s:=⟨[(0,_,_),(4,_,_),(5,_,_),(7,_,_)],[],[(.t 4,_)],[]⟩) (B3 (⟨U J,U J,U J,U J,O⟩) O (⟨rfl,O⟩)) ?_;refine A6 ?_;refine A5 J J J (A7 J gU) ?_;refine A5 J J J (A7 J gU) ?_;refine A5 J J J (D0 J J gU gU J (IntWalk.i64_in _ (by omega))) ?_;refine A5 J J J (A9 J gU) ?_;refine B0 ?_;refine A6 ?_;refine A5 J J J (A7 J gU) ?_;refine A5 J J J (D0 J J gU gU J (IntWalk.i64_in _ (by omega))) ?_;refine A5 J J J (A9 J gU) ?_;refine B0 ?_;refine ⟨(k + 1 + (escE (s.drop (k + 1))).2,out++[(escE (s.drop (k + 1))).1]),?_,?_,B3 (⟨⟨_,rfl,?_⟩,⟨⟨_,rfl,?_⟩,⟨U J,O⟩⟩⟩) O (⟨rfl,O⟩)⟩
     all_goals (first|rfl|omega|exact tx (Ql out (escE (s.drop (k + 1))).1 _ J)|exact tx (G8 (by omega))|(refine ⟨?_,?_,n,?_,hi⟩ <;> (simp only [List.length_append,List.length_singleton]; omega)))
   ·try simp only [nn] at hc3
    rw[if_neg (by omega)] at hi
    refine A8 (A6 ?_);refine A5 J J J (A7 J gU) ?_;refine A5 J J J (A7 J gU) ?_;refine A5 J J J (E3 (j:=k) J J gU gU Tryz.underlying9 (by first|omega|(simp at hh ⊢; omega)) (fun hh=>by first|omega|(simp at hh ⊢; omega))) ?_;refine A5 J J J (B6 J J gU gU J) ?_;refine A5 J J J (A7 J gU) ?_;refine A5 J J J (A7 J gU) ?_;refine A5 J J J (A7 J gU) ?_;refine A5 J J J (E3 (j:=k) J J (fun hh=>hh) (fun hh=>hh) Tryz.underlying9 (by first|omega|(simp at hh ⊢; omega)) (fun hh=>by first|omega|(simp at hh ⊢; omega))) ?_;refine A5 J J J (B6 J J (fun hh=>hh) gU J) ?_;refine A5 J J J (D9 J J gU (fun _ hi=>gP J hi)) ?_;refine A5 J J J (A9 J gU) ?_;refine B0 ?_;refine B5 (s:=⟨[(0,_,_),(4,_,_),(5,_,_),(51,_,_)],[],[(.t 4,_)],[]⟩) (B3 (⟨U J,U J,U J,U J,O⟩) O (⟨rfl,O⟩)) ?_;refine B8 J (fun hc4=>?_) (fun hc4=>?_)
    ·try simp only [nn] at hc4
     rw[if_pos (by omega)] at hi
     refine A8 (A6 ?_);refine A5 J J J (A9 J gU) ?_;refine A5 J J J (A9 J gU) ?_;refine B0 ?_;refine C1 ?_
     repeat(first|refine tR ?_|refine bR ?_)
     refine C5 J ?_ O
     (rw[← hi]; rfl)
    ·try simp only [nn] at hc4
     rw[if_neg (by omega)] at hi
     refine A6 ?_;refine C3 J (F6 (.inl J) J J J) ?_;refine A5 J J J (A7 J gU) ?_;refine A5 J J J (A7 J gU) ?_;refine A5 J J J (E3 (j:=k) J J gU gU Tryz.underlying9 (by first|omega|(simp at hh ⊢; omega)) (fun hh=>by first|omega|(simp at hh ⊢; omega))) ?_;refine E8 (xs:=[_]) J J J J J J J J J gU J ?_;refine C3 J (G0 J J J J J J J (by first|omega|(simp only [List.length_append,List.length_singleton,T4,B4]; omega)) (by first|omega|(simp only [List.length_append,List.length_singleton,T4,B4]; omega))) ?_;refine C3 J (F6 (.inr J) J J J) ?_;refine B0 ?_;refine B5 (s:=⟨[(0,_,_),(4,_,_),(5,_,_)],[],[(.t 4,_)],[]⟩) (B3 (⟨U J,U J,U J,O⟩) O (⟨rfl,O⟩)) ?_;refine A6 ?_;refine A5 J J J (A7 J gU) ?_;refine A5 J J J (D0 J J gU gU J (IntWalk.i64_in _ (by omega))) ?_;refine A5 J J J (A9 J gU) ?_;refine B0 ?_;refine ⟨(k + 1,out++[s.getD k 0]),?_,?_,B3 (⟨⟨_,rfl,?_⟩,⟨⟨_,rfl,?_⟩,⟨U J,O⟩⟩⟩) O (⟨rfl,O⟩)⟩
     all_goals (first|rfl|omega|exact tx (Ql out (s.getD k 0) _ J)|(refine ⟨?_,?_,n,?_,hi⟩ <;> (simp only [List.length_append,List.length_singleton]; omega)))
 ·try simp only [nn] at hc
  rw[Zf (List.drop_of_length_le (by omega))] at hi
  refine E1 ?_
  repeat(first|refine D3 ?_|refine D4 ?_|refine D2 J ?_)
  refine A8 (A6 ?_);refine A5 J J J (A9 J gU) ?_;refine A5 J J J (A9 J gU) ?_;refine B0 ?_;refine C1 ?_
  repeat(first|refine tR ?_|refine bR ?_)
  refine C5 J ?_ O
  (rw[← hi]; rfl)
abbrev xnum (s : List UInt8) (r : Bool × Nat × Int) : X:=.tup [.c (.s (s.take r.2.1)), .c (.i .i64 r.2.2), .c (.b r.1)]
theorem Md (s : List UInt8) (hs : s.length≤2000000) : Ctr sys 150 [xs s] [] (xnum s (numA s 0 0)) none []:=by
 refine D1 Tryz.func150 J J J J J J ?_;refine A8 (A6 ?_);refine A5 J J J (A9 J gU) ?_;refine A5 J J J (A9 J gU) ?_;refine A5 J J J (A9 J gU) ?_;refine B0 ?_;refine A8 (A6 ?_);refine A5 J J J (A9 J gU) ?_;refine A5 J J J (A9 J gU) ?_;refine B0 ?_;refine B5 (s:=⟨[(0,_,_),(5,_,_),(6,_,_)],[],[],[]⟩) (B3 (⟨U J,U J,U J,O⟩) O O) ?_;refine A8 ?_;refine C4 ?_;refine F5 (ι:=Nat × Int) { t:=[(0,_,_)],bx:=[],ow:=[] } (fun p=>[(5,true,xi (p.1 : Int)),(6,true,xi p.2)]) (fun p=>[]) (fun p=>p.1≤s.length∧0≤p.2∧p.2≤9223372036854775807∧numA (s.drop p.1) p.1 p.2=numA s 0 0) (fun p=>s.length - p.1) ((0,0)) (⟨by simp,by simp,by simp,rfl⟩) (B3 (⟨U J,U J,U J,O⟩) O O) ?_
 intro p hok
 dsimp only [List.cons_append,List.nil_append] at *
 obtain ⟨k,v⟩:=p
 dsimp only at hok ⊢
 obtain ⟨hk,hv0,hv1,hi⟩:=hok
 refine A8 ?_;refine A8 (A6 ?_);refine A5 J J J (A7 J gU) ?_;refine A5 J J J (A7 J gU) ?_;refine L8 J J J J J gU (Tryz.underlying9) ?_ (fun hh=>by simp at hh); intro hlen;refine A5 J J J (B6 J J gU gU J) ?_;refine A5 J J J (A7 J gU) ?_;refine A5 J J J (A7 J gU) ?_;refine A5 J J J (A7 J gU) ?_;refine A5 J J J (E3 (j:=k) J J (fun hh=>hh) (fun hh=>hh) Tryz.underlying9 (by first|omega|(simp at hh ⊢; omega)) (fun hh=>by first|omega|(simp at hh ⊢; omega))) ?_;refine C8 J J J J J J gU (fun hh=>gA ((fun hh=>hh) hh) (rfl)) (X9 _ _ J) J ?_;refine A5 J J J (B6 J J (fun hh=>hh) gU J) ?_;refine A5 J J J (E4 J J gU (fun _ hi=>gP J hi)) ?_;refine B0 ?_;refine B5 (s:=⟨[(0,_,_),(5,_,_),(6,_,_),(18,_,_)],[],[],[]⟩) (B3 (⟨U J,U J,U J,U J,O⟩) O O) ?_;refine B8 J (fun hc=>?_) (fun hc=>?_)
 ·try simp only [nn,B4,Tk.rows_len] at hc
  have hd:=(Ay (s.getD k 0)).2.1.1 hc.2
  have hd2:=Vz hd
  rw[H6 (by omega),numA,if_pos hd] at hi
  refine C0 ?_;refine C4 ?_;refine A8 (A6 ?_);refine A5 J J J (A7 J gU) ?_;refine A5 J J J (A7 J gU) ?_;refine A5 J J J (E3 (j:=k) J J gU gU Tryz.underlying9 (by first|omega|(simp at hh ⊢; omega)) (fun hh=>by first|omega|(simp at hh ⊢; omega))) ?_;refine A5 J J J (D0 J J gU gU J (IntWalk.u8_in _ (by omega))) ?_;refine A5 J J J (Es J gU ⟨_,Tryz.underlying5⟩ (Tryz.underlying2) (IntWalk.i64_in _ (by omega))) ?_;refine A5 J J J (A9 J gU) ?_;refine B0 ?_;refine B5 (s:=⟨[(0,_,_),(5,_,_),(6,_,_),(7,_,_)],[],[],[]⟩) (B3 (⟨U J,U J,U J,U J,O⟩) O O) ?_;refine A8 ?_;refine A8 (A6 ?_);refine A5 J J J (A7 J gU) ?_;refine A5 J J J (A7 J gU) ?_;refine A5 J J J (D0 J J gU gU J (IntWalk.i64_in _ (by omega))) ?_;refine A5 J J J (Wz J J gU gU (fun hh=>by first|omega|(simp at hh ⊢; omega)) (fun hh=>(congrArg IntKind.i64.wrap (Int.tdiv_eq_ediv_of_nonneg (by first|omega|(simp at hh ⊢; omega)))).trans (IntWalk.i64_in _ (by omega)))) ?_;refine A5 J J J (B6 J J gU gU J) ?_;refine B0 ?_;refine B5 (s:=⟨[(0,_,_),(5,_,_),(6,_,_),(7,_,_),(28,_,_)],[],[],[]⟩) (B3 (⟨U J,U J,U J,U J,U J,O⟩) O O) ?_
  refine B8 J (fun hc2=>?_) (fun hc2=>?_)
  ·try simp only [nn,B4,Tk.rows_len] at hc2
   rw[if_pos (by omega)] at hi
   refine A8 (A6 ?_);refine A5 J J J (A9 J gU) ?_;refine A5 J J J (A9 J gU) ?_;refine A5 J J J (A9 J gU) ?_;refine B0 ?_;refine C1 ?_
   repeat(first|refine tR ?_|refine bR ?_)
   refine C5 J ?_ O
   (rw[← hi]; rfl)
  ·try simp only [nn,B4,Tk.rows_len] at hc2
   rw[if_neg (by omega)] at hi
   refine C0 ?_;refine A8 (A6 ?_);refine A5 J J J (A7 J gU) ?_;refine A5 J J J (D0 J J gU gU J (IntWalk.i64_in _ (by omega))) ?_;refine A5 J J J (A7 J gU) ?_;refine A5 J J J (D0 J J gU gU J (IntWalk.i64_in _ (by omega))) ?_;refine A5 J J J (A9 J gU) ?_;refine B0 ?_;refine B5 (s:=⟨[(0,_,_),(5,_,_),(6,_,_)],[],[],[]⟩) (B3 (⟨U J,U J,U J,O⟩) O O) ?_;refine A6 ?_;refine A5 J J J (A7 J gU) ?_;refine A5 J J J (D0 J J gU gU J (IntWalk.i64_in _ (by omega))) ?_;refine A5 J J J (A9 J gU) ?_;refine B0 ?_;refine ⟨(k + 1,10 * v + (((s.getD k 0).toNat : Int) - 48)),?_,?_,B3 (⟨⟨_,rfl,?_⟩,⟨⟨_,rfl,?_⟩,⟨U J,O⟩⟩⟩) O O⟩
   all_goals (first|rfl|omega|exact ⟨by omega,by omega,by omega,hi⟩)
 ·try simp only [nn,B4,Tk.rows_len] at hc
  have hn : numA (s.drop k) k v=(true,k,v):=by
   by_cases hlt : k < s.length
   ·rw[H6 hlt,numA,if_neg]
    intro q
    have := (Ay (s.getD k 0)).2.1.2 q
    omega
   ·rw[List.drop_of_length_le (by omega)]; rfl
  rw[hn] at hi
  refine E1 ?_
  repeat(first|refine D3 ?_|refine D4 ?_|refine D2 J ?_)
  refine A8 (A6 ?_);refine A5 J J J (A7 J gU) ?_;refine A5 J J J (A7 J gU) ?_;refine A5 J J J (K8 (h':=k) J gU Tryz.underlying9 (fun _=>rfl) (fun _=>⟨_,_,_,rfl,gU,by first|omega|(simp at hh ⊢; omega)⟩) (fun hh=>by first|omega|(simp at hh ⊢; omega)) (fun hh=>by first|omega|(simp at hh ⊢; omega))) ?_;refine A5 J J J (A7 J gU) ?_;refine A5 J J J (A9 J gU) ?_;refine A5 J J J (A9 J gU) ?_;refine A5 J J J (A9 J gU) ?_;refine B0 ?_;refine C1 ?_
  repeat(first|refine tR ?_|refine bR ?_)
  refine C5 J ?_ O
  (rw[← hi]; rfl)
theorem uBN (c : UInt8) : (H8 (c.toNat : Int)=true→clsE c=2)∧(K1 (c.toNat : Int)=true→clsE c=3)∧(c.toNat=34→clsE c=5)∧(H8 (c.toNat : Int)≠true→K1 (c.toNat : Int)≠true→c.toNat≠34→(symB c=true→clsE c=4∨clsE c=1)∧(symB c≠true→clsE c=0∨clsE c=1)):=by
 refine ⟨(Ay c).1.2,(Ay c).2.1.2,fun h=>?_,fun h1 h2 h3=>⟨fun h4=>?_,fun h4=>?_⟩⟩
 ·unfold clsE
  rw[if_neg (by simp [P4]; omega),if_neg (by simp [H8]; omega),if_neg (by simp [K1]; omega),if_pos h]
 ·unfold clsE
  rw[if_neg h1,if_neg h2,if_neg h3,if_pos h4]
  split <;> simp
 ·unfold clsE
  rw[if_neg h1,if_neg h2,if_neg h3,if_neg h4]
  split <;> simp
theorem uBT {t u : Tk} {a b e : Int} (h : t=u) (h2 : a=b) : X.tup [.agg t.cells, .c (.i .i64 a), .c (.i .i64 e)]=X.tup [.agg u.cells, .c (.i .i64 b), .c (.i .i64 e)]:=by rw[h,h2]
theorem Sj (s : List UInt8) (k ki : Int) (h : 0 < s.length) (hs : s.length≤2000000) (hk : ki=k) (hw : clsE (s.getD 0 0)≠1) : Ctr sys 130 [xs s,xi ki] [] (xnx (K4 s k)) none []:=by
 subst hk
 have h1:=Sx s
 have h2 : (s.take (wdN s)).length=wdN s:=by rw[List.length_take]; omega
 have h3:=Vo s h
 have h4:=Hc s 0 0 (by omega)
 have h5 : (s.take (numA s 0 0).2.1).length=(numA s 0 0).2.1:=by rw[List.length_take]; omega
 obtain ⟨c1,c2,c3,c4⟩:=uBN (s.getD 0 0)
 obtain ⟨d1,d2,-⟩:=Ay (s.getD 0 0)
 refine D1 Tryz.func130 J J J J J J ?_;refine A8 (A6 ?_);refine C3 J (D7 J J J) ?_;refine A5 J J J (A9 J gU) ?_;refine A5 J J J (A9 J gU) ?_;refine B0 ?_;refine A8 ?_;refine A8 (A6 ?_);refine A5 J J J (A7 J gU) ?_;refine A5 J J J (E3 (j:=0) J J gU gU Tryz.underlying9 (by first|omega|(simp at hh ⊢; omega)) (fun hh=>by first|omega|(simp at hh ⊢; omega))) ?_;refine C8 J J J J J J gU gU (X9 _ _ J) J ?_;refine B0 ?_;refine B5 (s:=⟨[(0,_,_),(1,_,_),(4,_,_),(15,_,_)],[(.l 4,_)],[],[]⟩) (B3 (⟨U J,U J,U J,U J,O⟩) (⟨U J,O⟩) O) ?_;refine C4 ?_;refine A8 (A6 ?_);refine A5 J J J (B6 J J gU gU J) ?_;refine A5 J J J (A9 J gU) ?_;refine B0 ?_;refine B8 J (fun hc=>?_) (fun hc=>?_)
 ·try simp only [nn,B4,Tk.rows_len] at hc
  rw[K4,if_pos (d1.1 hc)]
  refine A8 (A6 ?_);refine A5 J J J (A7 J gU) ?_;refine C8 J J J J J J gU gU (Xo _ (by omega)) J ?_;refine A5 J J J (A9 J gU) ?_;refine B0 ?_;refine B5 (s:=⟨[(1,_,_),(4,_,_),(7,_,_)],[(.l 4,_)],[],[]⟩) (B3 (⟨U J,U J,U J,O⟩) (⟨U J,O⟩) O) ?_;refine A8 ?_;refine A8 (A6 ?_);refine A5 J J J (A7 J gU) ?_;refine L8 J J J J J gU (Tryz.underlying9) ?_ (fun hh=>by simp at hh); intro hlen;refine A5 J J J (B6 J J gU gU J) ?_;refine B0 ?_;refine B8 J (fun hc2=>?_) (fun hc2=>?_)
  ·try simp only [nn,B4,Tk.rows_len] at hc2
   refine A8 (A6 ?_);refine A5 J J J (H0 J Tryz.underlying134 J gU) ?_;refine C3 J (C9 J J J J J J J) ?_;refine A5 J J J (A9 J gU) ?_;refine A5 J J J (A9 J gU) ?_;refine B0 ?_;refine C1 ?_
   repeat(first|refine tR ?_|refine bR ?_)
   refine C5 J ?_ O
   (rw[if_pos (by omega)]; rfl)
  ·try simp only [nn,B4,Tk.rows_len] at hc2
   refine C0 ?_;refine A8 (A6 ?_);refine A5 J J J (A7 J gU) ?_;refine A5 J J J (A7 J gU) ?_;refine A5 J J J (H0 J Tryz.underlying134 J gU) ?_;refine A5 J J J (A7 J gU) ?_;refine L8 J J J J J gU (Tryz.underlying9) ?_ (fun hh=>by simp at hh); intro hlen;refine C3 J (C9 J J J J J J J) ?_;refine A5 J J J (A9 J gU) ?_;refine A5 J J J (A9 J gU) ?_;refine B0 ?_;refine C1 ?_
   repeat(first|refine tR ?_|refine bR ?_)
   refine C5 J ?_ O
   (rw[if_neg (by omega)]; exact uBT (t:=⟨1,s.take (wdN s),0,[],ki⟩) (u:=⟨1,s.take (wdN s),0,[],ki⟩) J (by dsimp only; omega))
 ·try simp only [nn,B4,Tk.rows_len] at hc
  have e1 : ¬H8 ((s.getD 0 0).toNat : Int)=true:=fun q=>hc (c1 q)
  rw[K4,if_neg e1]
  refine A8 (A6 ?_);refine A5 J J J (B6 J J gU gU J) ?_;refine A5 J J J (A9 J gU) ?_;refine B0 ?_;refine B8 J (fun hc2=>?_) (fun hc2=>?_)
  ·try simp only [nn,B4,Tk.rows_len] at hc2
   rw[if_pos (d2.1 hc2)]
   refine A8 (A6 ?_);refine A5 J J J (A7 J gU) ?_;refine C8 J J J J J J gU gU (Md _ (by omega)) J ?_;refine A5 J J J (A7 J gU) ?_;refine A5 J J J (C2 J gU J) ?_;refine A5 J J J (C2 J gU J) ?_;refine A5 J J J (C2 J gU J) ?_;refine A5 J J J (A9 J gU) ?_;refine A5 J J J (A9 J gU) ?_;refine H5 (s:=⟨[(1,_,_),(4,_,_),(8,_,_),(9,_,_),(36,_,_)],[(.l 4,_)],[],[]⟩) (B3 (⟨U J,U J,U J,U J,U J,O⟩) (⟨U J,O⟩) O) ?_;refine A5 J J J (A9 J gU) ?_;refine B0 ?_;refine A8 ?_;refine A8 (A6 ?_);refine A5 J J J (A7 J gU) ?_;refine A5 J J J (F2 J gU) ?_;refine B0 ?_;refine B8 J (fun hc3=>?_) (fun hc3=>?_)
   ·try simp only [nn,B4,Tk.rows_len] at hc3
    refine A8 (A6 ?_);refine A5 J J J (H0 J Tryz.underlying134 J gU) ?_;refine C3 J (C9 J J J J J J J) ?_;refine A5 J J J (A9 J gU) ?_;refine A5 J J J (A9 J gU) ?_;refine B0 ?_;refine C1 ?_
    repeat(first|refine tR ?_|refine bR ?_)
    refine C5 J ?_ O
    (rw[if_neg (by rw[hc3]; exact Bool.false_ne_true)]; rfl)
   ·try simp only [nn,B4,Tk.rows_len] at hc3
    refine C0 ?_;refine A8 (A6 ?_);refine A5 J J J (A7 J gU) ?_;refine A5 J J J (A7 J gU) ?_;refine A5 J J J (H0 J Tryz.underlying134 J gU) ?_;refine A5 J J J (A7 J gU) ?_;refine L8 J J J J J gU (Tryz.underlying9) ?_ (fun hh=>by simp at hh); intro hlen;refine C3 J (C9 J J J J J J J) ?_;refine A5 J J J (A9 J gU) ?_;refine A5 J J J (A9 J gU) ?_;refine B0 ?_;refine C1 ?_
    repeat(first|refine tR ?_|refine bR ?_)
    refine C5 J ?_ O
    (rw[if_pos hc3]; exact uBT (t:=⟨2,[],(numA s 0 0).2.2,[],ki⟩) (u:=⟨2,[],(numA s 0 0).2.2,[],ki⟩) J (by dsimp only; omega))
  ·try simp only [nn,B4,Tk.rows_len] at hc2
   have e2 : ¬K1 ((s.getD 0 0).toNat : Int)=true:=fun q=>hc2 (c2 q)
   rw[if_neg e2]
   refine A8 (A6 ?_);refine A5 J J J (B6 J J gU gU J) ?_;refine A5 J J J (A9 J gU) ?_;refine B0 ?_;refine B5 (s:=⟨[(0,_,_),(1,_,_),(4,_,_),(15,_,_),(45,_,_)],[(.l 4,_)],[],[]⟩) (B3 (⟨U J,U J,U J,U J,U J,O⟩) (⟨U J,O⟩) O) ?_;refine B8 J (fun hc3=>?_) (fun hc3=>?_)
   ·try simp only [nn,B4,Tk.rows_len] at hc3
    have e3 : (s.getD 0 0).toNat=34:=by
     by_cases q : (s.getD 0 0).toNat=34
     ·exact q
     ·have := c4 e1 e2 q
      by_cases q2 : symB (s.getD 0 0)=true
      ·have := this.1 q2; omega
      ·have := this.2 q2; omega
    rw[if_pos e3]
    refine A8 (A6 ?_);refine A5 J J J (A7 J gU) ?_;refine C8 J J J J J J gU gU (Wg _ (by omega) (by omega)) J ?_;refine A5 J J J (A7 J gU) ?_;refine A5 J J J (C2 J gU J) ?_;refine A5 J J J (C2 J gU J) ?_;refine A5 J J J (A9 J gU) ?_;refine A5 J J J (A9 J gU) ?_;refine B0 ?_;refine B5 (s:=⟨[(1,_,_),(4,_,_),(11,_,_),(12,_,_)],[(.l 4,_)],[],[]⟩) (B3 (⟨U J,U J,U J,U J,O⟩) (⟨U J,O⟩) O) ?_;refine A8 (A6 ?_);refine A5 J J J (A7 J gU) ?_;refine A5 J J J (B6 J J gU gU J) ?_;refine B0 ?_;refine B8 J (fun hc4=>?_) (fun hc4=>?_)
    ·try simp only [nn,B4,Tk.rows_len] at hc4
     refine A8 (A6 ?_);refine A5 J J J (A7 J gU) ?_;refine A5 J J J (A7 J gU) ?_;refine A5 J J J (H0 J Tryz.underlying134 J gU) ?_;refine A5 J J J (A7 J gU) ?_;refine C3 J (C9 J J J J J J J) ?_;refine A5 J J J (A9 J gU) ?_;refine A5 J J J (A9 J gU) ?_;refine B0 ?_;refine C1 ?_
     repeat(first|refine tR ?_|refine bR ?_)
     refine C5 J ?_ O
     (rw[if_neg (by omega)]; rfl)
    ·try simp only [nn,B4,Tk.rows_len] at hc4
     refine C0 ?_;refine A8 (A6 ?_);refine A5 J J J (H0 J Tryz.underlying134 J gU) ?_;refine C3 J (C9 J J J J J J J) ?_;refine A5 J J J (A9 J gU) ?_;refine A5 J J J (A9 J gU) ?_;refine B0 ?_;refine C1 ?_
     repeat(first|refine tR ?_|refine bR ?_)
     refine C5 J ?_ O
     (rw[if_pos (by omega)]; rfl)
   ·try simp only [nn,B4,Tk.rows_len] at hc3
    have e3 : ¬(s.getD 0 0).toNat=34:=fun q=>hc3 (c3 q)
    rw[if_neg e3]
    refine A8 (A6 ?_);refine A5 J J J (B6 J J gU gU J) ?_;refine A5 J J J (A9 J gU) ?_;refine B0 ?_;refine B8 J (fun hc4=>?_) (fun hc4=>?_)
    ·try simp only [nn,B4,Tk.rows_len] at hc4
     have e4 : symB (s.getD 0 0)=true:=by
      by_cases q2 : symB (s.getD 0 0)=true
      ·exact q2
      ·have := (c4 e1 e2 e3).2 q2; omega
     refine A8 (A6 ?_);refine A5 J J J (A7 J gU) ?_;refine A5 J J J (K8 (h':=1) J gU Tryz.underlying9 (fun _=>rfl) (fun _=>⟨_,_,_,rfl,gU,by first|omega|(simp at hh ⊢; omega)⟩) (fun hh=>by first|omega|(simp at hh ⊢; omega)) (fun hh=>by first|omega|(simp at hh ⊢; omega))) ?_;refine A5 J J J (A7 J gU) ?_;refine A5 J J J (H0 J Tryz.underlying134 J gU) ?_;refine C3 J (C9 J J J J J J J) ?_;refine A5 J J J (A9 J gU) ?_;refine A5 J J J (A9 J gU) ?_;refine B0 ?_;refine C1 ?_
     repeat(first|refine tR ?_|refine bR ?_)
     refine C5 J ?_ O
     (rw[if_pos e4]; rfl)
    ·try simp only [nn,B4,Tk.rows_len] at hc4
     have e4 : ¬symB (s.getD 0 0)=true:=by
      intro q2
      have := (c4 e1 e2 e3).1 q2
      omega
     refine C0 ?_;refine A8 (A6 ?_);refine A5 J J J (H0 J Tryz.underlying134 J gU) ?_;refine C3 J (C9 J J J J J J J) ?_;refine A5 J J J (A9 J gU) ?_;refine A5 J J J (A9 J gU) ?_;refine B0 ?_;refine C1 ?_
     repeat(first|refine tR ?_|refine bR ?_)
     refine C5 J ?_ O
     (rw[if_neg e4]; rfl)
theorem Ol (s : List UInt8) (hs : s.length≤2000000) : Ctr sys 127 [xs s] [] (xss (lnsR s)) none []:=by
 refine D1 Tryz.func127 J J J J J J ?_;refine A8 (A6 ?_);refine C3 J (H9 (.inr J) J J) ?_;refine B0 ?_;refine A8 (A6 ?_);refine C3 J (H9 (.inr J) J J) ?_;refine B0 ?_;refine A8 (A6 ?_);refine A5 J J J (A9 J gU) ?_;refine B0 ?_;refine A8 ?_;refine A8 (A6 ?_);refine A5 J J J (A9 J gU) ?_;refine B0 ?_;refine C4 ?_;refine F5 (ι:=Nat × List UInt8 × List (List UInt8)) { t:=[(0,_,_)],bx:=[],ow:=[(.t 3,_)] } (fun p=>[(5,true,xi (p.1 : Int)),(4,true,xs p.2.1),(3,true,xss p.2.2)]) (fun p=>[]) (fun p=>p.1≤s.length∧p.2.1.length≤p.1∧p.2.2.length≤p.1∧lnsA (s.drop p.1) p.2.1 p.2.2=lnsR s) (fun p=>s.length - p.1) ((0,[],[])) (⟨by simp,by simp,by simp,rfl⟩) (B3 (⟨U J,U J,U J,U J,O⟩) O (⟨rfl,O⟩)) ?_
 intro p hok
 dsimp only [List.cons_append,List.nil_append] at *
 obtain ⟨k,line,out⟩:=p
 dsimp only at hok ⊢
 obtain ⟨hk,hl,ho,hi⟩:=hok
 refine A8 ?_;refine A8 (A6 ?_);refine A5 J J J (A7 J gU) ?_;refine A5 J J J (A7 J gU) ?_;refine L8 J J J J J gU (Tryz.underlying9) ?_ (fun hh=>by simp at hh); intro hlen;refine A5 J J J (B6 J J gU gU J) ?_;refine B0 ?_;refine B8 J (fun hc=>?_) (fun hc=>?_)
 ·try simp only [nn,B4,Tk.rows_len] at hc
  rw[H6 (by omega),lnsA] at hi
  refine C0 ?_;refine A8 ?_;refine C4 ?_;refine A8 ?_;refine A8 (A6 ?_);refine A5 J J J (A7 J gU) ?_;refine A5 J J J (A7 J gU) ?_;refine A5 J J J (E3 (j:=k) J J gU gU Tryz.underlying9 (by first|omega|(simp at hh ⊢; omega)) (fun hh=>by first|omega|(simp at hh ⊢; omega))) ?_;refine A5 J J J (B6 J J gU gU J) ?_;refine B0 ?_;refine B5 (s:=⟨[(0,_,_),(3,_,_),(4,_,_),(5,_,_),(15,_,_)],[],[(.t 3,_)],[]⟩) (B3 (⟨U J,U J,U J,U J,U J,O⟩) O (⟨rfl,O⟩)) ?_;refine B8 J (fun hc2=>?_) (fun hc2=>?_)
  ·try simp only [nn,B4,Tk.rows_len] at hc2
   rw[if_pos (by omega)] at hi
   refine A8 (A6 ?_);refine C3 J (F6 (.inl J) J J J) ?_;refine A5 J J J (A7 J gU) ?_;refine E8 (xs:=[_]) J J J J J J J J J gU J ?_;refine C3 J (G0 J J J J J J J (by first|omega|(simp only [List.length_append,List.length_singleton,Tk.rows_len,B4]; omega)) (by first|omega|(simp only [List.length_append,List.length_singleton,Tk.rows_len,B4]; omega))) ?_;refine C3 J (F6 (.inr J) J J J) ?_;refine B0 ?_;refine B5 (s:=⟨[(0,_,_),(3,_,_),(5,_,_)],[],[(.t 3,_)],[]⟩) (B3 (⟨U J,U J,U J,O⟩) O (⟨rfl,O⟩)) ?_;refine A8 (A6 ?_);refine A5 J J J (A9 J gU) ?_;refine B0 ?_;refine E1 ?_
   repeat(first|refine D3 ?_|refine D4 ?_|refine D2 J ?_)
   refine A6 ?_;refine A5 J J J (A7 J gU) ?_;refine A5 J J J (D0 J J gU gU J (IntWalk.i64_in _ (by omega))) ?_;refine A5 J J J (A9 J gU) ?_;refine B0 ?_;refine ⟨(k + 1,[],out++[line]),?_,?_,B3 (⟨⟨_,rfl,?_⟩,⟨⟨_,rfl,?_⟩,⟨⟨_,rfl,?_⟩,⟨U J,O⟩⟩⟩⟩) O (⟨rfl,O⟩)⟩
   all_goals (first|rfl|omega|exact tx (Hg out line)|(refine ⟨?_,?_,?_,hi⟩ <;> (simp <;> omega)))
  ·try simp only [nn,B4,Tk.rows_len] at hc2
   rw[if_neg (by omega)] at hi
   have e1 : (s.take (k + 1)).drop k=[s.getD k 0]:=by
    rw[H6 (by simp; omega),List.drop_of_length_le (by simp; omega),Fg _ _ (by omega)]
   refine C0 ?_;refine A6 ?_;refine A5 J J J (A7 J gU) ?_;refine A5 J J J (A7 J gU) ?_;refine A5 J J J (A7 J gU) ?_;refine A5 J J J (A7 J gU) ?_;refine A5 J J J (D0 J J gU gU J (IntWalk.i64_in _ (by omega))) ?_;refine A5 J J J (K8 (l:=k) (h':=(k + 1)) J gU Tryz.underlying9 (fun _=>⟨_,_,_,rfl,gU,by first|omega|(simp at hh ⊢; omega)⟩) (fun _=>⟨_,_,_,rfl,gU,by first|omega|(simp at hh ⊢; omega)⟩) (fun hh=>by first|omega|(simp at hh ⊢; omega)) (fun hh=>by first|omega|(simp at hh ⊢; omega))) ?_;refine A5 J J J (By J J gU gU (by first|omega|(simp only [List.length_append,List.length_drop,List.length_take]; omega))) ?_;refine A5 J J J (A9 J gU) ?_;refine B0 ?_;refine B5 (s:=⟨[(0,_,_),(3,_,_),(4,_,_),(5,_,_)],[],[(.t 3,_)],[]⟩) (B3 (⟨U J,U J,U J,U J,O⟩) O (⟨rfl,O⟩)) ?_;refine A6 ?_;refine A5 J J J (A7 J gU) ?_;refine A5 J J J (D0 J J gU gU J (IntWalk.i64_in _ (by omega))) ?_;refine A5 J J J (A9 J gU) ?_;refine B0 ?_;refine ⟨(k + 1,line++[s.getD k 0],out),?_,?_,B3 (⟨⟨_,rfl,?_⟩,⟨⟨_,rfl,?_⟩,⟨⟨_,rfl,?_⟩,⟨U J,O⟩⟩⟩⟩) O (⟨rfl,O⟩)⟩
   all_goals (first|rfl|omega|exact tx (congrArg xs (by rw[e1]))|(refine ⟨?_,?_,?_,hi⟩ <;> (simp <;> omega)))
 ·try simp only [nn,B4,Tk.rows_len] at hc
  rw[List.drop_of_length_le (by omega),lnsA] at hi
  refine E1 ?_
  repeat(first|refine D3 ?_|refine D4 ?_|refine D2 J ?_)
  refine A8 ?_;refine A8 (A6 ?_);refine A5 J J J (A7 J gU) ?_;refine A5 J J J (H1 J J gU gU J) ?_;refine B0 ?_;refine B5 (s:=⟨[(3,_,_),(4,_,_),(28,_,_)],[],[(.t 3,_)],[]⟩) (B3 (⟨U J,U J,U J,O⟩) O (⟨rfl,O⟩)) ?_;refine B8 J (fun hc2=>?_) (fun hc2=>?_)
  ·try simp only [nn,B4,Tk.rows_len] at hc2
   rw[if_neg hc2] at hi
   refine A6 ?_;refine C3 J (F6 (.inl J) J J J) ?_;refine A5 J J J (A7 J gU) ?_;refine E8 (xs:=[_]) J J J J J J J J J gU J ?_;refine C3 J (G0 J J J J J J J (by first|omega|(simp only [List.length_append,List.length_singleton,Tk.rows_len,B4]; omega)) (by first|omega|(simp only [List.length_append,List.length_singleton,Tk.rows_len,B4]; omega))) ?_;refine C3 J (F6 (.inr J) J J J) ?_;refine B0 ?_;refine B5 (s:=⟨[(3,_,_)],[],[(.t 3,_)],[]⟩) (B3 (⟨U J,O⟩) O (⟨rfl,O⟩)) ?_;refine A8 (A6 ?_);refine C3 J (F6 (.inl J) J J J) ?_;refine C3 J (F6 (.inr J) J J J) ?_;refine B0 ?_;refine C1 ?_
   repeat(first|refine tR ?_|refine bR ?_)
   refine C5 J ?_ O
   (rw[← hi]; exact Hg out line)
  ·try simp only [nn,B4,Tk.rows_len] at hc2
   rw[if_pos hc2] at hi
   refine C0 ?_;refine A8 (A6 ?_);refine C3 J (F6 (.inl J) J J J) ?_;refine C3 J (F6 (.inr J) J J J) ?_;refine B0 ?_;refine C1 ?_
   repeat(first|refine tR ?_|refine bR ?_)
   refine C5 J ?_ O
   (rw[← hi]; rfl)
theorem Wh (s : List UInt8) : (H2 s).length≤s.length:=by unfold H2; rw[List.length_take]; omega
theorem Ei (s : List UInt8) (hs : s.length≤9223372036854775807) : Ctr sys 103 [xs s] [] (uBV (tokR s)) none []:=by
 have hsl:=Zs s
 refine D1 Tryz.func103 J J J J J J ?_;refine A8 (A6 ?_);refine C3 J (H9 (.inr J) J J) ?_;refine A5 J J J (A9 J gU) ?_;refine A5 J J J (A9 J gU) ?_;refine B0 ?_;refine A8 ?_;refine A8 (A6 ?_);refine A5 J J J (A7 J gU) ?_;refine L8 J J J J J gU (Tryz.underlying9) ?_ (fun hh=>by simp at hh); intro hlen;refine A5 J J J (B6 J J gU gU J) ?_;refine B0 ?_;refine B5 (s:=⟨[(0,_,_),(14,_,_)],[],[],[]⟩) (B3 (⟨U J,U J,O⟩) O O) ?_;refine B8 J (fun hc=>?_) (fun hc=>?_)
 ·try simp only [nn,B4,Tk.rows_len] at hc
  refine A8 (A6 ?_);refine C3 J (H9 (.inr J) J J) ?_;refine A5 J J J (A9 J gU) ?_;refine A5 J J J (A9 J gU) ?_;refine B0 ?_;refine C1 ?_
  repeat(first|refine tR ?_|refine bR ?_)
  refine C5 J ?_ O
  (rw[tokR,if_pos (by omega)]; rfl)
 ·try simp only [nn,B4,Tk.rows_len] at hc
  rw[tokR,if_neg (by omega)]
  refine C0 ?_;refine A8 (A6 ?_);refine C3 J (H9 (.inr J) J J) ?_;refine B0 ?_;refine A8 (A6 ?_);refine A5 J J J (A7 J gU) ?_;refine C8 J J J J J J gU gU (Ol _ (by omega)) J ?_;refine A5 J J J (A9 J gU) ?_;refine B0 ?_;refine A8 ?_;refine A8 (A6 ?_);refine A5 J J J (A9 J gU) ?_;refine B0 ?_;refine B5 (s:=⟨[(5,_,_),(6,_,_),(7,_,_)],[],[(.t 5,_)],[]⟩) (B3 (⟨U J,U J,U J,O⟩) O (⟨rfl,O⟩)) ?_;refine C4 ?_;refine F5 (ι:=Nat × List Tk) { t:=[(6,_,_)],bx:=[],ow:=[(.t 5,_)] } (fun p=>[(7,true,xi (p.1 : Int)),(5,true,xts p.2)]) (fun p=>[]) (fun p=>p.1≤(lnsR s).length∧p.2.length≤70000 * p.1∧Du ((lnsR s).drop p.1) (p.1 + 1) p.2=Du (lnsR s) 1 []) (fun p=>(lnsR s).length - p.1) ((0,[])) (⟨by simp,by simp,rfl⟩) (B3 (⟨U J,U J,U J,O⟩) O (⟨rfl,O⟩)) ?_
  intro p hok
  dsimp only [List.cons_append,List.nil_append] at *
  obtain ⟨k,out⟩:=p
  dsimp only at hok ⊢
  obtain ⟨hk,ho,hi⟩:=hok
  have hL:=uAr s k
  have hB:=Wh ((lnsR s).getD k [])
  refine A8 ?_;refine A8 (A6 ?_);refine A5 J J J (A7 J gU) ?_;refine A5 J J J (A7 J gU) ?_;refine E0 J J J J J gU J J ?_ (fun hh=>by simp at hh); intro hlen;refine A5 J J J (B6 J J gU gU J) ?_;refine B0 ?_;refine B8 J (fun hc2=>?_) (fun hc2=>?_)
  ·try simp only [nn,B4,Tk.rows_len] at hc2
   rw[Lo (d:=[]) (by omega),Du] at hi
   refine C0 ?_;refine A8 ?_;refine C4 ?_;refine A8 (A6 ?_);refine A5 J J J (A7 J gU) ?_;refine A5 J J J (A7 J gU) ?_;refine A5 J J J (C7 J J gU gU J J J (fun hh=>R3 (by first|omega|(simp at hh ⊢; omega)))) ?_;refine A5 J J J (E9 J gU J J J) ?_;refine C8 J J J J J J gU gU (Yg _ (by omega)) J ?_;refine A5 J J J (A9 J gU) ?_;refine B0 ?_;refine B5 (s:=⟨[(5,_,_),(6,_,_),(7,_,_),(8,_,_)],[],[(.t 5,_)],[]⟩) (B3 (⟨U J,U J,U J,U J,O⟩) O (⟨rfl,O⟩)) ?_;refine C4 ?_;refine F5 (ι:=List UInt8 × List Tk) { t:=[(6,_,_),(7,_,_)],bx:=[],ow:=[(.t 5,_)] } (fun q=>[(8,true,xs q.1),(5,true,xts q.2)]) (fun q=>[]) (fun q=>q.1.length≤(H2 ((lnsR s).getD k [])).length∧q.2.length + q.1.length≤out.length + (H2 ((lnsR s).getD k [])).length ∧ ∃ n,q.1.length < n∧R6 n q.1 ((k + 1 : Nat) : Int) q.2=R6 ((H2 ((lnsR s).getD k [])).length + 1) (H2 ((lnsR s).getD k [])) ((k + 1 : Nat) : Int) out) (fun q=>q.1.length) ((H2 ((lnsR s).getD k []),out)) (⟨by simp,by simp,_,by dsimp only; omega,rfl⟩) (B3 (⟨U J,U J,U J,U J,O⟩) O (⟨rfl,O⟩)) ?_
   intro q hokq
   dsimp only [List.cons_append,List.nil_append] at *
   obtain ⟨l,o2⟩:=q
   dsimp only at hokq ⊢
   obtain ⟨hl,ho2,n,hn,hi2⟩:=hokq
   obtain ⟨n,rfl⟩ : ∃ m,n=m + 1:=⟨n - 1,by omega⟩
   refine A8 ?_;refine A8 (A6 ?_);refine A5 J J J (A7 J gU) ?_;refine L8 J J J J J gU (Tryz.underlying9) ?_ (fun hh=>by simp at hh); intro hlen;refine A5 J J J (B6 J J gU gU J) ?_;refine B0 ?_;refine B8 J (fun hc3=>?_) (fun hc3=>?_)
   ·try simp only [nn,B4,Tk.rows_len] at hc3
    have hne : 0 < l.length:=by omega
    have hcons : l=l.getD 0 0 :: l.drop 1 := by have := H6 hne; rwa [List.drop_zero] at this
    have hx : R6 (n + 1) l ((k + 1 : Nat) : Int) o2=if P4 (l.getD 0 0)=true then R6 n (l.drop 1) ((k + 1 : Nat) : Int) o2 else if (K4 l ((k + 1 : Nat) : Int)).2.2≠0 then ([],(K4 l ((k + 1 : Nat) : Int)).2.2)
      else R6 n (l.drop (K4 l ((k + 1 : Nat) : Int)).2.1) ((k + 1 : Nat) : Int) (o2++[(K4 l ((k + 1 : Nat) : Int)).1]):=by
     generalize hg : l.getD 0 0=c at hcons ⊢
     generalize hg2 : l.drop 1=r at hcons ⊢
     subst hcons
     rw[R6]
    rw[hx] at hi2
    refine C0 ?_;refine C4 ?_;refine A8 ?_;refine A8 (A6 ?_);refine A5 J J J (A7 J gU) ?_;refine A5 J J J (E3 (j:=0) J J gU gU Tryz.underlying9 (by first|omega|(simp at hh ⊢; omega)) (fun hh=>by first|omega|(simp at hh ⊢; omega))) ?_;refine C8 J J J J J J gU gU (X9 _ _ J) J ?_;refine A5 J J J (B6 J J gU gU J) ?_;refine B0 ?_;refine B5 (s:=⟨[(5,_,_),(6,_,_),(7,_,_),(8,_,_),(34,_,_)],[],[(.t 5,_)],[]⟩) (B3 (⟨U J,U J,U J,U J,U J,O⟩) O (⟨rfl,O⟩)) ?_;refine B8 J (fun hc4=>?_) (fun hc4=>?_)
    ·try simp only [nn,B4,Tk.rows_len] at hc4
     rw[if_pos ((Ay _).2.2.1 hc4)] at hi2
     refine A8 (A6 ?_);refine A5 J J J (A7 J gU) ?_;refine A5 J J J (K8 (l:=1) J gU Tryz.underlying9 (fun _=>⟨_,_,_,rfl,gU,by first|omega|(simp at hh ⊢; omega)⟩) (fun _=>rfl) (fun hh=>by first|omega|(simp at hh ⊢; omega)) (fun hh=>by first|omega|(simp at hh ⊢; omega))) ?_;refine A5 J J J (A9 J gU) ?_;refine B0 ?_;refine E1 ?_
     repeat(first|refine D3 ?_|refine D4 ?_|refine D2 J ?_)
     refine ⟨(l.drop 1,o2),?_,?_,B3 (⟨⟨_,rfl,?_⟩,⟨⟨_,rfl,?_⟩,⟨U J,U J,O⟩⟩⟩) O (⟨rfl,O⟩)⟩
     all_goals first|rfl|exact tx (congrArg xs (by rw[List.take_length]))|(simp only [List.take_length,List.length_drop]; omega)|(refine ⟨?_,?_,n,?_,hi2⟩ <;> (simp only [List.length_drop]; omega))
    ·try simp only [nn,B4,Tk.rows_len] at hc4
     rw[if_neg (fun q=>hc4 ((Ay _).2.2.2 q))] at hi2
     have hfl:=Xf (s:=l) (k:=((k + 1 : Nat) : Int)) hne
     refine C0 ?_;refine A8 (A6 ?_);refine A5 J J J (A7 J gU) ?_;refine A5 J J J (A7 J gU) ?_;refine A5 J J J (D0 J J gU gU J (IntWalk.i64_in _ (by omega))) ?_;refine C8 J J J J J J gU gU (Sj _ ((k + 1 : Nat) : Int) _ hne (by omega) (by omega) hc4) J ?_;refine A5 J J J (A7 J gU) ?_;refine A5 J J J (C2 J gU J) ?_;refine A5 J J J (C2 J gU J) ?_;refine A5 J J J (C2 J gU J) ?_;refine C3 J (D7 J J J) ?_;refine C3 J (C9 J J J J J J J) ?_;refine A5 J J J (A9 J gU) ?_;refine A5 J J J (A9 J gU) ?_;refine B0 ?_;refine B5 (s:=⟨[(5,_,_),(6,_,_),(7,_,_),(8,_,_),(9,_,_),(10,_,_),(11,_,_)],[(.l 9,_)],[(.t 5,_)],[]⟩) (B3 (⟨U J,U J,U J,U J,U J,U J,U J,O⟩) (⟨U J,O⟩) (⟨rfl,O⟩)) ?_;refine A8 ?_;refine A8 (A6 ?_);refine A5 J J J (A7 J gU) ?_;refine A5 J J J (B6 J J gU gU J) ?_;refine B0 ?_;refine B8 J (fun hc5=>?_) (fun hc5=>?_)
     ·try simp only [nn,B4,Tk.rows_len] at hc5
      rw[if_pos hc5] at hi2
      rw[← hi2,if_pos hc5] at hi
      refine A8 (A6 ?_);refine A5 J J J (A7 J gU) ?_;refine A5 J J J (D0 J J gU gU J (IntWalk.i64_in _ (by omega))) ?_;refine A5 J J J (A7 J gU) ?_;refine C3 J (H9 (.inr J) J J) ?_;refine A5 J J J (A9 J gU) ?_;refine A5 J J J (A9 J gU) ?_;refine B0 ?_;refine C1 ?_
      repeat(first|refine tR ?_|refine bR ?_)
      refine C5 J ?_ O
      (rw[← hi]; rfl)
     ·try simp only [nn,B4,Tk.rows_len] at hc5
      have h4:=hfl.2 hc5
      rw[if_neg (fun q=>q hc5)] at hi2
      refine C0 ?_;refine A8 (A6 ?_);refine C3 J (F6 (.inl J) J J J) ?_;refine A5 J J J (B7 J gU J J J J J) ?_;refine E8 (xs:=[_]) J J J J J J J J J gU J ?_;refine C3 J (G0 J J J J J J J (by first|omega|(simp only [List.length_append,List.length_singleton,Tk.rows_len,B4]; omega)) (by first|omega|(simp only [List.length_append,List.length_singleton,Tk.rows_len,B4]; omega))) ?_;refine C3 J (F6 (.inr J) J J J) ?_;refine B0 ?_;refine B5 (s:=⟨[(5,_,_),(6,_,_),(7,_,_),(8,_,_),(10,_,_)],[],[(.t 5,_)],[]⟩) (B3 (⟨U J,U J,U J,U J,U J,O⟩) O (⟨rfl,O⟩)) ?_;refine A6 ?_;refine A5 J J J (A7 J gU) ?_;refine A5 J J J (A7 J gU) ?_;refine A5 J J J (K8 (l:=(K4 l ((k + 1 : Nat) : Int)).2.1) J gU Tryz.underlying9 (fun _=>⟨_,_,_,rfl,gU,by first|omega|(simp at hh ⊢; omega)⟩) (fun _=>rfl) (fun hh=>by first|omega|(simp at hh ⊢; omega)) (fun hh=>by first|omega|(simp at hh ⊢; omega))) ?_;refine A5 J J J (A9 J gU) ?_;refine B0 ?_;refine ⟨(l.drop (K4 l ((k + 1 : Nat) : Int)).2.1,o2++[(K4 l ((k + 1 : Nat) : Int)).1]),?_,?_,B3 (⟨⟨_,rfl,?_⟩,⟨⟨_,rfl,?_⟩,⟨U J,U J,O⟩⟩⟩) O (⟨rfl,O⟩)⟩
      all_goals first|rfl|exact tx (uAI o2 (K4 l ((k + 1 : Nat) : Int)).1)|exact tx (congrArg xs (by rw[List.take_length]))|(simp only [List.take_length,List.length_drop,List.length_append,List.length_singleton]; omega)|(refine ⟨?_,?_,n,?_,hi2⟩ <;> (simp only [List.length_drop,List.length_append,List.length_singleton]; omega))
   ·try simp only [nn,B4,Tk.rows_len] at hc3
    have hnil : l=[]:=List.eq_nil_of_length_eq_zero (by omega)
    subst hnil
    rw[R6] at hi2
    rw[← hi2] at hi
    refine E1 ?_
    repeat(first|refine D3 ?_|refine D4 ?_|refine D2 J ?_)
    refine A6 ?_;refine A5 J J J (A7 J gU) ?_;refine A5 J J J (D0 J J gU gU J (IntWalk.i64_in _ (by omega))) ?_;refine A5 J J J (A9 J gU) ?_;refine B0 ?_;refine ⟨(k + 1,o2),?_,?_,B3 (⟨⟨_,rfl,?_⟩,⟨⟨_,rfl,?_⟩,⟨U J,O⟩⟩⟩) O (⟨rfl,O⟩)⟩
    all_goals first|rfl|omega|(refine ⟨by dsimp only; omega,by dsimp only; omega,?_⟩; exact hi)
  ·try simp only [nn,B4,Tk.rows_len] at hc2
   rw[List.drop_of_length_le (by omega),Du] at hi
   refine E1 ?_
   repeat(first|refine D3 ?_|refine D4 ?_|refine D2 J ?_)
   refine A8 (A6 ?_);refine C3 J (F6 (.inl J) J J J) ?_;refine C3 J (F6 (.inr J) J J J) ?_;refine A5 J J J (A9 J gU) ?_;refine A5 J J J (A9 J gU) ?_;refine B0 ?_;refine C1 ?_
   repeat(first|refine tR ?_|refine bR ?_)
   refine C5 J ?_ O
   (rw[← hi]; rfl)
theorem Ds (s : List UInt8) (hs : s.length≤9223372036854775807) : Ctr sys 111 [xs s] [] (xb (D8 s)) none []:=by
 refine D1 Tryz.func111 J J J J J J ?_;refine A8 (A6 ?_);refine A5 J J J (A9 J gU) ?_;refine B0 ?_;refine A8 (A6 ?_);refine A5 J J J (A7 J gU) ?_;refine A5 J J J (H1 J J gU gU J) ?_;refine A5 J J J (A7 J gU) ?_;refine A5 J J J (A7 J gU) ?_;refine A5 J J J (E3 (j:=0) J J (fun hh=>hh) gU Tryz.underlying9 (by first|omega|(simp at hh ⊢; exact List.length_pos_iff.2 hh)|(simp at hh ⊢; omega)) (fun hh=>by first|omega|(simp at hh ⊢; exact List.length_pos_iff.2 hh)|(simp at hh ⊢; omega))) ?_;refine C8 J J J J J J gU (fun hh=>gA ((fun hh=>hh) hh) (rfl)) (Eg _) J ?_;refine A5 J J J (E4 J J gU (fun _ hi=>gP J hi)) ?_;refine A5 J J J (A7 J gU) ?_;refine A5 J J J (A7 J gU) ?_;refine C8 J J J J J J gU (fun hh=>gA ((fun hh=>hh) hh) (rfl)) (Gp _ (by omega)) J ?_;refine A5 J J J (A7 J gU) ?_;refine H5 (s:=⟨[(0,_,_),(10,_,_),(12,_,_),(13,_,_)],[],[],[]⟩) (B3 (⟨U J,U J,U J,U J,O⟩) O O) ?_;refine A5 J J J (M0 J (fun hh=>hh) (Tryz.underlying9)) ?_;refine A5 J J J (B6 J J (fun hh=>hh) (fun hh=>hh) J) ?_;refine A5 J J J (E4 J J gU (fun _ hi=>gP J hi)) ?_
 refine A5 J J J (A7 J gU) ?_;refine A5 J J J (A7 J gU) ?_;refine A5 J J J (M0 J (fun hh=>hh) (Tryz.underlying9)) ?_;refine A5 J J J (B6 J J (fun hh=>hh) gU J) ?_;refine A5 J J J (E4 J J gU (fun _ hi=>gP J hi)) ?_;refine A5 J J J (A9 J gU) ?_;refine B0 ?_;refine C1 ?_
 repeat(first|refine tR ?_|refine bR ?_)
 refine C5 J ?_ O;refine N0 ?_
 unfold D8
 rw[Bool.eq_iff_iff]
 simp only [Bool.and_eq_true,decide_eq_true_eq,bne_iff_ne,ne_eq]
 constructor
 ·rintro ⟨⟨⟨a,b⟩,c⟩,d⟩
  refine ⟨⟨⟨?_,b⟩,?_⟩,?_⟩
  ·simpa using a
  ·have c':=c; simp at c'; omega
  ·omega
 ·rintro ⟨⟨⟨a,b⟩,c⟩,d⟩
  refine ⟨⟨⟨?_,b⟩,?_⟩,?_⟩
  ·simpa using a
  ·simp; omega
  ·omega
def uB1 (a b : List (List UInt8)) : Bool:=decide (a=b)
theorem Ct (a b : List (List UInt8)) : Ctr sys 59 [xss a,xss b] [] (xb (uB1 a b)) none []:=by
 have la:=B4 a
 have lb:=B4 b
 refine D1 Tryz.func59 J J J J J J ?_;refine A8 (A6 ?_);refine A5 J J J (A9 J gU) ?_;refine B0 ?_;refine A8 ?_;refine A8 (A6 ?_);refine A5 J J J (A7 J gU) ?_;refine E0 J J J J J gU J J ?_ (fun hh=>by simp at hh); intro hlen;refine A5 J J J (A7 J gU) ?_;refine E0 J J J J J gU J J ?_ (fun hh=>by simp at hh); intro hlen;refine A5 J J J (B6 J J gU gU J) ?_;refine B0 ?_;refine B5 (s:=⟨[(0,_,_),(1,_,_),(10,_,_)],[],[],[]⟩) (B3 (⟨U J,U J,U J,O⟩) O O) ?_;refine B8 J (fun hc=>?_) (fun hc=>?_)
 ·try simp only [nn,B4,Tk.rows_len] at hc
  refine A8 (A6 ?_);refine A5 J J J (A9 J gU) ?_;refine B0 ?_;refine C1 ?_
  repeat(first|refine tR ?_|refine bR ?_)
  refine C5 J ?_ O;exact N0 (by symm; exact decide_eq_false (by intro e; rw[e] at hc; exact hc J))
 ·try simp only [nn,B4,Tk.rows_len] at hc
  have hl : a.length=b.length:=by omega
  refine C0 ?_;refine A8 ?_;refine A8 (A6 ?_);refine A5 J J J (A9 J gU) ?_;refine B0 ?_;refine C4 ?_;refine F5 (ι:=Nat) { t:=[(0,_,_),(1,_,_)],bx:=[],ow:=[] } (fun k=>[(5,true,xi (k : Int))]) (fun k=>[]) (fun k=>k≤a.length ∧ ∀ j,j < k→a.getD j []=b.getD j []) (fun k=>a.length - k) (0) (by simp) (B3 (⟨U J,U J,U J,O⟩) O O) ?_
  intro k hok
  dsimp only [List.cons_append,List.nil_append]
  obtain ⟨hk,hi⟩:=hok
  refine A8 ?_;refine A8 (A6 ?_);refine A5 J J J (A7 J gU) ?_;refine A5 J J J (A7 J gU) ?_;refine E0 J J J J J gU J J ?_ (fun hh=>by simp at hh); intro hlen;refine A5 J J J (B6 J J gU gU J) ?_;refine B0 ?_;refine B8 J (fun hc2=>?_) (fun hc2=>?_)
  ·try simp only [nn,B4,Tk.rows_len] at hc2
   refine C0 ?_;refine A8 ?_;refine C4 ?_;refine A8 ?_;refine awp_drawn' (by kernel_rfl) ?_;refine B9 J J J J (A7 J gU) ?_;refine B9 J J J J (A7 J gU) ?_;refine B9 J J J J (C7 J J gU gU J J J (fun hh=>R3 (by first|omega|(simp at hh ⊢; omega)))) ?_;refine B9 J J J J (E9 J gU J J J) ?_;refine B9 J J J J (A7 J gU) ?_;refine B9 J J J J (A7 J gU) ?_;refine B9 J J J J (C7 J J gU gU J J J (fun hh=>R3 (by first|omega|(simp at hh ⊢; omega)))) ?_;refine B9 J J J J (E9 J gU J J J) ?_;refine B9 J J J J (H1 J J gU gU J) ?_;refine F8 (by kernel_rfl) ?_;refine B5 (s:=⟨[(0,_,_),(1,_,_),(5,_,_),(25,_,_)],[],[],[]⟩) (B3 (⟨U J,U J,U J,U J,O⟩) O O) ?_;refine B8 J (fun hc3=>?_) (fun hc3=>?_)
   ·try simp only [nn,B4,Tk.rows_len] at hc3
    refine A8 (A6 ?_);refine A5 J J J (A9 J gU) ?_;refine B0 ?_;refine C1 ?_
    repeat(first|refine tR ?_|refine bR ?_)
    refine C5 J ?_ O;exact N0 (by symm; exact decide_eq_false (by intro e; rw[e] at hc3; exact hc3 J))
   ·try simp only [nn,B4,Tk.rows_len] at hc3
    refine C0 ?_;refine A6 ?_;refine A5 J J J (A7 J gU) ?_;refine A5 J J J (D0 J J gU gU J (IntWalk.i64_in _ (by omega))) ?_;refine A5 J J J (A9 J gU) ?_;refine B0 ?_;refine ⟨k + 1,?_,?_,B3 (⟨⟨_,rfl,?_⟩,⟨U J,U J,O⟩⟩) O O⟩
    all_goals (first|rfl|omega|(refine ⟨by omega,fun j hj=>?_⟩; by_cases q : j=k; { subst q; exact hc3 }; { exact hi j (by omega) }))
  ·try simp only [nn,B4,Tk.rows_len] at hc2
   have he : a=b:=by
    apply List.ext_getElem?
    intro i
    by_cases hlt : i < a.length
    ·have := hi i (by omega)
     rw[List.getD_eq_getElem?_getD,List.getD_eq_getElem?_getD,List.getElem?_eq_getElem hlt,List.getElem?_eq_getElem (hl ▸ hlt)] at this
     rw[List.getElem?_eq_getElem hlt,List.getElem?_eq_getElem (hl ▸ hlt)]
     exact congrArg some this
    ·rw[List.getElem?_eq_none (by omega),List.getElem?_eq_none (by omega)]
   refine E1 ?_
   repeat(first|refine D3 ?_|refine D4 ?_|refine D2 J ?_)
   refine A8 (A6 ?_);refine A5 J J J (A9 J gU) ?_;refine B0 ?_;refine C1 ?_
   repeat(first|refine tR ?_|refine bR ?_)
   refine C5 J ?_ O;exact N0 (by symm; exact decide_eq_true he)
theorem Dy (s : List UInt8) (hs : s.length≤9223372036854775807) : Ctr sys 82 [xs s] [] (xb (rnmE s)) none []:=by
 have hr:=Tk.rows_len (tokR s).1
 refine D1 Tryz.func82 J J J J J J ?_;refine A8 (A6 ?_);refine A5 J J J (A9 J gU) ?_;refine B0 ?_;refine A8 (A6 ?_);refine A5 J J J (A7 J gU) ?_;refine C8 J J J J J J gU gU (Ei _ (by omega)) J ?_;refine A5 J J J (A7 J gU) ?_;refine A5 J J J (C2 J gU J) ?_;refine A5 J J J (C2 J gU J) ?_;refine A5 J J J (C2 J gU J) ?_;refine A5 J J J (A9 J gU) ?_;refine A5 J J J (A9 J gU) ?_;refine A5 J J J (A9 J gU) ?_;refine B0 ?_;refine B5 (s:=⟨[(0,_,_),(3,_,_),(5,_,_)],[],[],[]⟩) (B3 (⟨U J,U J,U J,O⟩) O O) ?_;refine A8 (A6 ?_);refine A5 J J J (A7 J gU) ?_;refine A5 J J J (B6 J J gU gU J) ?_;refine A5 J J J (A7 J gU) ?_;refine A5 J J J (A7 J gU) ?_;refine A5 J J J (G7 J (fun hh=>hh) J J) ?_;refine A5 J J J (B6 J J (fun hh=>hh) gU J) ?_;refine A5 J J J (E4 J J gU (fun _ hi=>gP J hi)) ?_;refine A5 J J J (A7 J gU) ?_;refine A5 J J J (A7 J gU) ?_;refine A5 J J J (C7 (j:=0) J J (fun hh=>hh) gU J J (by first|omega|(simp at hh ⊢; omega)|(simp at hh; omega)) (fun hh=>Tk.rows_at (by first|omega|(simp at hh ⊢; omega)|(simp at hh; omega)))) ?_
 refine A5 J J J (F4 J (fun hh=>hh) J J) ?_;refine A5 J J J (E9 J (fun hh=>hh) J J J) ?_;refine H5 (s:=⟨[(0,_,_),(3,_,_),(19,_,_),(23,_,_)],[],[],[]⟩) (B3 (⟨U J,U J,U J,U J,O⟩) O O) ?_;refine A5 J J J (B6 J J (fun hh=>hh) gU J) ?_;refine A5 J J J (E4 J J gU (fun _ hi=>gP J hi)) ?_;refine A5 J J J (A7 J gU) ?_;refine A5 J J J (A7 J gU) ?_;refine A5 J J J (C7 (j:=0) J J (fun hh=>hh) gU J J (by first|omega|(simp at hh ⊢; omega)|(simp at hh; omega)) (fun hh=>Tk.rows_at (by first|omega|(simp at hh ⊢; omega)|(simp at hh; omega)))) ?_;refine A5 J J J (F4 J (fun hh=>hh) J J) ?_;refine A5 J J J (E9 J (fun hh=>hh) J J J) ?_;refine A5 J J J (A7 J gU) ?_;refine A5 J J J (H1 J J (fun hh=>hh) (fun hh=>hh) J) ?_;refine A5 J J J (E4 J J gU (fun _ hi=>gP J hi)) ?_;refine A5 J J J (A7 J gU) ?_;refine A5 J J J (A7 J gU) ?_;refine H5 (s:=⟨[(34,_,_),(35,_,_)],[],[],[]⟩) (B3 (⟨U J,U J,O⟩) O O) ?_;refine C8 J J J J J J gU (fun hh=>gA ((fun hh=>hh) hh) (rfl)) (Fv _) J ?_
 refine A5 J J J (E4 J J gU (fun _ hi=>gP J hi)) ?_;refine A5 J J J (A9 J gU) ?_;refine B0 ?_;refine C1 ?_
 repeat(first|refine tR ?_|refine bR ?_)
 refine C5 J ?_ O;refine N0 ?_
 unfold rnmE
 rw[Bool.eq_iff_iff]
 simp only [Bool.and_eq_true,decide_eq_true_eq,beq_iff_eq]
 constructor
 ·rintro ⟨⟨⟨⟨a,b⟩,c⟩,d⟩,e⟩
  exact ⟨⟨⟨⟨by simpa using a,by have := b; simp [Tk.rows_len] at this; omega⟩,by simpa using c⟩,by simpa using d⟩,e⟩
 ·rintro ⟨⟨⟨⟨a,b⟩,c⟩,d⟩,e⟩
  exact ⟨⟨⟨⟨by simpa using a,by simp [Tk.rows_len]; omega⟩,by simpa using c⟩,by simpa using d⟩,e⟩
theorem Aw (s : List UInt8) : Ctr sys 111 [xs s] [] (xb (D8 s)) none []:=Ir (Ix (Ds [] (by simp))) fun h=>Ds s h
theorem Tl (s : List UInt8) : Ctr sys 82 [xs s] [] (xb (rnmE s)) none []:=Ir (Ix (Dy [] (by simp))) fun h=>Dy s h
theorem uCB (s : List UInt8) : rnmE s=D8 s:=by
 by_cases h : s.length≤65536
 ·exact (uAR s h).symm
 ·have h1 : D8 s=false:=by
   unfold D8
   have : decide (s.length≤24)=false:=decide_eq_false (by omega)
   rw[this,Bool.and_false]
  have h2 : R5 s=false:=by
   unfold R5
   have : decide (s.length≤24)=false:=decide_eq_false (by omega)
   simp only [this,Bool.and_false,Bool.false_and]
  rw[h1]
  unfold rnmE
  rw[h2,Bool.and_false]
theorem O9 {α : Type} {f : α→Int} {l : List α} {d : α} {k : Nat} {e : Int} (h : k < l.length) (hi : errs f (l.drop k)=e) : (f (l.getD k d)≠0→e=f (l.getD k d))∧(f (l.getD k d)=0→errs f (l.drop (k + 1))=e):=by
 rw[Lo (d:=d) h,errs] at hi
 refine ⟨fun q=>?_,fun q=>?_⟩
 ·rw[if_pos q] at hi; exact hi.symm
 ·rw[if_neg (by rw[q]; simp)] at hi; exact hi
theorem Y2 {α : Type} {f : α→Int} {l : List α} {k : Nat} {e : Int} (h : l.length≤k) (hi : errs f (l.drop k)=e) : e=0:=by
 rw[List.drop_of_length_le h] at hi; exact hi.symm
theorem Yx : ∀ (n : Nat) (t : T),t.size≤n→n≤2000000→Ctr sys 140 [xm t] [] (xi (rawE D8 t)) none []:=by
 intro n
 induction n with
 | zero=>intro t h; have := t.size_pos; omega
 | succ n ih =>
  intro t ht hn
  have hse:=t.size_eq
  have hrl:=T.rows_len t.kids
  have hls:=T.len_sizes t.kids
  have he:=Vr D8 t
  rw[Dk] at he
  refine D1 Tryz.func140 J J J J J J ?_;refine A8 (A6 ?_);refine C3 J (E2 J J J J) ?_;refine A5 J J J (A9 J gU) ?_;refine B0 ?_;refine A8 ?_;refine A8 (A6 ?_);refine A5 J J J (B1 J gU J J) ?_;refine A5 J J J (B2 J gU J J J J) ?_;refine A5 J J J (B6 J J gU gU J) ?_;refine A5 J J J (A7 J gU) ?_;refine A5 J J J (B1 J gU J J) ?_;refine A5 J J J (B2 J (fun hh=>hh) J J J J) ?_;refine A5 J J J (B6 J J (fun hh=>hh) gU J) ?_;refine A5 J J J (D9 J J gU (fun _ hi=>gP J hi)) ?_;refine B0 ?_;refine B5 (s:=⟨[(1,_,_),(13,_,_)],[(.l 1,_)],[],[]⟩) (B3 (⟨U J,U J,O⟩) (⟨U J,O⟩) O) ?_;refine B8 J (fun hc=>?_) (fun hc=>?_)
  ·try simp only [nn,B4,T.rows_len,Fs.rows_len,Sp.rows_len,Gl.rows_len] at hc
   refine A8 (A6 ?_);refine A5 J J J (A9 J gU) ?_;refine B0 ?_;refine C1 ?_
   repeat(first|refine tR ?_|refine bR ?_)
   refine C5 J ?_ O
   (rw[he,if_pos (by grind)]; rfl)
  ·try simp only [nn,B4,T.rows_len,Fs.rows_len,Sp.rows_len,Gl.rows_len] at hc
   rw[if_neg (by grind)] at he
   refine C0 ?_;refine A8 ?_;refine A8 (A6 ?_);refine A5 J J J (B1 J gU J J) ?_;refine A5 J J J (B2 J gU J J J J) ?_;refine C8 J J J J J J gU gU (Aw _) J ?_;refine A5 J J J (F2 J gU) ?_;refine B0 ?_;refine B8 J (fun hc2=>?_) (fun hc2=>?_)
   ·try simp only [nn,B4,T.rows_len,Fs.rows_len,Sp.rows_len,Gl.rows_len] at hc2
    refine A8 (A6 ?_);refine A5 J J J (A9 J gU) ?_;refine B0 ?_;refine C1 ?_
    repeat(first|refine tR ?_|refine bR ?_)
    refine C5 J ?_ O
    (rw[he,if_pos hc2]; rfl)
   ·try simp only [nn,B4,T.rows_len,Fs.rows_len,Sp.rows_len,Gl.rows_len] at hc2
    rw[if_neg (by rw[hc2]; simp)] at he
    refine C0 ?_;refine A8 ?_;refine A8 (A6 ?_);refine A5 J J J (B1 J gU J J) ?_;refine A5 J J J (B2 J gU J J J J) ?_;refine E0 J J J J J gU J J ?_ (fun hh=>by simp at hh); intro hlen;refine A5 J J J (A7 J gU) ?_;refine B0 ?_;refine B5 (s:=⟨[(19,_,_),(20,_,_),(21,_,_)],[],[],[]⟩) (B3 (⟨U J,U J,U J,O⟩) O O) ?_;refine C4 ?_;refine F5 (ι:=Nat) { t:=[(19,_,_),(20,_,_)],bx:=[],ow:=[] } (fun k=>[(21,true,xi (k : Int))]) (fun k=>[]) (fun k=>k≤t.kids.length∧errs (rawE D8) (t.kids.drop k)=rawE D8 t) (fun k=>t.kids.length - k) (0) (⟨by simp,by rw[he]; rfl⟩) (B3 (⟨U J,U J,U J,O⟩) O O) ?_
    intro k hok
    dsimp only [List.cons_append,List.nil_append]
    obtain ⟨hk,hi⟩:=hok
    refine A8 (A6 ?_);refine A5 J J J (B6 J J gU gU J) ?_;refine B0 ?_;refine A8 ?_;refine B8 J (fun hc3=>?_) (fun hc3=>?_)
    ·try simp only [nn,B4,T.rows_len,Fs.rows_len,Sp.rows_len,Gl.rows_len] at hc3
     have hlt : k < t.kids.length:=by omega
     have h2:=T.getD_size hlt
     have hd:=O9 (d:=default) hlt hi
     refine C0 ?_;refine A8 ?_;refine C4 ?_;refine A8 (A6 ?_);refine A5 J J J (C7 J J gU gU J J J (fun hh=>T.rows_at (by first|omega|(simp at hh ⊢; omega)))) ?_;refine A5 J J J (D6 J gU J J J J) ?_;refine C3 J (D7 J J J) ?_;refine C3 J (C9 J J J J J J J) ?_;refine B0 ?_;refine A8 (A6 ?_);refine A5 J J J (B7 J gU J J J J J) ?_;refine C8 J J J J J J gU gU (ih (t.kids.getD k default) (by omega) (by omega)) J ?_;refine A5 J J J (A9 J gU) ?_;refine B0 ?_;refine B5 (s:=⟨[(5,_,_),(19,_,_),(20,_,_),(21,_,_)],[],[],[]⟩) (B3 (⟨U J,U J,U J,U J,O⟩) O O) ?_;refine A8 (A6 ?_);refine A5 J J J (A7 J gU) ?_;refine A5 J J J (B6 J J gU gU J) ?_;refine B0 ?_;refine B8 J (fun hc1=>?_) (fun hc1=>?_)
     ·try simp only [nn,B4,T.rows_len,Fs.rows_len,Sp.rows_len,Gl.rows_len] at hc1
      refine A8 (A6 ?_);refine A5 J J J (A7 J gU) ?_;refine A5 J J J (A9 J gU) ?_;refine B0 ?_;refine C1 ?_
      repeat(first|refine tR ?_|refine bR ?_)
      refine C5 J ?_ O;exact G8 (hd.1 (by assumption)).symm
     ·try simp only [nn,B4,T.rows_len,Fs.rows_len,Sp.rows_len,Gl.rows_len] at hc1
      refine C0 ?_;refine A6 ?_;refine A5 J J J (D0 J J gU gU J (IntWalk.i64_in _ (by omega))) ?_;refine A5 J J J (A7 J gU) ?_;refine B0 ?_;refine ⟨k + 1,?_,?_,B3 (⟨⟨_,rfl,?_⟩,⟨U J,U J,O⟩⟩) O O⟩
      all_goals (first|rfl|omega|exact ⟨by omega,hd.2 (by assumption)⟩)
    ·try simp only [nn,B4,T.rows_len,Fs.rows_len,Sp.rows_len,Gl.rows_len] at hc3
     refine E1 ?_
     repeat(first|refine D3 ?_|refine D4 ?_|refine D2 J ?_)
     refine A8 (A6 ?_);refine A5 J J J (A9 J gU) ?_;refine B0 ?_;refine C1 ?_
     repeat(first|refine tR ?_|refine bR ?_)
     refine C5 J ?_ O;exact G8 (Y2 (by omega) hi).symm
theorem Nn (t : T) (ht : t.size≤900000) : Ctr sys 112 [xm t] [] (xi (Aj D8 t)) none []:=by
 refine D1 Tryz.func112 J J J J J J ?_;refine A8 (A6 ?_);refine C3 J (E2 J J J J) ?_;refine A5 J J J (A9 J gU) ?_;refine B0 ?_;refine A8 ?_;refine A8 (A6 ?_);refine A5 J J J (B7 J gU J J J J J) ?_;refine C8 J J J J J J gU gU (Pn _ (by omega)) J ?_;refine A5 J J J (A9 J gU) ?_;refine B0 ?_;refine B5 (s:=⟨[(1,_,_),(3,_,_)],[(.l 1,_)],[],[]⟩) (B3 (⟨U J,U J,O⟩) (⟨U J,O⟩) O) ?_;refine A8 (A6 ?_);refine A5 J J J (A7 J gU) ?_;refine A5 J J J (B6 J J gU gU J) ?_;refine B0 ?_;refine B8 J (fun hc=>?_) (fun hc=>?_)
 ·try simp only [nn,B4,T.rows_len,Fs.rows_len,Sp.rows_len,Gl.rows_len] at hc
  refine A8 (A6 ?_);refine A5 J J J (A7 J gU) ?_;refine A5 J J J (A9 J gU) ?_;refine B0 ?_;refine C1 ?_
  repeat(first|refine tR ?_|refine bR ?_)
  refine C5 J ?_ O
  (rw[Aj,if_pos hc]; rfl)
 ·try simp only [nn,B4,T.rows_len,Fs.rows_len,Sp.rows_len,Gl.rows_len] at hc
  refine C0 ?_;refine A8 (A6 ?_);refine A5 J J J (B7 J gU J J J J J) ?_;refine C8 J J J J J J gU gU (Yx _ _ (Nat.le_refl _) (by omega)) J ?_;refine A5 J J J (A9 J gU) ?_;refine B0 ?_;refine C1 ?_
  repeat(first|refine tR ?_|refine bR ?_)
  refine C5 J ?_ O
  (rw[Aj,if_neg (by simpa using hc)]; rfl)
theorem Em (t : T) (ht : t.size≤900000) : Ctr sys 73 [xm t] [] (xi (msgE D8 t)) none []:=by
 refine D1 Tryz.func73 J J J J J J ?_;refine A8 (A6 ?_);refine C3 J (E2 J J J J) ?_;refine A5 J J J (A9 J gU) ?_;refine B0 ?_;refine A8 ?_;refine A8 (A6 ?_);refine A5 J J J (B7 J gU J J J J J) ?_;refine C8 J J J J J J gU gU (Nn _ (by omega)) J ?_;refine A5 J J J (A9 J gU) ?_;refine B0 ?_;refine B5 (s:=⟨[(1,_,_),(3,_,_)],[(.l 1,_)],[],[]⟩) (B3 (⟨U J,U J,O⟩) (⟨U J,O⟩) O) ?_;refine A8 (A6 ?_);refine A5 J J J (A7 J gU) ?_;refine A5 J J J (B6 J J gU gU J) ?_;refine B0 ?_;refine B8 J (fun hc=>?_) (fun hc=>?_)
 ·try simp only [nn,B4,T.rows_len,Fs.rows_len,Sp.rows_len,Gl.rows_len] at hc
  refine A8 (A6 ?_);refine A5 J J J (A7 J gU) ?_;refine A5 J J J (A9 J gU) ?_;refine B0 ?_;refine C1 ?_
  repeat(first|refine tR ?_|refine bR ?_)
  refine C5 J ?_ O
  (rw[msgE,if_pos hc]; rfl)
 ·try simp only [nn,B4,T.rows_len,Fs.rows_len,Sp.rows_len,Gl.rows_len] at hc
  refine C0 ?_;refine A8 ?_;refine A8 (A6 ?_);refine A5 J J J (B7 J gU J J J J J) ?_;refine C8 J J J J J J gU gU (Sv _ _ (Nat.le_refl _) (by omega)) J ?_;refine A5 J J J (B6 J J gU gU J) ?_;refine B0 ?_;refine B5 (s:=⟨[(11,_,_)],[],[],[]⟩) (B3 (⟨U J,O⟩) O O) ?_;refine B8 J (fun hc2=>?_) (fun hc2=>?_)
  ·try simp only [nn,B4,T.rows_len,Fs.rows_len,Sp.rows_len,Gl.rows_len] at hc2
   refine A8 (A6 ?_);refine A5 J J J (A9 J gU) ?_;refine B0 ?_;refine C1 ?_
   repeat(first|refine tR ?_|refine bR ?_)
   refine C5 J ?_ O
   (rw[msgE,if_neg (by simpa using hc),if_pos (by omega)]; rfl)
  ·try simp only [nn,B4,T.rows_len,Fs.rows_len,Sp.rows_len,Gl.rows_len] at hc2
   refine C0 ?_;refine A8 (A6 ?_);refine A5 J J J (A9 J gU) ?_;refine B0 ?_;refine C1 ?_
   repeat(first|refine tR ?_|refine bR ?_)
   refine C5 J ?_ O
   (rw[msgE,if_neg (by simpa using hc),if_neg (by omega)]; rfl)
theorem R4 (g : Gl) : Ctr sys 114 [xg g] [] (xb (I4 g.kind)) none []:=by
 refine D1 Tryz.func114 J J J J J J ?_;refine A8 (A6 ?_);refine C3 J (E2 J J J J) ?_;refine A5 J J J (A9 J gU) ?_;refine B0 ?_;refine A8 (A6 ?_);refine A5 J J J (B1 J gU J J) ?_;refine A5 J J J (B2 J gU J J J J) ?_;refine A5 J J J (B6 J J gU gU J) ?_;refine A5 J J J (A7 J gU) ?_;refine A5 J J J (B1 J gU J J) ?_;refine A5 J J J (B2 J (fun hh=>hh) J J J J) ?_;refine A5 J J J (B6 J J (fun hh=>hh) gU J) ?_;refine A5 J J J (D9 J J gU (fun _ hi=>gP J hi)) ?_;refine A5 J J J (A9 J gU) ?_;refine B0 ?_;refine C1 ?_
 repeat(first|refine tR ?_|refine bR ?_)
 refine C5 J ?_ O
 rfl
theorem S8 (s : List UInt8) : Ctr sys 72 [xs s] [] (xb (!D8 s)) none []:=by
 refine D1 Tryz.func72 J J J J J J ?_;refine A8 (A6 ?_);refine A5 J J J (A9 J gU) ?_;refine B0 ?_;refine A8 (A6 ?_);refine A5 J J J (A7 J gU) ?_;refine C8 J J J J J J gU gU (Aw _) J ?_;refine A5 J J J (F2 J gU) ?_;refine A5 J J J (A9 J gU) ?_;refine B0 ?_;refine C1 ?_
 repeat(first|refine tR ?_|refine bR ?_)
 refine C5 J ?_ O
 rfl
theorem Xq (g : Gl) (hg : T.sizes g.data≤900000) : Ctr sys 74 [xg g] [] (xi (O2 D8 g)) none []:=by
 have hls:=T.len_sizes g.data
 have hrl:=T.rows_len g.data
 refine D1 Tryz.func74 J J J J J J ?_;refine A8 (A6 ?_);refine C3 J (E2 J J J J) ?_;refine A5 J J J (A9 J gU) ?_;refine B0 ?_;refine A8 (A6 ?_);refine A5 J J J (B1 J gU J J) ?_;refine A5 J J J (B2 J gU J J J J) ?_;refine E0 J J J J J gU J J ?_ (fun hh=>by simp at hh); intro hlen;refine A5 J J J (A9 J gU) ?_;refine B0 ?_;refine B5 (s:=⟨[(1,_,_),(3,_,_)],[(.l 1,_)],[],[]⟩) (B3 (⟨U J,U J,O⟩) (⟨U J,O⟩) O) ?_;refine A8 ?_;refine C4 ?_;refine A8 (A6 ?_);refine A5 J J J (B1 J gU J J) ?_;refine A5 J J J (B2 J gU J J J J) ?_;refine A5 J J J (B6 J J gU gU J) ?_;refine A5 J J J (A7 J gU) ?_;refine A5 J J J (B1 J gU J J) ?_;refine A5 J J J (B2 J (fun hh=>hh) J J J J) ?_;refine A5 J J J (B6 J J (fun hh=>hh) gU J) ?_;refine A5 J J J (D9 J J gU (fun _ hi=>gP J hi)) ?_;refine A5 J J J (A9 J gU) ?_;refine B0 ?_;refine B5 (s:=⟨[(1,_,_),(3,_,_),(10,_,_)],[(.l 1,_)],[],[]⟩) (B3 (⟨U J,U J,U J,O⟩) (⟨U J,O⟩) O) ?_
 refine B8 J (fun hc=>?_) (fun hc=>?_)
 ·try simp only [nn,B4,T.rows_len,Fs.rows_len,Sp.rows_len,Gl.rows_len] at hc
  refine A8 (A6 ?_);refine A5 J J J (A9 J gU) ?_;refine B0 ?_;refine C1 ?_
  repeat(first|refine tR ?_|refine bR ?_)
  refine C5 J ?_ O
  (rw[O2,if_pos (by grind)]; rfl)
 ·try simp only [nn,B4,T.rows_len,Fs.rows_len,Sp.rows_len,Gl.rows_len] at hc
  refine A8 (A6 ?_);refine A5 J J J (B1 J gU J J) ?_;refine A5 J J J (B2 J gU J J J J) ?_;refine C8 J J J J J J gU gU (Aw _) J ?_;refine A5 J J J (F2 J gU) ?_;refine A5 J J J (A7 J gU) ?_;refine A5 J J J (B7 J gU J J J J J) ?_;refine C8 J J J J J J gU (fun hh=>gA ((fun hh=>hh) hh) (rfl)) (R4 _) J ?_;refine A5 J J J (A7 J (fun hh=>hh)) ?_;refine A5 J J J (B1 J gU J J) ?_;refine A5 J J J (B2 J (fun hh=>hh) J J J J) ?_;refine C8 J J J J J J gU (fun hh=>gA ((fun hh=>hh) hh) (rfl)) (Aw _) J ?_;refine A5 J J J (F2 J (fun hh=>hh)) ?_;refine H5 (s:=⟨[(1,_,_),(3,_,_),(24,_,_),(27,_,_),(31,_,_)],[(.l 1,_)],[],[]⟩) (B3 (⟨U J,U J,U J,U J,U J,O⟩) (⟨U J,O⟩) O) ?_;refine A5 J J J (E4 J J (fun hh=>hh) (fun hh hi=>gP hh hi)) ?_;refine A5 J J J (D9 J J gU (fun _ hi=>gP J hi)) ?_;refine A5 J J J (A9 J gU) ?_;refine B0 ?_;refine B8 J (fun hc2=>?_) (fun hc2=>?_)
  ·try simp only [nn,B4,T.rows_len,Fs.rows_len,Sp.rows_len,Gl.rows_len] at hc2
   refine A8 (A6 ?_);refine A5 J J J (A9 J gU) ?_;refine B0 ?_;refine C1 ?_
   repeat(first|refine tR ?_|refine bR ?_)
   refine C5 J ?_ O
   (rw[O2,if_neg (by grind),if_pos (by grind)]; rfl)
  ·try simp only [nn,B4,T.rows_len,Fs.rows_len,Sp.rows_len,Gl.rows_len] at hc2
   refine A8 (A6 ?_);refine A5 J J J (B7 J gU J J J J J) ?_;refine C8 J J J J J J gU gU (R4 _) J ?_;refine A5 J J J (F2 J gU) ?_;refine A5 J J J (A7 J gU) ?_;refine A5 J J J (B1 J gU J J) ?_;refine A5 J J J (B2 J (fun hh=>hh) J J J J) ?_;refine A5 J J J (H1 J J (fun hh=>hh) gU J) ?_;refine A5 J J J (E4 J J gU (fun _ hi=>gP J hi)) ?_;refine A5 J J J (A9 J gU) ?_;refine B0 ?_;refine B5 (s:=⟨[(1,_,_),(3,_,_),(34,_,_)],[(.l 1,_)],[],[]⟩) (B3 (⟨U J,U J,U J,O⟩) (⟨U J,O⟩) O) ?_;refine B8 J (fun hc3=>?_) (fun hc3=>?_)
   ·try simp only [nn,B4,T.rows_len,Fs.rows_len,Sp.rows_len,Gl.rows_len] at hc3
    refine A8 (A6 ?_);refine A5 J J J (A9 J gU) ?_;refine B0 ?_;refine C1 ?_
    repeat(first|refine tR ?_|refine bR ?_)
    refine C5 J ?_ O
    (rw[O2,if_neg (by grind),if_neg (by grind),if_pos (by grind)]; rfl)
   ·try simp only [nn,B4,T.rows_len,Fs.rows_len,Sp.rows_len,Gl.rows_len] at hc3
    refine A8 (A6 ?_);refine A5 J J J (B7 J gU J J J J J) ?_;refine C8 J J J J J J gU gU (R4 _) J ?_;refine A5 J J J (A7 J gU) ?_;refine A5 J J J (A7 J gU) ?_;refine A5 J J J (B6 J J (fun hh=>hh) gU J) ?_;refine A5 J J J (A7 J (fun hh=>hh)) ?_;refine A5 J J J (A7 J gU) ?_;refine A5 J J J (B6 J J (fun hh=>hh) gU J) ?_;refine A5 J J J (D9 J J (fun hh=>hh) (fun hh hi=>gP hh hi)) ?_;refine A5 J J J (E4 J J gU (fun _ hi=>gP J hi)) ?_;refine A5 J J J (A7 J gU) ?_;refine A5 J J J (B7 J gU J J J J J) ?_;refine H5 (s:=⟨[(1,_,_),(3,_,_),(54,_,_),(55,_,_)],[(.l 1,_)],[],[]⟩) (B3 (⟨U J,U J,U J,U J,O⟩) (⟨U J,O⟩) O) ?_;refine C8 J J J J J J gU (fun hh=>gA ((fun hh=>hh) hh) (rfl)) (R4 _) J ?_;refine A5 J J J (F2 J (fun hh=>hh)) ?_;refine A5 J J J (A7 J (fun hh=>hh)) ?_;refine A5 J J J (A7 J gU) ?_;refine A5 J J J (B6 J J (fun hh=>hh) gU J) ?_;refine A5 J J J (E4 J J (fun hh=>hh) (fun hh hi=>gP hh hi)) ?_;refine A5 J J J (D9 J J gU (fun _ hi=>gP J hi)) ?_
    refine A5 J J J (A9 J gU) ?_;refine B0 ?_;refine B5 (s:=⟨[(1,_,_),(43,_,_)],[(.l 1,_)],[],[]⟩) (B3 (⟨U J,U J,O⟩) (⟨U J,O⟩) O) ?_;refine B8 J (fun hc4=>?_) (fun hc4=>?_)
    ·try simp only [nn,B4,T.rows_len,Fs.rows_len,Sp.rows_len,Gl.rows_len] at hc4
     refine A8 (A6 ?_);refine A5 J J J (A9 J gU) ?_;refine B0 ?_;refine C1 ?_
     repeat(first|refine tR ?_|refine bR ?_)
     refine C5 J ?_ O
     (rw[O2,if_neg (by grind),if_neg (by grind),if_neg (by grind),if_pos (by grind)]; rfl)
    ·try simp only [nn,B4,T.rows_len,Fs.rows_len,Sp.rows_len,Gl.rows_len] at hc4
     have he : O2 D8 g=errs (msgE D8) g.data:=by rw[O2,if_neg (by grind),if_neg (by grind),if_neg (by grind),if_neg (by grind)]
     refine C0 ?_;refine A8 ?_;refine A8 (A6 ?_);refine A5 J J J (B1 J gU J J) ?_;refine A5 J J J (B2 J gU J J J J) ?_;refine E0 J J J J J gU J J ?_ (fun hh=>by simp at hh); intro hlen;refine A5 J J J (A7 J gU) ?_;refine B0 ?_;refine C4 ?_;refine F5 (ι:=Nat) { t:=[(64,_,_),(65,_,_)],bx:=[],ow:=[] } (fun k=>[(66,true,xi (k : Int))]) (fun k=>[]) (fun k=>k≤g.data.length∧errs (msgE D8) (g.data.drop k)=O2 D8 g) (fun k=>g.data.length - k) (0) (⟨by simp,by rw[he]; rfl⟩) (B3 (⟨U J,U J,U J,O⟩) O O) ?_
     intro k hok
     dsimp only [List.cons_append,List.nil_append]
     obtain ⟨hk,hi⟩:=hok
     refine A8 (A6 ?_);refine A5 J J J (B6 J J gU gU J) ?_;refine B0 ?_;refine A8 ?_;refine B8 J (fun hc5=>?_) (fun hc5=>?_)
     ·try simp only [nn,B4,T.rows_len,Fs.rows_len,Sp.rows_len,Gl.rows_len] at hc5
      have hlt : k < g.data.length:=by omega
      have h2:=T.getD_size hlt
      have hd:=O9 (d:=default) hlt hi
      refine C0 ?_;refine A8 ?_;refine C4 ?_;refine A8 (A6 ?_);refine A5 J J J (C7 J J gU gU J J J (fun hh=>T.rows_at (by first|omega|(simp at hh ⊢; omega)))) ?_;refine A5 J J J (D6 J gU J J J J) ?_;refine C3 J (D7 J J J) ?_;refine C3 J (C9 J J J J J J J) ?_;refine B0 ?_;refine A8 (A6 ?_);refine A5 J J J (B7 J gU J J J J J) ?_;refine C8 J J J J J J gU gU (Em _ (by omega)) J ?_;refine A5 J J J (A9 J gU) ?_;refine B0 ?_;refine B5 (s:=⟨[(6,_,_),(64,_,_),(65,_,_),(66,_,_)],[],[],[]⟩) (B3 (⟨U J,U J,U J,U J,O⟩) O O) ?_;refine A8 (A6 ?_);refine A5 J J J (A7 J gU) ?_;refine A5 J J J (B6 J J gU gU J) ?_;refine B0 ?_;refine B8 J (fun hc1=>?_) (fun hc1=>?_)
      ·try simp only [nn,B4,T.rows_len,Fs.rows_len,Sp.rows_len,Gl.rows_len] at hc1
       refine A8 (A6 ?_);refine A5 J J J (A7 J gU) ?_;refine A5 J J J (A9 J gU) ?_;refine B0 ?_;refine C1 ?_
       repeat(first|refine tR ?_|refine bR ?_)
       refine C5 J ?_ O;exact G8 (hd.1 (by assumption)).symm
      ·try simp only [nn,B4,T.rows_len,Fs.rows_len,Sp.rows_len,Gl.rows_len] at hc1
       refine C0 ?_;refine A6 ?_;refine A5 J J J (D0 J J gU gU J (IntWalk.i64_in _ (by omega))) ?_;refine A5 J J J (A7 J gU) ?_;refine B0 ?_;refine ⟨k + 1,?_,?_,B3 (⟨⟨_,rfl,?_⟩,⟨U J,U J,O⟩⟩) O O⟩
       all_goals (first|rfl|omega|exact ⟨by omega,hd.2 (by assumption)⟩)
     ·try simp only [nn,B4,T.rows_len,Fs.rows_len,Sp.rows_len,Gl.rows_len] at hc5
      refine E1 ?_
      repeat(first|refine D3 ?_|refine D4 ?_|refine D2 J ?_)
      refine A8 (A6 ?_);refine A5 J J J (A9 J gU) ?_;refine B0 ?_;refine C1 ?_
      repeat(first|refine tR ?_|refine bR ?_)
      refine C5 J ?_ O;exact G8 (Y2 (by omega) hi).symm
def idxF (p : List UInt8→Bool) : List (List UInt8)→Int
 | []=>-1
 | x :: r=>if p x=true then 0 else if idxF p r < 0 then -1 else idxF p r + 1
theorem Kj {p : List UInt8→Bool} {l : List (List UInt8)} {k : Nat} {e : Int} (h : k < l.length) (hi : (if idxF p (l.drop k) < 0 then -1 else idxF p (l.drop k) + k)=e) :
  (p (l.getD k [])=true→e=k)∧(p (l.getD k [])=false→(if idxF p (l.drop (k + 1)) < 0 then -1 else idxF p (l.drop (k + 1)) + (k + 1 : Nat))=e):=by
 rw[Lo (d:=[]) h,idxF] at hi
 refine ⟨fun q=>?_,fun q=>?_⟩
 ·rw[if_pos q] at hi; simp at hi; omega
 ·rw[q] at hi
  simp only [Bool.false_eq_true,if_false] at hi
  generalize idxF p (List.drop (k + 1) l)=x at hi ⊢
  rw[← hi]
  by_cases hx : x < 0
  ·rw[if_pos hx,if_pos hx]; simp
  ·rw[if_neg hx,if_neg hx,if_neg (by omega)]; push_cast; omega
theorem En {α : Type} {l : List α} {d : α} {k : Nat} (h : k < l.length) : l.getD k d ∈ l:=by
 rw[List.getD_eq_getElem?_getD,List.getElem?_eq_getElem h]
 exact List.getElem_mem h
theorem Om {p : List UInt8→Bool} {l : List (List UInt8)} {k : Nat} {e : Int} (h : l.length≤k) (hi : (if idxF p (l.drop k) < 0 then -1 else idxF p (l.drop k) + k)=e) : e = -1:=by
 rw[List.drop_of_length_le h] at hi; simpa [idxF] using hi.symm
theorem Iv (p : List UInt8→Bool) (l : List (List UInt8)) : (if idxF p (l.drop 0) < 0 then -1 else idxF p (l.drop 0) + ((0 : Nat) : Int))=if idxF p l < 0 then -1 else idxF p l:=by simp
theorem Mk (p : List UInt8→Bool) : ∀ l : List (List UInt8),-1≤idxF p l
 | []=>by simp [idxF]
 | x :: r=>by have := Mk p r; rw[idxF]; split; omega; split <;> omega
theorem Lr (p : List UInt8→Bool) (l : List (List UInt8)) : (if idxF p l < 0 then -1 else idxF p l)=idxF p l := by have := Mk p l; split <;> omega
theorem Hp (p : List UInt8→Bool) : ∀ l : List (List UInt8),decide (idxF p l ≥ 0)=l.any p
 | []=>by simp [idxF]
 | x :: r=>by
  have ih:=Hp p r
  rw[idxF,List.any_cons,← ih]
  by_cases h : p x=true
  ·rw[if_pos h,h]; simp
  ·rw[if_neg h]
   have h' : p x=false:=by simpa using h
   rw[h',Bool.false_or]
   split
   ·rename_i h1; simp; omega
   ·rename_i h1; rw[Bool.eq_iff_iff]; simp; omega
theorem Jq (l : List (List UInt8)) : Ctr sys 136 [xss l, .fn 72 []] [] (xi (idxF (fun s=>!D8 s) l)) none []:=by
 have hrl:=B4 l
 refine D1 Tryz.func136 J J J J J J ?_;refine A8 (A6 ?_);refine A5 J J J (A9 J gU) ?_;refine B0 ?_;refine A8 ?_;refine A8 (A6 ?_);refine A5 J J J (A7 J gU) ?_;refine E0 J J J J J gU J J ?_ (fun hh=>by simp at hh); intro hlen;refine A5 J J J (A7 J gU) ?_;refine B0 ?_;refine C4 ?_;refine F5 (ι:=Nat) { t:=[(0,_,_),(1,_,_),(7,_,_)],bx:=[],ow:=[] } (fun k=>[(8,true,xi (k : Int))]) (fun k=>[]) (fun k=>k≤l.length∧(if idxF (fun s=>!D8 s) (l.drop k) < 0 then -1 else idxF (fun s=>!D8 s) (l.drop k) + k)=idxF (fun s=>!D8 s) l) (fun k=>l.length - k) (0) (⟨by simp,(Iv _ _).trans (Lr _ _)⟩) (B3 (⟨U J,U J,U J,U J,O⟩) O O) ?_
 intro k hok
 dsimp only [List.cons_append,List.nil_append]
 obtain ⟨hk,hi⟩:=hok
 refine A8 (A6 ?_);refine A5 J J J (B6 J J gU gU J) ?_;refine B0 ?_;refine A8 ?_;refine B8 J (fun hc=>?_) (fun hc=>?_)
 ·try simp only [nn,B4,T.rows_len,Fs.rows_len,Sp.rows_len,Gl.rows_len] at hc
  have hd:=Kj (k:=k) (l:=l) (by omega) hi
  refine C0 ?_;refine A8 ?_;refine C4 ?_;refine A8 (A6 ?_);refine A5 J J J (A7 J gU) ?_;refine A5 J J J (A9 J gU) ?_;refine B0 ?_;refine A8 (A6 ?_);refine A5 J J J (A7 J gU) ?_;refine A5 J J J (A7 J gU) ?_;refine A5 J J J (A7 J gU) ?_;refine A5 J J J (C7 J J gU gU J J J (fun hh=>R3 (by first|omega|(simp at hh ⊢; omega)))) ?_;refine A5 J J J (E9 J gU J J J) ?_;refine C8 J J J J J J gU gU (S8 _) J ?_;refine B0 ?_;refine B5 (s:=⟨[(0,_,_),(1,_,_),(5,_,_),(7,_,_),(8,_,_),(16,_,_)],[],[],[]⟩) (B3 (⟨U J,U J,U J,U J,U J,U J,O⟩) O O) ?_;refine B8 J (fun hc2=>?_) (fun hc2=>?_)
  ·try simp only [nn,B4,T.rows_len,Fs.rows_len,Sp.rows_len,Gl.rows_len] at hc2
   refine A8 (A6 ?_);refine A5 J J J (A7 J gU) ?_;refine A5 J J J (A9 J gU) ?_;refine B0 ?_;refine C1 ?_
   repeat(first|refine tR ?_|refine bR ?_)
   refine C5 J ?_ O;exact G8 (hd.1 (by simpa using hc2)).symm
  ·try simp only [nn,B4,T.rows_len,Fs.rows_len,Sp.rows_len,Gl.rows_len] at hc2
   refine C0 ?_;refine A6 ?_;refine A5 J J J (D0 J J gU gU J (IntWalk.i64_in _ (by omega))) ?_;refine A5 J J J (A7 J gU) ?_;refine B0 ?_;refine ⟨k + 1,?_,?_,B3 (⟨⟨_,rfl,?_⟩,⟨U J,U J,U J,O⟩⟩) O O⟩
   all_goals (first|rfl|omega|exact ⟨by omega,hd.2 (by simpa using hc2)⟩)
 ·try simp only [nn,B4,T.rows_len,Fs.rows_len,Sp.rows_len,Gl.rows_len] at hc
  refine E1 ?_
  repeat(first|refine D3 ?_|refine D4 ?_|refine D2 J ?_)
  refine A8 (A6 ?_);refine A5 J J J (A9 J gU) ?_;refine B0 ?_;refine C1 ?_
  repeat(first|refine tR ?_|refine bR ?_)
  refine C5 J ?_ O;exact G8 (Om (by omega) hi).symm
theorem Cv (l : List (List UInt8)) : Ctr sys 110 [xss l, .fn 72 []] [] (xb (l.any fun s=>!D8 s)) none []:=by
 refine D1 Tryz.func110 J J J J J J ?_;refine A8 (A6 ?_);refine A5 J J J (A9 J gU) ?_;refine B0 ?_;refine A8 (A6 ?_);refine A5 J J J (A7 J gU) ?_;refine A5 J J J (A7 J gU) ?_;refine C8 J J J J J J gU gU (Jq _) J ?_;refine A5 J J J (B6 J J gU gU J) ?_;refine A5 J J J (A9 J gU) ?_;refine B0 ?_;refine C1 ?_
 repeat(first|refine tR ?_|refine bR ?_)
 refine C5 J ?_ O;exact N0 (Hp _ l)
theorem Gs (l : List (List UInt8)) : (l.any fun s=>!D8 s) = !(l.all D8):=by
 induction l with
 | nil=>rfl
 | cons x r ih=>rw[List.any_cons,List.all_cons,ih,Bool.not_and]
theorem Xm (n : Nar) : Ctr sys 71 [xn n] [] (xi (Ag D8 n)) none []:=by
 have h1:=B4 n.roles
 have h2:=B4 n.tags
 have h3:=Fs.rows_len n.fresh
 have h4:=Sp.rows_len n.steps
 have h5:=Gl.rows_len n.goals
 refine D1 Tryz.func71 J J J J J J ?_;refine A8 (A6 ?_);refine C3 J (E2 J J J J) ?_;refine A5 J J J (A9 J gU) ?_;refine B0 ?_;refine A8 ?_;refine C4 ?_;refine A8 (A6 ?_);refine A5 J J J (B1 J gU J J) ?_;refine A5 J J J (B2 J gU J J J J) ?_;refine C8 J J J J J J gU gU (S8 _) J ?_;refine A5 J J J (A9 J gU) ?_;refine B0 ?_;refine B5 (s:=⟨[(1,_,_),(5,_,_)],[(.l 1,_)],[],[]⟩) (B3 (⟨U J,U J,O⟩) (⟨U J,O⟩) O) ?_;refine B8 J (fun hc=>?_) (fun hc=>?_)
 ·try simp only [nn,B4,T.rows_len,Fs.rows_len,Sp.rows_len,Gl.rows_len] at hc
  refine A8 (A6 ?_);refine A5 J J J (A9 J gU) ?_;refine B0 ?_;refine C1 ?_
  repeat(first|refine tR ?_|refine bR ?_)
  refine C5 J ?_ O
  (rw[Ag,if_pos (by simpa using hc)]; rfl)
 ·try simp only [nn,B4,T.rows_len,Fs.rows_len,Sp.rows_len,Gl.rows_len] at hc
  have hn : D8 n.name=true:=by simpa using hc
  have e1 : Ag D8 n=if cntE n≠0 then cntE n else if n.roles.all D8=false then 2 else if errs (frE D8) n.fresh≠0 then errs (frE D8) n.fresh else if n.tags.all D8=false then 2 else 0:=by rw[Ag,if_neg (by rw[hn]; simp)]
  refine A8 (A6 ?_);refine A5 J J J (B1 J gU J J) ?_;refine A5 J J J (B2 J gU J J J J) ?_;refine E0 J J J J J gU J J ?_ (fun hh=>by simp at hh); intro hlen;refine A5 J J J (B6 J J gU gU J) ?_;refine A5 J J J (A9 J gU) ?_;refine B0 ?_;refine B5 (s:=⟨[(1,_,_),(9,_,_)],[(.l 1,_)],[],[]⟩) (B3 (⟨U J,U J,O⟩) (⟨U J,O⟩) O) ?_;refine B8 J (fun hc2=>?_) (fun hc2=>?_)
  ·try simp only [nn,B4,T.rows_len,Fs.rows_len,Sp.rows_len,Gl.rows_len] at hc2
   have : cntE n=8:=by rw[cntE,if_pos (by omega)]
   refine A8 (A6 ?_);refine A5 J J J (A9 J gU) ?_;refine B0 ?_;refine C1 ?_
   repeat(first|refine tR ?_|refine bR ?_)
   refine C5 J ?_ O
   (rw[e1,this]; rfl)
  ·try simp only [nn,B4,T.rows_len,Fs.rows_len,Sp.rows_len,Gl.rows_len] at hc2
   refine A8 (A6 ?_);refine A5 J J J (B1 J gU J J) ?_;refine A5 J J J (B2 J gU J J J J) ?_;refine E0 J J J J J gU J J ?_ (fun hh=>by simp at hh); intro hlen;refine A5 J J J (B6 J J gU gU J) ?_;refine A5 J J J (A7 J gU) ?_;refine A5 J J J (B1 J gU J J) ?_;refine A5 J J J (B2 J (fun hh=>hh) J J J J) ?_;refine A5 J J J (G7 J (fun hh=>hh) J J) ?_;refine A5 J J J (B6 J J (fun hh=>hh) gU J) ?_;refine A5 J J J (D9 J J gU (fun _ hi=>gP J hi)) ?_;refine A5 J J J (A7 J gU) ?_;refine A5 J J J (B1 J gU J J) ?_;refine H5 (s:=⟨[(1,_,_),(25,_,_),(26,_,_)],[(.l 1,_)],[],[]⟩) (B3 (⟨U J,U J,U J,O⟩) (⟨U J,O⟩) O) ?_;refine A5 J J J (B2 J (fun hh=>hh) J J J J) ?_;refine A5 J J J (G7 J (fun hh=>hh) J J) ?_;refine A5 J J J (B6 J J (fun hh=>hh) gU J) ?_;refine A5 J J J (D9 J J gU (fun _ hi=>gP J hi)) ?_;refine A5 J J J (A9 J gU) ?_;refine B0 ?_;refine B5 (s:=⟨[(1,_,_),(14,_,_)],[(.l 1,_)],[],[]⟩) (B3 (⟨U J,U J,O⟩) (⟨U J,O⟩) O) ?_
   refine B8 J (fun hc3=>?_) (fun hc3=>?_)
   ·try simp only [nn,B4,T.rows_len,Fs.rows_len,Sp.rows_len,Gl.rows_len] at hc3
    have : cntE n=3:=by rw[cntE,if_neg (by omega),if_pos (by omega)]
    refine A8 (A6 ?_);refine A5 J J J (A9 J gU) ?_;refine B0 ?_;refine C1 ?_
    repeat(first|refine tR ?_|refine bR ?_)
    refine C5 J ?_ O
    (rw[e1,this]; rfl)
   ·try simp only [nn,B4,T.rows_len,Fs.rows_len,Sp.rows_len,Gl.rows_len] at hc3
    refine A8 (A6 ?_);refine A5 J J J (B1 J gU J J) ?_;refine A5 J J J (B2 J gU J J J J) ?_;refine E0 J J J J J gU J J ?_ (fun hh=>by simp at hh); intro hlen;refine A5 J J J (B6 J J gU gU J) ?_;refine A5 J J J (A9 J gU) ?_;refine B0 ?_;refine B5 (s:=⟨[(1,_,_),(31,_,_)],[(.l 1,_)],[],[]⟩) (B3 (⟨U J,U J,O⟩) (⟨U J,O⟩) O) ?_;refine B8 J (fun hc4=>?_) (fun hc4=>?_)
    ·try simp only [nn,B4,T.rows_len,Fs.rows_len,Sp.rows_len,Gl.rows_len] at hc4
     have : cntE n=8:=by rw[cntE,if_neg (by omega),if_neg (by omega),if_pos (by omega)]
     refine A8 (A6 ?_);refine A5 J J J (A9 J gU) ?_;refine B0 ?_;refine C1 ?_
     repeat(first|refine tR ?_|refine bR ?_)
     refine C5 J ?_ O
     (rw[e1,this]; rfl)
    ·try simp only [nn,B4,T.rows_len,Fs.rows_len,Sp.rows_len,Gl.rows_len] at hc4
     refine A8 (A6 ?_);refine A5 J J J (B1 J gU J J) ?_;refine A5 J J J (B2 J gU J J J J) ?_;refine E0 J J J J J gU J J ?_ (fun hh=>by simp at hh); intro hlen;refine A5 J J J (B6 J J gU gU J) ?_;refine A5 J J J (A7 J gU) ?_;refine A5 J J J (B1 J gU J J) ?_;refine A5 J J J (B2 J (fun hh=>hh) J J J J) ?_;refine A5 J J J (G7 J (fun hh=>hh) J J) ?_;refine A5 J J J (B6 J J (fun hh=>hh) gU J) ?_;refine A5 J J J (D9 J J gU (fun _ hi=>gP J hi)) ?_;refine A5 J J J (A9 J gU) ?_;refine B0 ?_;refine B5 (s:=⟨[(1,_,_),(36,_,_)],[(.l 1,_)],[],[]⟩) (B3 (⟨U J,U J,O⟩) (⟨U J,O⟩) O) ?_;refine B8 J (fun hc5=>?_) (fun hc5=>?_)
     ·try simp only [nn,B4,T.rows_len,Fs.rows_len,Sp.rows_len,Gl.rows_len] at hc5
      have : cntE n=3:=by rw[cntE,if_neg (by omega),if_neg (by omega),if_neg (by omega),if_pos (by omega)]
      refine A8 (A6 ?_);refine A5 J J J (A9 J gU) ?_;refine B0 ?_;refine C1 ?_
      repeat(first|refine tR ?_|refine bR ?_)
      refine C5 J ?_ O
      (rw[e1,this]; rfl)
     ·try simp only [nn,B4,T.rows_len,Fs.rows_len,Sp.rows_len,Gl.rows_len] at hc5
      have : cntE n=0:=by rw[cntE,if_neg (by omega),if_neg (by omega),if_neg (by omega),if_neg (by omega)]
      rw[if_neg (by rw[this]; simp)] at e1
      refine A8 (A6 ?_);refine A5 J J J (B1 J gU J J) ?_;refine A5 J J J (B2 J gU J J J J) ?_;refine C8 J J J J J J gU gU (Cv _) J ?_;refine A5 J J J (A9 J gU) ?_;refine B0 ?_;refine B8 J (fun hc6=>?_) (fun hc6=>?_)
      ·rw[Gs] at hc6
       refine A8 (A6 ?_);refine A5 J J J (A9 J gU) ?_;refine B0 ?_;refine C1 ?_
       repeat(first|refine tR ?_|refine bR ?_)
       refine C5 J ?_ O
       (rw[e1,if_pos (by simpa using hc6)]; rfl)
      ·rw[Gs] at hc6
       rw[if_neg (by simpa using hc6)] at e1
       refine C0 ?_;refine A8 ?_;refine A8 (A6 ?_);refine A5 J J J (B1 J gU J J) ?_;refine A5 J J J (B2 J gU J J J J) ?_;refine E0 J J J J J gU J J ?_ (fun hh=>by simp at hh); intro hlen;refine A5 J J J (A7 J gU) ?_;refine B0 ?_;refine B5 (s:=⟨[(1,_,_),(52,_,_),(53,_,_),(54,_,_)],[(.l 1,_)],[],[]⟩) (B3 (⟨U J,U J,U J,U J,O⟩) (⟨U J,O⟩) O) ?_;refine C4 ?_;refine F5 (ι:=Nat) { t:=[(1,_,_),(52,_,_),(53,_,_)],bx:=[(.l 1,_)],ow:=[] } (fun k=>[(54,true,xi (k : Int))]) (fun k=>[]) (fun k=>k≤n.fresh.length∧errs (frE D8) (n.fresh.drop k)=errs (frE D8) n.fresh) (fun k=>n.fresh.length - k) (0) (by simp) (B3 (⟨U J,U J,U J,U J,O⟩) (⟨U J,O⟩) O) ?_
       intro k hok
       dsimp only [List.cons_append,List.nil_append]
       obtain ⟨hk,hi⟩:=hok
       refine A8 (A6 ?_);refine A5 J J J (B6 J J gU gU J) ?_;refine B0 ?_;refine A8 ?_;refine B8 J (fun hc7=>?_) (fun hc7=>?_)
       ·try simp only [nn,B4,T.rows_len,Fs.rows_len,Sp.rows_len,Gl.rows_len] at hc7
        have hd:=O9 (d:=default) (k:=k) (l:=n.fresh) (by omega) hi
        have hf : frE D8 (n.fresh.getD k default)=if D8 (n.fresh.getD k default).role=false∨D8 (n.fresh.getD k default).name=false then 2 else if (n.fresh.getD k default).sort < 2∨4 < (n.fresh.getD k default).sort then 10 else 0:=rfl
        refine C0 ?_;refine A8 ?_;refine C4 ?_;refine A8 (A6 ?_);refine A5 J J J (C7 J J gU gU J J J (fun hh=>Fs.rows_at (by first|omega|(simp at hh ⊢; omega)))) ?_;refine A5 J J J (D6 J gU J J J J) ?_;refine C3 J (D7 J J J) ?_;refine C3 J (C9 J J J J J J J) ?_;refine B0 ?_;refine C4 ?_;refine A8 (A6 ?_);refine A5 J J J (B1 J gU J J) ?_;refine A5 J J J (B2 J gU J J J J) ?_;refine C8 J J J J J J gU gU (S8 _) J ?_;refine A5 J J J (A7 J gU) ?_;refine A5 J J J (B1 J gU J J) ?_;refine A5 J J J (B2 J (fun hh=>hh) J J J J) ?_;refine C8 J J J J J J gU (fun hh=>gA ((fun hh=>hh) hh) (rfl)) (S8 _) J ?_;refine A5 J J J (D9 J J gU (fun _ hi=>gP J hi)) ?_;refine H5 (s:=⟨[(1,_,_),(4,_,_),(52,_,_),(53,_,_),(54,_,_),(66,_,_)],[(.l 1,_),(.l 4,_)],[],[]⟩) (B3 (⟨U J,U J,U J,U J,U J,U J,O⟩) (⟨U J,U J,O⟩) O) ?_;refine A5 J J J (A9 J gU) ?_;refine B0 ?_;refine B8 J (fun hc8=>?_) (fun hc8=>?_)
        ·try simp only [nn,B4,T.rows_len,Fs.rows_len,Sp.rows_len,Gl.rows_len] at hc8
         rw[if_pos (by grind)] at hf
         have := hd.1 (by rw[hf]; simp)
         refine A8 (A6 ?_);refine A5 J J J (A9 J gU) ?_;refine B0 ?_;refine C1 ?_
         repeat(first|refine tR ?_|refine bR ?_)
         refine C5 J ?_ O
         (rw[e1,this,hf]; rfl)
        ·try simp only [nn,B4,T.rows_len,Fs.rows_len,Sp.rows_len,Gl.rows_len] at hc8
         rw[if_neg (by grind)] at hf
         refine A8 (A6 ?_);refine A5 J J J (B1 J gU J J) ?_;refine A5 J J J (B2 J gU J J J J) ?_;refine A5 J J J (B6 J J gU gU J) ?_;refine A5 J J J (A7 J gU) ?_;refine A5 J J J (B1 J gU J J) ?_;refine A5 J J J (B2 J (fun hh=>hh) J J J J) ?_;refine A5 J J J (B6 J J (fun hh=>hh) gU J) ?_;refine A5 J J J (D9 J J gU (fun _ hi=>gP J hi)) ?_;refine A5 J J J (A9 J gU) ?_;refine B0 ?_;refine B5 (s:=⟨[(1,_,_),(52,_,_),(53,_,_),(54,_,_),(67,_,_)],[(.l 1,_)],[],[]⟩) (B3 (⟨U J,U J,U J,U J,U J,O⟩) (⟨U J,O⟩) O) ?_;refine B8 J (fun hc9=>?_) (fun hc9=>?_)
         ·try simp only [nn,B4,T.rows_len,Fs.rows_len,Sp.rows_len,Gl.rows_len] at hc9
          rw[if_pos (by omega)] at hf
          have := hd.1 (by rw[hf]; simp)
          refine A8 (A6 ?_);refine A5 J J J (A9 J gU) ?_;refine B0 ?_;refine C1 ?_
          repeat(first|refine tR ?_|refine bR ?_)
          refine C5 J ?_ O
          (rw[e1,this,hf]; rfl)
         ·try simp only [nn,B4,T.rows_len,Fs.rows_len,Sp.rows_len,Gl.rows_len] at hc9
          rw[if_neg (by omega)] at hf
          refine C0 ?_;refine A6 ?_;refine A5 J J J (D0 J J gU gU J (IntWalk.i64_in _ (by omega))) ?_;refine A5 J J J (A7 J gU) ?_;refine B0 ?_;refine ⟨k + 1,?_,?_,B3 (⟨⟨_,rfl,?_⟩,⟨U J,U J,U J,O⟩⟩) (⟨U J,O⟩) O⟩
          all_goals (first|rfl|omega|exact ⟨by omega,hd.2 hf⟩)
       ·try simp only [nn,B4,T.rows_len,Fs.rows_len,Sp.rows_len,Gl.rows_len] at hc7
        have hz:=Y2 (by omega) hi
        rw[hz] at e1
        rw[if_neg (by simp)] at e1
        refine E1 ?_
        repeat(first|refine D3 ?_|refine D4 ?_|refine D2 J ?_)
        refine A8 ?_;refine A8 (A6 ?_);refine A5 J J J (B1 J gU J J) ?_;refine A5 J J J (B2 J gU J J J J) ?_;refine C8 J J J J J J gU gU (Cv _) J ?_;refine B0 ?_;refine B8 J (fun hc8=>?_) (fun hc8=>?_)
        ·rw[Gs] at hc8
         refine A8 (A6 ?_);refine A5 J J J (A9 J gU) ?_;refine B0 ?_;refine C1 ?_
         repeat(first|refine tR ?_|refine bR ?_)
         refine C5 J ?_ O
         (rw[e1,if_pos (by simpa using hc8)]; rfl)
        ·rw[Gs] at hc8
         refine C0 ?_;refine A8 (A6 ?_);refine A5 J J J (A9 J gU) ?_;refine B0 ?_;refine C1 ?_
         repeat(first|refine tR ?_|refine bR ?_)
         refine C5 J ?_ O
         (rw[e1,if_neg (by simpa using hc8)]; rfl)
theorem Tf (n : Nar) (hs : ∀ s ∈ n.steps,s.msg.size≤900000) (hg : ∀ g ∈ n.goals,T.sizes g.data≤900000) : Ctr sys 37 [xn n] [] (xi (narE D8 n)) none []:=by
 have h4:=Sp.rows_len n.steps
 have h5:=Gl.rows_len n.goals
 refine D1 Tryz.func37 J J J J J J ?_;refine A8 (A6 ?_);refine C3 J (E2 J J J J) ?_;refine A5 J J J (A9 J gU) ?_;refine B0 ?_;refine A8 ?_;refine A8 (A6 ?_);refine A5 J J J (B7 J gU J J J J J) ?_;refine C8 J J J J J J gU gU (Xm _) J ?_;refine A5 J J J (A9 J gU) ?_;refine B0 ?_;refine B5 (s:=⟨[(1,_,_),(3,_,_)],[(.l 1,_)],[],[]⟩) (B3 (⟨U J,U J,O⟩) (⟨U J,O⟩) O) ?_;refine A8 (A6 ?_);refine A5 J J J (A7 J gU) ?_;refine A5 J J J (B6 J J gU gU J) ?_;refine B0 ?_;refine B8 J (fun hc=>?_) (fun hc=>?_)
 ·try simp only [nn,B4,T.rows_len,Fs.rows_len,Sp.rows_len,Gl.rows_len] at hc
  refine A8 (A6 ?_);refine A5 J J J (A7 J gU) ?_;refine A5 J J J (A9 J gU) ?_;refine B0 ?_;refine C1 ?_
  repeat(first|refine tR ?_|refine bR ?_)
  refine C5 J ?_ O
  (rw[narE,if_pos hc]; rfl)
 ·try simp only [nn,B4,T.rows_len,Fs.rows_len,Sp.rows_len,Gl.rows_len] at hc
  have e1 : narE D8 n=if errs (spE D8) n.steps≠0 then errs (spE D8) n.steps else errs (O2 D8) n.goals:=by rw[narE,if_neg (by simpa using hc)]
  refine C0 ?_;refine A8 ?_;refine A8 (A6 ?_);refine A5 J J J (B1 J gU J J) ?_;refine A5 J J J (B2 J gU J J J J) ?_;refine E0 J J J J J gU J J ?_ (fun hh=>by simp at hh); intro hlen;refine A5 J J J (A7 J gU) ?_;refine B0 ?_;refine B5 (s:=⟨[(1,_,_),(16,_,_),(17,_,_),(18,_,_)],[(.l 1,_)],[],[]⟩) (B3 (⟨U J,U J,U J,U J,O⟩) (⟨U J,O⟩) O) ?_;refine C4 ?_;refine F5 (ι:=Nat) { t:=[(1,_,_),(16,_,_),(17,_,_)],bx:=[(.l 1,_)],ow:=[] } (fun k=>[(18,true,xi (k : Int))]) (fun k=>[]) (fun k=>k≤n.steps.length∧errs (spE D8) (n.steps.drop k)=errs (spE D8) n.steps) (fun k=>n.steps.length - k) (0) (by simp) (B3 (⟨U J,U J,U J,U J,O⟩) (⟨U J,O⟩) O) ?_
  intro k hok
  dsimp only [List.cons_append,List.nil_append]
  obtain ⟨hk,hi⟩:=hok
  refine A8 (A6 ?_);refine A5 J J J (B6 J J gU gU J) ?_;refine B0 ?_;refine A8 ?_;refine B8 J (fun hc2=>?_) (fun hc2=>?_)
  ·try simp only [nn,B4,T.rows_len,Fs.rows_len,Sp.rows_len,Gl.rows_len] at hc2
   have hlt : k < n.steps.length:=by omega
   have hd:=O9 (d:=default) (k:=k) (l:=n.steps) (by omega) hi
   have hm:=hs _ (En (d:=default) hlt)
   have hf : spE D8 (n.steps.getD k default)=if D8 (n.steps.getD k default).frm=false∨D8 (n.steps.getD k default).dst=false then 2 else msgE D8 (n.steps.getD k default).msg:=rfl
   refine C0 ?_;refine A8 ?_;refine C4 ?_;refine A8 (A6 ?_);refine A5 J J J (C7 J J gU gU J J J (fun hh=>Sp.rows_at (by first|omega|(simp at hh ⊢; omega)))) ?_;refine A5 J J J (D6 J gU J J J J) ?_;refine C3 J (D7 J J J) ?_;refine C3 J (C9 J J J J J J J) ?_;refine B0 ?_;refine A8 ?_;refine A8 (A6 ?_);refine A5 J J J (B1 J gU J J) ?_;refine A5 J J J (B2 J gU J J J J) ?_;refine C8 J J J J J J gU gU (S8 _) J ?_;refine A5 J J J (A7 J gU) ?_;refine A5 J J J (B1 J gU J J) ?_;refine A5 J J J (B2 J (fun hh=>hh) J J J J) ?_;refine C8 J J J J J J gU (fun hh=>gA ((fun hh=>hh) hh) (rfl)) (S8 _) J ?_;refine A5 J J J (D9 J J gU (fun _ hi=>gP J hi)) ?_;refine B0 ?_;refine B5 (s:=⟨[(1,_,_),(5,_,_),(16,_,_),(17,_,_),(18,_,_),(29,_,_)],[(.l 1,_),(.l 5,_)],[],[]⟩) (B3 (⟨U J,U J,U J,U J,U J,U J,O⟩) (⟨U J,U J,O⟩) O) ?_;refine B8 J (fun hc3=>?_) (fun hc3=>?_)
   ·try simp only [nn,B4,T.rows_len,Fs.rows_len,Sp.rows_len,Gl.rows_len] at hc3
    rw[if_pos (by grind)] at hf
    have := hd.1 (by rw[hf]; simp)
    refine A8 (A6 ?_);refine A5 J J J (A9 J gU) ?_;refine B0 ?_;refine C1 ?_
    repeat(first|refine tR ?_|refine bR ?_)
    refine C5 J ?_ O
    (rw[e1,this,hf]; rfl)
   ·try simp only [nn,B4,T.rows_len,Fs.rows_len,Sp.rows_len,Gl.rows_len] at hc3
    rw[if_neg (by grind)] at hf
    refine C0 ?_;refine A8 (A6 ?_);refine A5 J J J (B1 J gU J J) ?_;refine A5 J J J (B7 J gU J J J J J) ?_;refine C8 J J J J J J gU gU (Em (n.steps.getD k default).msg hm) J ?_;refine A5 J J J (A9 J gU) ?_;refine B0 ?_;refine A8 (A6 ?_);refine A5 J J J (A7 J gU) ?_;refine A5 J J J (B6 J J gU gU J) ?_;refine B0 ?_;refine B5 (s:=⟨[(1,_,_),(6,_,_),(16,_,_),(17,_,_),(18,_,_),(34,_,_)],[(.l 1,_)],[],[]⟩) (B3 (⟨U J,U J,U J,U J,U J,U J,O⟩) (⟨U J,O⟩) O) ?_;refine B8 J (fun hc4=>?_) (fun hc4=>?_)
    ·try simp only [nn,B4,T.rows_len,Fs.rows_len,Sp.rows_len,Gl.rows_len] at hc4
     have := hd.1 (by rw[hf]; exact hc4)
     refine A8 (A6 ?_);refine A5 J J J (A7 J gU) ?_;refine A5 J J J (A9 J gU) ?_;refine B0 ?_;refine C1 ?_
     repeat(first|refine tR ?_|refine bR ?_)
     refine C5 J ?_ O
     (rw[e1,this,hf,if_pos hc4]; rfl)
    ·try simp only [nn,B4,T.rows_len,Fs.rows_len,Sp.rows_len,Gl.rows_len] at hc4
     refine C0 ?_;refine A6 ?_;refine A5 J J J (D0 J J gU gU J (IntWalk.i64_in _ (by omega))) ?_;refine A5 J J J (A7 J gU) ?_;refine B0 ?_;refine ⟨k + 1,?_,?_,B3 (⟨⟨_,rfl,?_⟩,⟨U J,U J,U J,O⟩⟩) (⟨U J,O⟩) O⟩
     all_goals (first|rfl|omega|exact ⟨by omega,hd.2 (by rw[hf]; simpa using hc4)⟩)
  ·try simp only [nn,B4,T.rows_len,Fs.rows_len,Sp.rows_len,Gl.rows_len] at hc2
   have hz:=Y2 (by omega) hi
   rw[hz,if_neg (by simp)] at e1
   refine E1 ?_
   repeat(first|refine D3 ?_|refine D4 ?_|refine D2 J ?_)
   refine A8 ?_;refine A8 (A6 ?_);refine A5 J J J (B1 J gU J J) ?_;refine A5 J J J (B2 J gU J J J J) ?_;refine E0 J J J J J gU J J ?_ (fun hh=>by simp at hh); intro hlen;refine A5 J J J (A7 J gU) ?_;refine B0 ?_;refine B5 (s:=⟨[(38,_,_),(39,_,_),(40,_,_)],[],[],[]⟩) (B3 (⟨U J,U J,U J,O⟩) O O) ?_;refine C4 ?_;refine F5 (ι:=Nat) { t:=[(38,_,_),(39,_,_)],bx:=[],ow:=[] } (fun k=>[(40,true,xi (k : Int))]) (fun k=>[]) (fun k=>k≤n.goals.length∧errs (O2 D8) (n.goals.drop k)=errs (O2 D8) n.goals) (fun k=>n.goals.length - k) (0) (by simp) (B3 (⟨U J,U J,U J,O⟩) O O) ?_
   intro k hok2
   dsimp only [List.cons_append,List.nil_append]
   obtain ⟨hk2,hi2⟩:=hok2
   refine A8 (A6 ?_);refine A5 J J J (B6 J J gU gU J) ?_;refine B0 ?_;refine A8 ?_;refine B8 J (fun hc5=>?_) (fun hc5=>?_)
   ·try simp only [nn,B4,T.rows_len,Fs.rows_len,Sp.rows_len,Gl.rows_len] at hc5
    have hlt : k < n.goals.length:=by omega
    have hd:=O9 (d:=default) (k:=k) (l:=n.goals) (by omega) hi2
    have hm:=hg _ (En (d:=default) hlt)
    refine C0 ?_;refine A8 ?_;refine C4 ?_;refine A8 (A6 ?_);refine A5 J J J (C7 J J gU gU J J J (fun hh=>Gl.rows_at (by first|omega|(simp at hh ⊢; omega)))) ?_;refine A5 J J J (D6 J gU J J J J) ?_;refine C3 J (D7 J J J) ?_;refine C3 J (C9 J J J J J J J) ?_;refine B0 ?_;refine A8 (A6 ?_);refine A5 J J J (B7 J gU J J J J J) ?_;refine C8 J J J J J J gU gU (Xq (n.goals.getD k default) hm) J ?_;refine A5 J J J (A9 J gU) ?_;refine B0 ?_;refine B5 (s:=⟨[(9,_,_),(38,_,_),(39,_,_),(40,_,_)],[],[],[]⟩) (B3 (⟨U J,U J,U J,U J,O⟩) O O) ?_;refine A8 (A6 ?_);refine A5 J J J (A7 J gU) ?_;refine A5 J J J (B6 J J gU gU J) ?_;refine B0 ?_;refine B8 J (fun hc6=>?_) (fun hc6=>?_)
    ·try simp only [nn,B4,T.rows_len,Fs.rows_len,Sp.rows_len,Gl.rows_len] at hc6
     have := hd.1 hc6
     refine A8 (A6 ?_);refine A5 J J J (A7 J gU) ?_;refine A5 J J J (A9 J gU) ?_;refine B0 ?_;refine C1 ?_
     repeat(first|refine tR ?_|refine bR ?_)
     refine C5 J ?_ O
     (rw[e1,this]; rfl)
    ·try simp only [nn,B4,T.rows_len,Fs.rows_len,Sp.rows_len,Gl.rows_len] at hc6
     refine C0 ?_;refine A6 ?_;refine A5 J J J (D0 J J gU gU J (IntWalk.i64_in _ (by omega))) ?_;refine A5 J J J (A7 J gU) ?_;refine B0 ?_;refine ⟨k + 1,?_,?_,B3 (⟨⟨_,rfl,?_⟩,⟨U J,U J,O⟩⟩) O O⟩
     all_goals (first|rfl|omega|exact ⟨by omega,hd.2 (by simpa using hc6)⟩)
   ·try simp only [nn,B4,T.rows_len,Fs.rows_len,Sp.rows_len,Gl.rows_len] at hc5
    have hz2:=Y2 (by omega) hi2
    refine E1 ?_
    repeat(first|refine D3 ?_|refine D4 ?_|refine D2 J ?_)
    refine A8 (A6 ?_);refine A5 J J J (A9 J gU) ?_;refine B0 ?_;refine C1 ?_
    repeat(first|refine tR ?_|refine bR ?_)
    refine C5 J ?_ O
    (rw[e1,hz2]; rfl)
open Go.RowKit (Below)
theorem Mj (l : List T) (t : T) : X.v (.c (.sl 4 (T.rows l++[t.cells])))=xl (l++[t]):=by simp [xl,T.rows_eq]
end Go.Proofs.YteidahabkfgfjaaGreat
namespace Go.Proofs.YteidahabkfgfjaaGreat
open Go Go.Abs
def pbx (l : List Tk) (p : PS) : List C:=[.sl 5 (Tk.rows l), .i .i64 (p.at' : Int), .b p.bad]
theorem Zb {l : List Tk} {a : Int} {b : Bool} {p : PS} (h1 : a=p.at') (h2 : b=p.bad) : ([.sl 5 (Tk.rows l), .i .i64 a, .b b] : List C)=pbx l p:=by rw[h1,h2]; rfl
theorem Tq (l : List (List UInt8)) (s : List UInt8) : Ctr sys 53 [xss l,xs s] [] (xi (idxF (fun x=>decide (s=x)) l)) none []:=by
 have hrl:=B4 l
 refine D1 Tryz.func53 J J J J J J ?_;refine A8 (A6 ?_);refine A5 J J J (A9 J gU) ?_;refine B0 ?_;refine A8 ?_;refine A8 (A6 ?_);refine A5 J J J (A7 J gU) ?_;refine E0 J J J J J gU J J ?_ (fun hh=>by simp at hh); intro hlen;refine A5 J J J (A7 J gU) ?_;refine B0 ?_;refine C4 ?_;refine F5 (ι:=Nat) { t:=[(0,_,_),(1,_,_),(7,_,_)],bx:=[],ow:=[] } (fun k=>[(8,true,xi (k : Int))]) (fun k=>[]) (fun k=>k≤l.length∧(if idxF (fun x=>decide (s=x)) (l.drop k) < 0 then -1 else idxF (fun x=>decide (s=x)) (l.drop k) + k)=idxF (fun x=>decide (s=x)) l) (fun k=>l.length - k) (0) (⟨by simp,(Iv _ _).trans (Lr _ _)⟩) (B3 (⟨U J,U J,U J,U J,O⟩) O O) ?_
 intro k hok
 dsimp only [List.cons_append,List.nil_append]
 obtain ⟨hk,hi⟩:=hok
 refine A8 (A6 ?_);refine A5 J J J (B6 J J gU gU J) ?_;refine B0 ?_;refine A8 ?_;refine B8 J (fun hc=>?_) (fun hc=>?_)
 ·try simp only [nn,B4,T.rows_len,Tk.rows_len] at hc
  have hd:=Kj (k:=k) (l:=l) (by omega) hi
  refine C0 ?_;refine A8 ?_;refine C4 ?_;refine A8 (A6 ?_);refine A5 J J J (A7 J gU) ?_;refine A5 J J J (A9 J gU) ?_;refine B0 ?_;refine A8 (A6 ?_);refine A5 J J J (A7 J gU) ?_;refine A5 J J J (A7 J gU) ?_;refine A5 J J J (A7 J gU) ?_;refine A5 J J J (C7 J J gU gU J J J (fun hh=>R3 (by first|omega|(simp at hh ⊢; omega)))) ?_;refine A5 J J J (E9 J gU J J J) ?_;refine A5 J J J (H1 J J gU gU J) ?_;refine B0 ?_;refine B5 (s:=⟨[(0,_,_),(1,_,_),(5,_,_),(7,_,_),(8,_,_),(16,_,_)],[],[],[]⟩) (B3 (⟨U J,U J,U J,U J,U J,U J,O⟩) O O) ?_;refine B8 J (fun hc2=>?_) (fun hc2=>?_)
  ·try simp only [nn,B4,T.rows_len,Tk.rows_len] at hc2
   refine A8 (A6 ?_);refine A5 J J J (A7 J gU) ?_;refine A5 J J J (A9 J gU) ?_;refine B0 ?_;refine C1 ?_
   repeat(first|refine tR ?_|refine bR ?_)
   refine C5 J ?_ O;exact G8 (hd.1 (by simpa using hc2)).symm
  ·try simp only [nn,B4,T.rows_len,Tk.rows_len] at hc2
   refine C0 ?_;refine A6 ?_;refine A5 J J J (D0 J J gU gU J (IntWalk.i64_in _ (by omega))) ?_;refine A5 J J J (A7 J gU) ?_;refine B0 ?_;refine ⟨k + 1,?_,?_,B3 (⟨⟨_,rfl,?_⟩,⟨U J,U J,U J,O⟩⟩) O O⟩
   all_goals (first|rfl|omega|exact ⟨by omega,hd.2 (by simpa using hc2)⟩)
 ·try simp only [nn,B4,T.rows_len,Tk.rows_len] at hc
  refine E1 ?_
  repeat(first|refine D3 ?_|refine D4 ?_|refine D2 J ?_)
  refine A8 (A6 ?_);refine A5 J J J (A9 J gU) ?_;refine B0 ?_;refine C1 ?_
  repeat(first|refine tR ?_|refine bR ?_)
  refine C5 J ?_ O;exact G8 (Om (by omega) hi).symm
theorem Eo (s : List UInt8) : ∀ l : List (List UInt8),(l.any fun x=>decide (s=x))=l.contains s
 | []=>rfl
 | x :: l=>by
  rw[List.any_cons,List.contains_cons,Eo s l]
  congr 1
  rw[Bool.eq_iff_iff]; simp
theorem O5 (l : List (List UInt8)) (s : List UInt8) : Ctr sys 77 [xss l,xs s] [] (xb (l.contains s)) none []:=by
 refine D1 Tryz.func77 J J J J J J ?_;refine A8 (A6 ?_);refine A5 J J J (A9 J gU) ?_;refine B0 ?_;refine A8 (A6 ?_);refine A5 J J J (A7 J gU) ?_;refine A5 J J J (A7 J gU) ?_;refine C8 J J J J J J gU gU (Tq _ _) J ?_;refine A5 J J J (B6 J J gU gU J) ?_;refine A5 J J J (A9 J gU) ?_;refine B0 ?_;refine C1 ?_
 repeat(first|refine tR ?_|refine bR ?_)
 refine C5 J ?_ O;exact N0 ((Hp _ l).trans (Eo s l))
end Go.Proofs.YteidahabkfgfjaaGreat
namespace Go.Abs
variable {Z : Pg}
theorem uAb {N : Nat} {ops : Array Oper} {st : St} {o : Oper} {d : Nat} {x : X} (hg : G6 ops st o=some false) (hd : o.dst=some d) (hN : Nat.ble (d + 1) N=true) : Op1 Z N ops o st (st.put d (false,x)):=by
 intro E G a w hr hE K Q hK
 have hdN : d < E.nt:=by rw[hE.nt]; exact Nat.le_of_ble_eq_true hN
 rw[I7 hr hg,hd]
 rw[hd] at hK
 simp only [Bool.false_eq_true,if_false]
 exact hK G undef w (hr.put hdN (fun hf=>by simp at hf) (fun _=>rfl))
theorem Vp {N : Nat} {ops : Array Oper} {rest : List Oper} {K : St→Prop} {st : St} {o : Oper} {d : Nat} (x : X) (hg : G6 ops st o=some false) (hd : o.dst=some d) (hN : Nat.ble (d + 1) N=true)
  (h : AL Z N ops rest K (st.put d (false,x))) : AL Z N ops (o :: rest) K st:=V7 (uAb hg hd hN) h
end Go.Abs
namespace Go.Abs
def uB0 (s : St) (os : OS) : Bool:=os.all fun e=>match s.own (.b (.o e.1) e.2.1) with
 | some z=>Nat.beq z e.2.2
 | none=>false
theorem Zg {T : List (Option TyI)} {rs : List ResultVar} {res x : X} {bs' : List (List C)} {os : OS} {s : St} (h : resX T s rs=some x) (hx : x=res) (hb : subB s (Q2 0 bs')) (ho : uB0 s os=true) : retO T rs res bs' os .box .normal s:=by
 have h1 : retS T rs res none bs' .ret s:=C5 h hx hb
 refine ⟨h1.1,h1.2.2,fun e he=>?_⟩
 have := List.all_eq_true.1 ho e he
 split at this
 ·rename_i z hz; rw[hz,Nat.eq_of_beq_eq_true this]
 ·simp at this
end Go.Abs
namespace Go.Abs
variable {Z : Pg}
section
variable {N : Nat} {st s0 : St} {ops : Array Oper} {B : List Nat} {q : Nat} {rest : List Oper} {acc : List Lnk} {o : Oper} {Q : St→Prop} {d : Nat}
end
theorem V2 (j' : Nat) {N : Nat} {ops : Array Oper} {rest : List Oper} {K : St→Prop} {st : St} {o : Oper} {d k : Nat} {x : Operand} {t : TypeId} {sz e by' L m0 : Nat} {cs : List C} {xs : List (List C)} {ti : TyI}
  (ho : o.op = .call { callee:=.builtin .append,args:=#[.tmp k,x],argTypes:=#[t,t] }) (hg : G6 ops st o=some true) (hd : o.dst=some d)
  (hs : st.get k=some (true, .v (.ms (.l m0) sz 0 L))) (hw : st.own (.t k)=some sz) (hb : st.box (.l m0)=some cs) (hx : lk Z.T st t x=some (true, .v (.c (.sl sz xs))))
  (ht : tyAt Z.T t=some ti) (hel : ti.el=some (e,sz,by')) (hN : Nat.ble (d + 1) N=true) (hkd : Nat.beq k d=false) (hf1 : st.freshO (.l j',true)=true) (hf2 : st.freshO (.l m0,false)=true) (hcl : cs.length=L * sz) (hx1 : 1≤xs.length)
  (hbig : (L + xs.length) * by'≤140737488355328) (hmax : L + xs.length≤9223372036854775807)
  (h : AL Z N ops rest K (st.msApp d k j' (.l m0) sz (L + xs.length) (cs++xs.flatten))) (hz : Z.old=false:=by rfl) : AL Z N ops (o :: rest) K st :=
 V7 (Jm hg (by
  rw[hd,ho]
  exact Th hs hw hx ht hel hN hkd ⟨_,rfl⟩ (St.freshO_ok hf1) (St.freshO_ok hf2) hcl hx1 hbig hmax (uCy hb hcl) (hz:=hz))) h
end Go.Abs
namespace Go.Abs
def uCE (s : St) (n : Nm) (L : Nat) (os : OS) : Bool:=os.all fun e=>Nat.beq e.1 0 && Nat.blt e.2.1 L && match s.own (.b n e.2.1) with
 | some z=>Nat.beq z e.2.2
 | none=>false
theorem I8 {T : List (Option TyI)} {res x : X} {bs' : List (List C)} {os : OS} {s : St} {b t : Nat} {r : List ResultVar} {n : Nm} {cs : List C} {ti : TyI} (h : resX T s (.cell b t :: r)=some x) (hx : x=res) (hb : subB s (Q2 0 bs')) (hne : r≠[])
  (hg : s.get b=some (true, .v (.ptr n 0))) (hbn : s.box n=some cs) (ht : tyAt T t=some ti) (hagg : ti.agg=true) (hln : Nat.beq cs.length ti.n=true) (ho : uCE s n cs.length os=true) : retO T (.cell b t :: r) res bs' os .res .ret s:=by
 have h1 : retS T (.cell b t :: r) res none bs' .ret s:=C5 h hx hb
 refine ⟨h1.1,h1.2.2,b,t,r,n,cs,ti,rfl,hne,hg,hbn,ht,hagg,hln,fun e he=>?_⟩
 have := List.all_eq_true.1 ho e he
 rw[Bool.and_eq_true,Bool.and_eq_true] at this
 obtain ⟨⟨h2,h3⟩,h4⟩:=this
 refine ⟨Nat.eq_of_beq_eq_true h2,?_,?_⟩
 ·split at h4
  ·rename_i z hz; rw[hz,Nat.eq_of_beq_eq_true h4]
  ·simp at h4
 ·have := Nat.le_of_ble_eq_true h3; omega
end Go.Abs
namespace Go.Abs
variable {Z : Pg}
theorem All2.app {α β : Type} {R : α→β→Prop} : ∀ {us : List α} {bs : List β} {cs : List α} {ds : List β},All2 R us bs→All2 R cs ds→All2 R (us++cs) (bs++ds)
 | [],[],_,_,_,k=>k
 | _ :: _,_ :: _,_,_,h,k=>⟨h.1,All2.app h.2 k⟩
 | [],_ :: _,_,_,h,_=>h.elim
 | _ :: _,[],_,_,h,_=>h.elim
theorem Jb {w : World} {G : Gh} : ∀ {ys : List Y} {vs : List Value},All2 (YRep w G) ys vs→All2 (XRep w G) (ys.map X.v) vs
 | [],[],_=>O
 | _ :: _,_ :: _,h=>⟨h.1,Jb h.2⟩
 | [],_ :: _,h=>h.elim
 | _ :: _,[],h=>h.elim
theorem Wt {Z' : Pg} {N : Nat} {ops : Array Oper} {st : St} {o : Oper} {d : Nat} {fo : Operand} {args : Array Operand} {ts : Array TypeId} {f : FuncId} {caps : List Y} {xs cxs : List X} {res : X} {ps : List Pass} {os : OS} {fv : Value} {H : List Value→Prop}
  (hP : Z'.P=Z.P) (hgv : ∀ (E : Env) (G : Gh) (a : Act) (w : World),Rel E G st a w→GlOk Z w (G.passedO ps os)→GlOk Z' w (G.passedO ps os))
  (ho : o.op = .call { callee:=.value fo,args:=args,argTypes:=ts }) (hg : G6 ops st o=some true)
  (ha : L5 Z.T st ts.toList args.toList=some (true,xs)) (htr : cxs.map (X.tr ps)=xs++caps.map X.v) (htrok : Z6 ps cxs=true)
  (hps : ∀ p ∈ ps,st.box p.n=some p.cs) (hnd : J9 st ps=true) (hosb : osB ps os st=true)
  (hs : CtrX Z' H f cxs (ps.map Pass.old) os res (ps.map Pass.ds) .box) (hc : res.clean=true) (hd : o.dst=some d) (hN : Nat.ble (d + 1) N=true)
  (E : Env) (G : Gh) (a : Act) (w : World) (hr : Rel E G st a w) (hE : EOk Z N E) (hfe : a.eval fo=fv) {cvs : List Value} (hfn : fv = .func (.func f) #[] cvs.toArray) (hcv : All2 (YRep w G) caps cvs)
  (hH : ∀ us : List Value,us.length=xs.length→H (us++cvs))
  (K' : Act→World→Prop) (Q' : Exit→Act→World→Prop) (hK : ∀ G' v w',Rel E G' (({ st.stores ps with ow:=osPl ps os++(st.stores ps).ow } : St).put d (true,res)) (a.put o.dst v) w'→K' (a.put o.dst v) w') :
  if Region.wanted o (yielded ops a.tmps) then o.wp Z.P a w K' Q' else K' (a.put o.dst undef) w:=by
 rw[I7 hr hg]
 simp only [if_true]
 have hav:=O8 hr ha J
 have hal:=hav.len
 have hav2:=hav.app (Jb hcv)
 rw[← htr] at hav2
 obtain ⟨hen,hsp⟩:=hs
 have hen2 : O0 Z f:=by unfold O0 at hen ⊢; rw[hP] at hen; exact hen
 unfold Oper.wp
 rw[S0 (caps:=cvs) ho (by rw[hfe,hfn]) hen2,Oper.upon_enter]
 have hos:=Ru hosb
 obtain ⟨p1,p2,p3,p4,p5,p6,p7,p8⟩:=Ck hr hE hav2 htrok hps hnd hos
 have p8' : GlOk Z' w (G.passedO ps os):=hgv E G a w hr p8
 have hcall:=hsp E.C w _ _ p1 (hH (args.toList.map a.eval) hal.symm) p2 p3 p4 p5 p6 p7 p8'
 rw[hP] at hcall
 refine hcall.mono ?_
 rintro e w' ⟨v,G',rfl,hfr,h1,h2,h3,h4,h5,h6,h7,h8⟩
 dsimp only
 obtain ⟨hrel,hS2,hown,hbx⟩:=Al hr hps hnd hos hfr h1 h2 h3 h5 h6 h8
 have hX : XRep w' (G.backO G' w.heap.size ps os) res v:=h4.mono hS2 (fun _ _ _=>rfl) (fun n hn=>by rw[X.clean_has hc n] at hn; simp at hn)
 rw[hd] at hK ⊢
 have hdN : d < E.nt:=by rw[hE.nt]; exact Nat.le_of_ble_eq_true hN
 refine hK _ v w' ((hrel.addOwns (l:=osPl ps os) ?_).put hdN (g:=true) (fun _=>hX) (fun hf=>by simp at hf))
 intro x hx
 obtain ⟨e,he,hex⟩:=List.mem_filterMap.1 hx
 obtain ⟨q,hq,hlt,hqo⟩:=hos e he
 rw[hq] at hex
 simp only [Option.map_some,Option.some.injEq] at hex
 subst hex
 obtain ⟨u,hu,huo⟩:=h7 e he
 have hA : (G.passedO ps os).A (.o e.1)=((G.A q.n).1,(G.A q.n).2 + q.off):=by simp [Gh.passedO,Gh.passed,hq]
 have hu2 : w'.cell? ⟨(G'.A (.o e.1)).1,(G'.A (.o e.1)).2 + e.2.1,none⟩=some u:=hu
 rw[h5,hA] at hu2
 dsimp only at hu2
 rw[Nat.add_assoc] at hu2
 obtain ⟨u0,hu0,_⟩:=hr.ow _ _ hqo
 exact ⟨u,⟨hu2,hbx _ _ _ hu0.2⟩,hown _ u e q hq (Be hnd q (List.mem_of_getElem? hq)) huo⟩
theorem Ee {N : Nat} {ops : Array Oper} {rest : List Oper} {K : St→Prop} {st : St} {o : Oper} {d : Nat} {fo : Operand} {args : Array Operand} {ts : Array TypeId} {f : FuncId} {caps : List Y} {xs cxs : List X} {res : X} (ps : List Pass) (os : OS)
  (ho : o.op = .call { callee:=.value fo,args:=args,argTypes:=ts }) (hg : G6 ops st o=some true)
  (hf : lk Z.T st 0 fo=some (true, .fn f caps)) (ha : L5 Z.T st ts.toList args.toList=some (true,xs)) (htr : cxs.map (X.tr ps)=xs++caps.map X.v) (htrok : Z6 ps cxs=true)
  (hps : ∀ p ∈ ps,st.box p.n=some p.cs) (hnd : J9 st ps=true) (hosb : osB ps os st=true)
  (hs : CtrO Z f cxs (ps.map Pass.old) os res (ps.map Pass.ds) .box) (hc : res.clean=true) (hd : o.dst=some d) (hN : Nat.ble (d + 1) N=true)
  (h : AL Z N ops rest K (({ st.stores ps with ow:=osPl ps os++(st.stores ps).ow } : St).put d (true,res))) : AL Z N ops (o :: rest) K st:=by
 refine V7 (fun E G a w hr hE K' Q' hK=>?_) h
 obtain ⟨cvs,hfv,hcv⟩:=F0 hr hf rfl
 exact Wt (H:=fun _=>True) J (fun _ _ _ _ _ h=>h) ho hg ha htr htrok hps hnd hosb ⟨hs.1,fun cc w G vs hcc _=>hs.2 cc w G vs hcc⟩ hc hd hN E G a w hr hE J hfv hcv (fun _ _=>O) K' Q' hK
section
variable {N : Nat} {V V' : Act→Prop} {ops : Array Oper} {rest : List Oper} {K : St→Prop} {st st' : St} {o : Oper}
end
theorem Z3 {T : List (Option TyI)} {rs : List ResultVar} {res x : X} {bs' : List (List C)} {os : OS} {s : St} (h : resX T s rs=some x) (hx : x=res) (hb : subB s (Q2 0 bs')) (ho : uB0 s os=true) : retO T rs res bs' os .box .ret s:=Zg h hx hb ho
end Go.Abs
namespace Go.Abs
variable {Z : Pg}
def uAO (es : List (List UInt8 × Value)) : Option Obj→Prop:=fun o=>∃ ms clock,o=some (.map ms clock)∧ms.toList.map (fun e=>(e.key,e.val))=es.map fun p=>((.string ⟨p.1.toArray⟩ : Value),p.2)
theorem mapIs_at {w : World} {b : Nat} {es : List (List UInt8 × Value)} : uAO es w.heap[b]? ↔ MapAt w b es:=Iff.rfl
def Pg.add (Z : Pg) (b : Nat) (es : List (List UInt8 × Value)) : Pg:={ Z with gv:=(b,uAO es) :: Z.gv }
theorem Wa {N : Nat} {c : Code} {Q : Exit→St→Prop} {st : St} (b : Nat) (es : List (List UInt8 × Value)) (hm : (b,uAO es) ∈ Z.gv) (h : AWP Z N c Q (st.addMap b false es)) : AWP Z N c Q st:=by
 intro E G a w hr hE
 have hg:=hE.at hr _ hm
 exact h E G a w (hr.addMap (mapIs_at.1 hg.2.1) (fun q=>by cases q) fun o=>⟨fun n=>hg.2.2.1 o n,fun p=>hg.2.2.2 o p⟩) hE
theorem Ctr.add {b : Nat} {es : List (List UInt8 × Value)} {f : FuncId} {args : List X} {bs bs' : List (List C)} {res : X} {ro : Option Nat} (h : Ctr Z f args bs res ro bs') : Ctr (Z.add b es) f args bs res ro bs':=Ctr.wk (Z:=Z) (Z':=Z.add b es) J (fun g hg=>List.mem_cons_of_mem _ hg) h
theorem uCJ {E : Env} {G G' : Gh} {st : St} {a : Act} {w : World} (hr : Rel E G st a w) {b i : Nat} {fl : Bool} {es : List (List UInt8 × Value)} (hm : st.mp[i]? = some (b,fl,es)) (h : GlOk Z w G') (h1 : ∀ o n,G'.W b o ≠ .box n) (h2 : ∀ o p,G'.W b o ≠ .own p) : GlOk (Z.add b es) w G':=by
 intro g hg
 rcases List.mem_cons.1 hg with q | q
 ·subst q
  have := hr.mem_map hm
  exact ⟨this.1.lt,mapIs_at.2 this.1,h1,h2⟩
 ·exact h g q
theorem Xb {N : Nat} {ops : Array Oper} {st : St} {o : Oper} {gate g gf : Bool} {d : Nat} {fo : Operand} {args : Array Operand} {ts : Array TypeId} {f : FuncId} {caps : List Y} {xs : List X} {res : X} {ro : Option Nat} {b i : Nat} {fl : Bool} {es : List (List UInt8 × Value)} (hm : st.mp[i]? = some (b,fl,es))
  (ho : o.op = .call { callee:=.value fo,args:=args,argTypes:=ts }) (hg : G6 ops st o=some gate) (hd : o.dst=some d) (hN : Nat.ble (d + 1) N=true)
  (hf : lk Z.T st 0 fo=some (gf, .fn f caps)) (ha : L5 Z.T st ts.toList args.toList=some (g,xs)) (hgf : gate=true→gf=true) (hga : gate=true→g=true)
  (hs : Ctr (Z.add b es) f (xs++caps.map .v) [] res ro []) (hc : res.clean=true) : Op1 Z N ops o st (st.ret d gate res ro):=by
 intro E G a w hr hE K' Q' hK
 have hdN : d < E.nt:=by rw[hE.nt]; exact Nat.le_of_ble_eq_true hN
 rw[I7 hr hg,hd]
 rw[hd] at hK
 cases gate with
 | false =>
  simp only [Bool.false_eq_true,if_false]
  have : st.ret d false res ro=st.put d (false,res):=by unfold St.ret; split <;> rfl
  rw[this] at hK
  exact hK G undef w (hr.put hdN (fun hf=>by simp at hf) (fun _=>rfl))
 | true =>
  simp only [if_true]
  obtain ⟨cvs,hfv,hcv⟩:=F0 hr hf (hgf rfl)
  have hav:=O8 hr ha (hga J)
  obtain ⟨hen,hsp⟩:=hs
  have hen : O0 Z f:=hen
  unfold Oper.wp
  rw[S0 ho hfv hen,Oper.upon_enter]
  have hmono : ∀ {x : X} {v : Value},XRep w G x v→XRep w G.pure x v:=fun hx=>hx.mono (fun b o hs=>(G.pure_imm b o).2 hs) (fun _ _ _=>rfl) (fun _ _=>rfl)
  have hcv' : All2 (XRep w G) (caps.map X.v) cvs:=by
   have : ∀ (us : List Y) (bs : List Value),All2 (YRep w G) us bs→All2 (XRep w G) (us.map X.v) bs:=by
    intro us
    induction us with
    | nil=>intro bs h; cases bs <;> exact h
    | cons y ys ih=>intro bs h; cases bs with
     | nil=>exact h.elim
     | cons b bs=>exact ⟨h.1,ih bs h.2⟩
   exact this _ _ hcv
  refine (hsp w G.pure _ ((hav.append hcv').mono fun _ _=>hmono) ?_ ?_ ?_ ?_ (uCJ hr hm ((hE.at hr).pure) (fun o' n h=>by rcases G.pure_cases b o' with h' | h' <;> rw[h'] at h <;> simp at h) (fun o' n h=>by rcases G.pure_cases b o' with h' | h' <;> rw[h'] at h <;> simp at h))).mono ?_
  ·intro b1 o' hb
   refine hr.wf b1 o' ?_
   intro e; apply hb; unfold Gh.pure; simp [e]
  ·intro j cs hj; simp at hj
  ·intro b1 o' n hn; rcases G.pure_cases b1 o' with h' | h' <;> rw[h'] at hn <;> simp at hn
  ·intro b1 o' p hn; rcases G.pure_cases b1 o' with h' | h' <;> rw[h'] at hn <;> simp at hn
  ·rintro e w' ⟨v,G',rfl,hfr,h1,h2,h3,h4,h5,h6,h7,h8⟩
   dsimp only
   have hfr' : Fr (fun _ _=>False) w.heap.size w w':=hfr.mono (Nat.le_refl _) (fun b1 o' _ ⟨n,hn⟩=>by rcases G.pure_cases b1 o' with h' | h' <;> rw[h'] at hn <;> simp at hn)
   have g1 : ∀ b1 o',G.W b1 o' = .imm→G'.W b1 o' = .imm:=fun b1 o' hi=>h1 b1 o' ((G.pure_imm b1 o').2 hi)
   have g2 : ∀ b1 o',b1 < w.heap.size→G'.W b1 o' = .imm→G.W b1 o' = .imm:=fun b1 o' hb hi=>(G.pure_imm b1 o').1 (h2 b1 o' hb hi)
   let G2:=G.back G' w.heap.size (.own (.t d))
   have hrel : Rel E G2 st a w':=hr.grow hfr' (fun b1 o' hb=>by simp [G2,Gh.back,hb]) (SameA.refl _ _) (fun b1 o' hb=>by
    dsimp only [G2,Gh.back] at hb
    split at hb
    ·rename_i hlt; exact Nat.lt_of_lt_of_le hlt hfr'.size
    ·refine h3 b1 o' ?_
     intro e; rw[e] at hb; simp at hb)
   have hX : XRep w' G2 res v:=h4.mono (fun b1 o'=>Gh.back_imm g2 b1 o') (fun _ _ _=>rfl) (fun n hn=>by rw[X.clean_has hc n] at hn; simp at hn)
   have hput:=hrel.put hdN (g:=true) (fun _=>hX) (fun hf=>by simp at hf)
   cases hro : ro with
   | none =>
    rw[hro] at hK
    rw[hd]
    exact hK G2 v w' hput
   | some sz =>
    rw[hro] at hK
    rw[hd]
    refine hK G2 v w' (hput.addOwn (v:=v) ?_ ?_)
    ·show (a.put (some d) v).tmps[d]? = _
     rw[J8 (by rw[hr.nt]; exact hdN)]; simp
    ·rcases h7 sz hro with h7 | ⟨blk,len,cap,e,k1,k2,k3,k4⟩
     ·exact .inl h7
     ·refine .inr ⟨blk,len,cap,e,k1,⟨k2.1,Nat.le_trans (Nat.le_trans E.C_le (Nat.le_trans hr.hB hr.fr.size)) k2.2.1,fun _ _ _ hh=>by simp at hh⟩,k3,fun o' ho1 ho2=>?_⟩
      obtain ⟨k5,k6⟩:=k4 o' ho1 ho2
      refine ⟨?_,k6⟩
      have hnb : ¬ blk < w.heap.size := by have := h8 _ _ k5; omega
      simp [G2,Gh.back,hnb,k5]
theorem Ps {N : Nat} {ops : Array Oper} {rest : List Oper} {K : St→Prop} {st : St} {o : Oper} {gate g gf : Bool} {d : Nat} {fo : Operand} {args : Array Operand} {ts : Array TypeId} {f : FuncId} {caps : List Y} {xs : List X} {res : X} {ro : Option Nat} {b : Nat} {fl : Bool} {es : List (List UInt8 × Value)} (i : Nat) (hm : st.mp[i]? = some (b,fl,es))
  (ho : o.op = .call { callee:=.value fo,args:=args,argTypes:=ts }) (hg : G6 ops st o=some gate) (hd : o.dst=some d) (hN : Nat.ble (d + 1) N=true)
  (hf : lk Z.T st 0 fo=some (gf, .fn f caps)) (ha : L5 Z.T st ts.toList args.toList=some (g,xs)) (hgf : gate=true→gf=true) (hga : gate=true→g=true)
  (hs : Ctr (Z.add b es) f (xs++caps.map .v) [] res ro []) (hc : res.clean=true)
  (h : AL Z N ops rest K (st.ret d gate res ro)) : AL Z N ops (o :: rest) K st:=V7 (Xb hm ho hg hd hN hf ha hgf hga hs hc) h
def CtrM (Z : Pg) (f : FuncId) (args : List X) (res : Nat→X) (es : List (List UInt8 × Value)) : Prop :=
 O0 Z f ∧ ∀ (w : World) (G : Gh) (vs : List Value),All2 (XRep w G) args vs→(∀ b o,G.W b o ≠ .none→b < w.heap.size)→(∀ b o n,G.W b o ≠ .box n)→(∀ b o p,G.W b o ≠ .own p)→GlOk Z w G →
  Calls Z.P f vs.toArray w fun e w'=>∃ v G' b,e = .returned v∧Fr (fun _ _=>False) w.heap.size w w' ∧
   (∀ b o,G.W b o = .imm→G'.W b o = .imm)∧(∀ b o,b < w.heap.size→G'.W b o = .imm→G.W b o = .imm)∧(∀ b o,G'.W b o ≠ .none→b < w'.heap.size)∧(∀ b o n,G'.W b o ≠ .box n)∧(∀ b o p,G'.W b o ≠ .own p)∧XRep w' G' (res b) v∧w.heap.size≤b∧MapAt w' b es
def retM (T : List (Option TyI)) (rs : List ResultVar) (res : Nat→X) (es : List (List UInt8 × Value)) : Exit→St→Prop
 | .normal,s | .ret,s=>∃ b i : Nat,s.mp[i]? = some (b,true,es)∧resX T s rs=some (res b)
 | _,_=>False
theorem Nu {f : FuncId} {fn : Func} {c : Code} {N : Nat} {rs : List ResultVar} {args : List X} {res : Nat→X} {es : List (List UInt8 × Value)}
  (hf : Z.P.funcs[f]? = some fn) (hb : fn.body = some c) (hname : (fn.name == "runtime.NumGoroutine") = false) (hN : fn.ntmps = N) (hrs : fn.results = rs.toArray) (hlen' : Nat.ble args.length N = true) (hc : ∀ b, (res b).clean = true)
  (h : AWP Z N c (retM Z.T rs res es) (st0 args [])) (hx : ∀ A,Z.ex A:=by intro _; exact O) : CtrM Z f args res es:=by
 have hlen : args.length≤N:=Nat.le_of_ble_eq_true hlen'
 refine ⟨⟨fn,hf,by rw[hb]; rfl,hname⟩,?_⟩
 intro w G vs hvs hwf hbox hown hgl
 let E : Env:={ B:=w.heap.size,w0:=w,W0:=G.W,A0:=fun j=>G.A (.o j),nt:=N }
 let a : Act:={ tmps:=vs.toArray++Array.replicate (fn.ntmps - vs.toArray.size) undef,defers:=[] }
 have hal : args.length=vs.length:=hvs.len
 have hrel : Rel E G (st0 args []) a w:={
  df:=rfl
  tm:=by
   intro k g x hk
   obtain ⟨i,y,h1,h2,h3⟩:=W9 0 args k (g,x) hk
   simp only [Prod.mk.injEq] at h3
   obtain ⟨rfl,rfl⟩:=h3
   obtain ⟨v,hv,hx⟩:=hvs.get i x h2
   have hi : i < vs.length:=(List.getElem?_eq_some_iff.1 hv).1
   refine ⟨v,?_,fun _=>hx,fun hg=>by simp at hg⟩
   show (vs.toArray++_)[k]? = _
   rw[h1,Nat.zero_add,Array.getElem?_append_left (by simpa using hi)]
   simpa using hv
  bx:=by
   intro n cs hn
   obtain ⟨i,h1,h2⟩:=L6 0 [] n cs hn
   rw[h1,Nat.zero_add]
   simp at h2
  ow:=by intro p sz hp; simp [St.own,st0,getO] at hp
  wf:=hwf
  olB:=fun b o n _ hn=>.inl ⟨n,hn⟩
  olO:=fun b o p _ hn=>⟨p,hn⟩
  nt:=by
   show (vs.toArray++Array.replicate (fn.ntmps - vs.toArray.size) undef).size=N
   simp; omega
  oA:=fun _=>rfl
  im:=fun b o h=>h
  im':=fun b o _ h=>.inl h
  fr:=Fr.refl _ _ _
  hB:=Nat.le_refl _
  lo:=fun b o _=>⟨fun n hn=>by exact absurd hn (hbox b o n),fun _ p=>hown b o p⟩
  bd:=fun t k cs hn=>by
   obtain ⟨i,h1,_⟩:=L6 0 [] _ cs hn
   simp at h1
  mp:=fun x hx=>by cases hx }
 refine calls_of_wp hf hb ?_
 have hwp:=h E G a w hrel ⟨rfl,fun _=>rfl,fun g hg=>⟨(hgl g hg).1,(hgl g hg).2.1,fun o hm=>by
  rcases hm with ⟨n,hn⟩ | ⟨p,hp⟩
  ·exact (hgl g hg).2.2.1 o n hn
  ·exact (hgl g hg).2.2.2 o p hp⟩,hx _⟩
 refine wp_mono hwp ?_
 rintro e a' w' ⟨G',s,hq,hr'⟩
 have key : (∃ b i : Nat,s.mp[i]? = some (b,true,es)∧resX Z.T s rs=some (res b)) →
   a'.defers=[] ∧ ∃ v,(results fn a'.tmps).run Z.P w' = .ok v w' ∧ ∃ u G' b,Ending.returned v = .returned u∧Fr (fun _ _=>False) w.heap.size w w' ∧
    (∀ b o,G.W b o = .imm→G'.W b o = .imm)∧(∀ b o,b < w.heap.size→G'.W b o = .imm→G.W b o = .imm)∧(∀ b o,G'.W b o ≠ .none→b < w'.heap.size)∧(∀ b o n,G'.W b o ≠ .box n)∧(∀ b o p,G'.W b o ≠ .own p)∧XRep w' G' (res b) u∧w.heap.size≤b∧MapAt w' b es:=by
  rintro ⟨b,i,hmi,hres⟩
  have hmm:=hr'.mem_map hmi
  refine ⟨hr'.df,?_⟩
  unfold resX at hres
  have hys : ∃ ys,Y9 Z.T s rs=some ys∧res b=Ab ys:=by
   split at hres
   ·rename_i ys hy; simp only [Option.some.injEq] at hres; exact ⟨ys,hy,hres.symm⟩
   ·simp at hres
  obtain ⟨ys,hys,hrb⟩:=hys
  obtain ⟨us,hrun,hall,hone⟩:=Q7 hr' hys
  have hresv : ∃ v,(results fn a'.tmps).run Z.P w' = .ok v w'∧XRep w' G' (Ab ys) v:=by
   have hr0 : (results fn a'.tmps).run Z.P w' = .ok (if h : us.toArray.size=1 then us.toArray[0] else .tuple us.toArray) w':=by
    rw[Y3,hrs,List.mapM_toArray]
    simp only [Sem.run_bind,Sem.run_map,hrun,Result.andThen_ok,Sem.run_pure]
   exact ⟨_,hr0,Et hall⟩
  obtain ⟨v,hv1,hv2⟩:=hresv
  refine ⟨v,hv1,?_⟩
  have hfr : Fr (fun _ _=>False) w.heap.size w w':=hr'.fr.mono (Nat.le_refl _) fun b o _ hm=>by
   rcases hm with ⟨n,hn⟩ | ⟨p,hp⟩
   ·exact absurd hn (hbox b o n)
   ·exact absurd hp (hown b o p)
  let G2 : Gh:={ A:=G'.A,W:=fun b o=>match G'.W b o with | .imm=>.imm | _=>.none }
  have hS : ∀ b o,G'.S b o→G2.S b o:=fun b o hs=>by unfold Gh.S at *; simp [G2,hs]
  have hI : ∀ b o,G2.W b o = .imm→G'.W b o = .imm:=fun b o hi=>by
   simp only [G2] at hi
   split at hi
   ·assumption
   ·simp at hi
  rw[← hrb] at hv2
  refine ⟨v,G2,b,rfl,hfr,fun b o hi=>hS b o (hr'.im b o hi),fun b o hb hi=>?_,fun b o hn=>?_,fun b o n hn=>?_,fun b o p hn=>?_,?_,hmm.2.1 J,hmm.1⟩
  ·rcases hr'.im' b o hb (hI b o hi) with h1 | ⟨p,hp⟩
   ·exact h1
   ·exact absurd hp (hown b o p)
  ·refine hr'.wf b o ?_
   intro he; apply hn; simp [G2,he]
  ·simp only [G2] at hn
   split at hn <;> simp at hn
  ·simp only [G2] at hn
   split at hn <;> simp at hn
  ·exact hv2.mono hS (fun _ _ _=>rfl) (fun _ _=>rfl)
 cases e <;> first
  | exact key hq
  | exact hq.elim
theorem Ht {N : Nat} {ops : Array Oper} {rest : List Oper} {K : St→Prop} {st : St} {o : Oper} {d : Nat} {fo : Operand} {args : Array Operand} {ts : Array TypeId} {f : FuncId} {xs : List X} {res : Nat→X} {es : List (List UInt8 × Value)}
  (ho : o.op = .call { callee:=.value fo,args:=args,argTypes:=ts }) (hg : G6 ops st o=some true) (hd : o.dst=some d) (hN : Nat.ble (d + 1) N=true)
  (hf : lk Z.T st 0 fo=some (true, .fn f [])) (ha : L5 Z.T st ts.toList args.toList=some (true,xs))
  (hs : CtrM Z f xs res es) (hc : ∀ b,(res b).clean=true) (h : ∀ b,AL Z N ops rest K ((st.put d (true,res b)).addMap b false es)) : AL Z N ops (o :: rest) K st:=by
 intro E G a w hr hE K' hK
 have hdN : d < E.nt:=by rw[hE.nt]; exact Nat.le_of_ble_eq_true hN
 unfold wpList
 rw[I7 hr hg,if_pos J]
 refine .inl ?_
 obtain ⟨cvs,hfv,hcv⟩:=F0 hr hf rfl
 have hcv0 : cvs=[]:=by cases cvs with
  | nil=>rfl
  | cons _ _=>exact hcv.elim
 subst hcv0
 have hav:=O8 hr ha J
 obtain ⟨hen,hsp⟩:=hs
 unfold Oper.wp
 rw[S0 ho hfv hen,Oper.upon_enter,List.append_nil]
 have hmono : ∀ {x : X} {v : Value},XRep w G x v→XRep w G.pure x v:=fun hx=>hx.mono (fun b o hs=>(G.pure_imm b o).2 hs) (fun _ _ _=>rfl) (fun _ _=>rfl)
 refine (hsp w G.pure _ (hav.mono fun _ _=>hmono) ?_ ?_ ?_ ((hE.at hr).pure)).mono ?_
 ·intro b o' hb
  refine hr.wf b o' ?_
  intro e; apply hb; unfold Gh.pure; simp [e]
 ·intro b o' n hn; rcases G.pure_cases b o' with h' | h' <;> rw[h'] at hn <;> simp at hn
 ·intro b o' p hn; rcases G.pure_cases b o' with h' | h' <;> rw[h'] at hn <;> simp at hn
 ·rintro e w' ⟨v,G',b,rfl,hfr,h1,h2,h3,h5,h6,h4,h7,h8⟩
  dsimp only
  have g2 : ∀ b o',b < w.heap.size→G'.W b o' = .imm→G.W b o' = .imm:=fun b o' hb hi=>(G.pure_imm b o').1 (h2 b o' hb hi)
  let G2:=G.back G' w.heap.size .none
  have hrel : Rel E G2 st a w':=hr.grow hfr (fun b o' hb=>by simp [G2,Gh.back,hb]) (SameA.refl _ _) (fun b o' hb=>by
   dsimp only [G2,Gh.back] at hb
   split at hb
   ·rename_i hlt; exact Nat.lt_of_lt_of_le hlt hfr.size
   ·refine h3 b o' ?_
    intro e; rw[e] at hb; simp at hb)
  have hX : XRep w' G2 (res b) v:=h4.mono (fun b o'=>Gh.back_imm g2 b o') (fun _ _ _=>rfl) (fun n hn=>by rw[X.clean_has (hc b) n] at hn; simp at hn)
  have hput:=hrel.put hdN (g:=true) (fun _=>hX) (fun hf=>by simp at hf)
  rw[hd]
  have hnb : ¬ b < w.heap.size:=by omega
  exact h b E G2 _ _ (hput.addMap (b:=b) (f:=false) (es:=es) h8 (fun q=>by cases q) (fun o'=>by
   dsimp only [G2,Gh.back]
   rw[if_neg hnb]
   constructor
   ·intro n hn; split at hn <;> simp at hn
   ·intro p hn; split at hn <;> simp at hn)) hE K' hK
end Go.Abs
