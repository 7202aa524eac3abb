/- Our abstract program logic and contracts of this seat's functions, part 3: no statement of its own (long names of ours are shortened by a program). -/
import Derived.Test.YteidahabkfgfjaaGreatM2
import Derived.Lib.Join
import Derived.Shelf.Strings.OnBuilder
import Derived.Shelf.Small.Strs
import Derived.Shelf.Strings.SlTrimAscii
import Derived.Shelf.Strings.Prefix
import Derived.Shelf.Strings.Split
import Derived.Shelf.LaysM
import Derived.Shelf.Strings.Search3
import Derived.Test.YteidahabkfgfjaaGreatProg
import Derived.KernelRfl
import Derived.WalkKit
import Derived.Lib.Builder
import Derived.Lib.UnsafeStr
import Derived.Laws.Externs
set_option linter.unusedVariables false
set_option linter.unusedSimpArgs false
namespace Go.Proofs.YteidahabkfgfjaaGreat
open Go Go.Abs
theorem uIm (n : Int) : Ctr sys 171 [xu n] [] (xb (uB0 n)) none []:=by
 refine uAA Tryz.func171 rfl rfl rfl rfl rfl rfl ?_;refine uAd (uAb ?_);refine uAa rfl rfl rfl (uAe rfl gU) ?_;refine uAf ?_;refine uAd (uAb ?_);refine uAa rfl rfl rfl (uAc rfl gU) ?_;refine uAa rfl rfl rfl (uAm rfl rfl gU gU rfl) ?_;refine uAa rfl rfl rfl (uAc rfl gU) ?_;refine uAa rfl rfl rfl (uAc rfl gU) ?_;refine uAa rfl rfl rfl (uAm rfl rfl (fun hh=>hh) gU rfl) ?_;refine uAa rfl rfl rfl (uAP rfl rfl gU (fun _ hi=>gP rfl hi)) ?_;refine uAa rfl rfl rfl (uAc rfl gU) ?_;refine uAa rfl rfl rfl (uAc rfl gU) ?_;refine uAa rfl rfl rfl (uAm rfl rfl (fun hh=>hh) gU rfl) ?_;refine uAa rfl rfl rfl (uAc rfl (fun hh=>hh)) ?_;refine uAa rfl rfl rfl (uAc rfl gU) ?_;refine uAa rfl rfl rfl (uAm rfl rfl (fun hh=>hh) gU rfl) ?_;refine uAa rfl rfl rfl (uAP rfl rfl (fun hh=>hh) (fun hh hi=>gP hh hi)) ?_;refine uAa rfl rfl rfl (uAL rfl rfl gU (fun _ hi=>gP rfl hi)) ?_;refine uAa rfl rfl rfl (uAc rfl gU) ?_;refine uAa rfl rfl rfl (uAc rfl gU) ?_;refine uAa rfl rfl rfl (uAm rfl rfl (fun hh=>hh) gU rfl) ?_;refine uAa rfl rfl rfl (uAc rfl (fun hh=>hh)) ?_;refine uAa rfl rfl rfl (uAc rfl gU) ?_;refine uAa rfl rfl rfl (uAm rfl rfl (fun hh=>hh) gU rfl) ?_;refine uAa rfl rfl rfl (uAP rfl rfl (fun hh=>hh) (fun hh hi=>gP hh hi)) ?_;refine uAa rfl rfl rfl (uAL rfl rfl gU (fun _ hi=>gP rfl hi)) ?_
 refine uAa rfl rfl rfl (uAc rfl gU) ?_;refine uAa rfl rfl rfl (uAc rfl gU) ?_;refine uAa rfl rfl rfl (uAm rfl rfl (fun hh=>hh) gU rfl) ?_;refine uAa rfl rfl rfl (uAL rfl rfl gU (fun _ hi=>gP rfl hi)) ?_;refine uAa rfl rfl rfl (uAc rfl gU) ?_;refine uAa rfl rfl rfl (uAc rfl gU) ?_;refine uAa rfl rfl rfl (uAm rfl rfl (fun hh=>hh) gU rfl) ?_;refine uAa rfl rfl rfl (uAL rfl rfl gU (fun _ hi=>gP rfl hi)) ?_;refine uAa rfl rfl rfl (uAe rfl gU) ?_;refine uAf ?_;refine uAp ?_
 repeat(first|refine tR ?_|refine bR ?_)
 refine uAt rfl ?_ trivial
 rfl
def uBS (t : T) : Int :=
 if (t.kind=1∨t.kind=2)∧0≤t.sort∧t.sort≤5∧t.kids.length=0∨t.kind=3∧t.sort=0 then
  if uCv t.name=true then (if 8 < t.kids.length then 3 else 0) else 2
 else 1
namespace T
mutual
def nodesE : T→Int
 | mk k n s ks=>if uBS (mk k n s ks)≠0 then uBS (mk k n s ks) else nodesEs ks
def nodesEs : List T→Int
 | []=>0
 | t :: ts=>if nodesE t≠0 then nodesE t else nodesEs ts
end
theorem nodesE_eq (t : T) : t.nodesE=if uBS t≠0 then uBS t else nodesEs t.kids:=by cases t; rw[nodesE]; rfl
theorem nodesEs_hit : ∀ (ts : List T) (k : Nat) (x : T),ts[k]? = some x→nodesEs (ts.take k)=0→x.nodesE≠0→nodesEs ts=x.nodesE
 | [],k,x,h,_,_=>by simp at h
 | t :: ts,0,x,h,_,hx=>by simp at h; subst h; rw[nodesEs,if_pos hx]
 | t :: ts,k + 1,x,h,h0,hx=>by
  rw[List.take_succ_cons,nodesEs] at h0
  rw[nodesEs]
  by_cases ht : t.nodesE=0
  ·rw[if_neg (by simpa using ht)] at h0
   rw[if_neg (by simpa using ht)]
   exact nodesEs_hit ts k x (by simpa using h) h0 hx
  ·rw[if_pos ht] at h0; exact absurd h0 ht
theorem nodesEs_step : ∀ (ts : List T) (k : Nat) (x : T),ts[k]? = some x→nodesEs (ts.take k)=0→x.nodesE=0→nodesEs (ts.take (k + 1))=0
 | [],k,x,h,_,_=>by simp at h
 | t :: ts,0,x,h,_,hx=>by simp at h; subst h; simp [nodesEs,hx]
 | t :: ts,k + 1,x,h,h0,hx=>by
  rw[List.take_succ_cons,nodesEs] at h0
  rw[List.take_succ_cons,nodesEs]
  by_cases ht : t.nodesE=0
  ·rw[if_neg (by simpa using ht)] at h0
   rw[if_neg (by simpa using ht)]
   exact nodesEs_step ts k x (by simpa using h) h0 hx
  ·rw[if_pos ht] at h0; exact absurd h0 ht
mutual
def depth : T→Nat
 | mk _ _ _ ks=>depths ks + 1
def depths : List T→Nat
 | []=>0
 | t :: ts=>max (depth t) (depths ts)
end
theorem depth_eq (t : T) : t.depth=depths t.kids + 1:=by cases t; rw[depth]; rfl
theorem depths_take : ∀ (ts : List T) (k : Nat) (x : T),ts[k]? = some x→depths (ts.take (k + 1))=max (depths (ts.take k)) x.depth
 | [],k,x,h=>by simp at h
 | t :: ts,0,x,h=>by simp at h; subst h; simp [depths]
 | t :: ts,k + 1,x,h=>by
  have := depths_take ts k x (by simpa using h)
  simp only [List.take_succ_cons,depths]
  omega
mutual
theorem depth_le : ∀ t : T,t.depth≤t.size
 | mk k n s ks=>by have := uIp ks; rw[depth,size]; omega
theorem uIp : ∀ ts : List T,depths ts≤sizes ts
 | []=>by simp [depths]
 | t :: ts=>by have h1:=depth_le t; have h2:=uIp ts; rw[depths,sizes]; omega
end
theorem depths_take_le : ∀ (ts : List T) (k : Nat),depths (ts.take k)≤depths ts
 | [],k=>by simp
 | t :: ts,0=>by simp [depths]
 | t :: ts,k + 1=>by have := depths_take_le ts k; simp only [List.take_succ_cons,depths]; omega
structure Chk where
 e : Int
 n : Int
 d : Int
mutual
def chk : T→Int→Int→Int→Chk
 | mk k nm s ks,lv,n,d=>if uBS (mk k nm s ks)≠0 then ⟨uBS (mk k nm s ks),n + 1,max d lv⟩ else chks ks (lv + 1) (n + 1) (max d lv)
def chks : List T→Int→Int→Int→Chk
 | [],_,n,d=>⟨0,n,d⟩
 | t :: ts,lv,n,d=>if (chk t lv n d).e≠0 then chk t lv n d else chks ts lv (chk t lv n d).n (chk t lv n d).d
end
theorem chk_eq (t : T) (lv n d : Int) : t.chk lv n d=if uBS t≠0 then ⟨uBS t,n + 1,max d lv⟩ else chks t.kids (lv + 1) (n + 1) (max d lv):=by cases t; rw[chk]; rfl
mutual
theorem chk_e : ∀ (t : T) (lv n d : Int),(t.chk lv n d).e=t.nodesE
 | mk k nm s ks,lv,n,d=>by
  rw[chk,nodesE]
  split
  ·rfl
  ·exact chks_e ks _ _ _
theorem chks_e : ∀ (ts : List T) (lv n d : Int),(chks ts lv n d).e=nodesEs ts
 | [],_,_,_=>by rw[chks,nodesEs]
 | t :: ts,lv,n,d=>by
  rw[chks,nodesEs]
  rw[chk_e t lv n d]
  split
  ·exact chk_e t lv n d
  ·exact chks_e ts _ _ _
end
mutual
theorem chk_n : ∀ (t : T) (lv n d : Int),n≤(t.chk lv n d).n∧(t.chk lv n d).n≤n + t.size∧(t.nodesE=0→(t.chk lv n d).n=n + t.size)
 | mk k nm s ks,lv,n,d=>by
  rw[chk,nodesE,size]
  have h:=chks_n ks (lv + 1) (n + 1) (max d lv)
  split
  ·dsimp only; exact ⟨by omega,by omega,fun hh=>absurd hh (by assumption)⟩
  ·exact ⟨by omega,by omega,fun hh=>by have := h.2.2 hh; omega⟩
theorem chks_n : ∀ (ts : List T) (lv n d : Int),n≤(chks ts lv n d).n∧(chks ts lv n d).n≤n + sizes ts∧(nodesEs ts=0→(chks ts lv n d).n=n + sizes ts)
 | [],_,n,_=>by rw[chks,sizes]; dsimp only; omega
 | t :: ts,lv,n,d=>by
  rw[chks,nodesEs,sizes,chk_e]
  have h:=chk_n t lv n d
  have h2:=chks_n ts lv (t.chk lv n d).n (t.chk lv n d).d
  split
  ·exact ⟨by omega,by omega,fun hh=>absurd hh (by assumption)⟩
  ·rename_i hz
   have hz' : t.nodesE=0:=by simpa using hz
   have := h.2.2 hz'
   exact ⟨by omega,by omega,fun hh=>by have := h2.2.2 hh; omega⟩
end
mutual
theorem chk_d : ∀ (t : T) (lv n d : Int),t.nodesE=0→(t.chk lv n d).d=max d (lv + t.depth - 1)
 | mk k nm s ks,lv,n,d,h=>by
  rw[nodesE] at h
  rw[chk,depth]
  split
  ·rename_i hz; rw[if_pos hz] at h; exact absurd h hz
  ·rename_i hz
   rw[if_neg hz] at h
   rw[uN6 ks (lv + 1) (n + 1) (max d lv) h]
   split <;> omega
theorem uN6 : ∀ (ts : List T) (lv n d : Int),nodesEs ts=0→(chks ts lv n d).d=if depths ts=0 then d else max d (lv + depths ts - 1)
 | [],_,n,d,_=>by rw[chks,depths]; simp
 | t :: ts,lv,n,d,h=>by
  rw[nodesEs] at h
  rw[chks,depths,chk_e]
  split
  ·rename_i hz; rw[if_pos hz] at h; exact absurd h hz
  ·rename_i hz
   rw[if_neg hz] at h
   rw[uN6 ts lv _ _ h,chk_d t lv n d (by simpa using hz)]
   have hd : 1≤t.depth:=by rw[depth_eq]; omega
   split <;> split <;> omega
end
theorem uEw : ∀ (a b : List T) (lv n d : Int),chks (a++b) lv n d=if (chks a lv n d).e≠0 then chks a lv n d else chks b lv (chks a lv n d).n (chks a lv n d).d
 | [],b,lv,n,d=>by rw[List.nil_append]; simp [chks]
 | t :: a,b,lv,n,d=>by
  rw[List.cons_append,chks,chks]
  by_cases h : (t.chk lv n d).e≠0
  ·rw[if_pos h,if_pos h,if_pos h]
  ·rw[if_neg h,if_neg h,uEw a b]
theorem uNO {ts : List T} {k : Nat} {x : T} (h : ts[k]? = some x) : ts.take (k + 1)=ts.take k++[x]:=by
 rw[List.take_add_one,h]; rfl
theorem chks_step {ts : List T} {k : Nat} {x : T} {lv n d : Int} (h : ts[k]? = some x) (h0 : (chks (ts.take k) lv n d).e=0) (hx : x.nodesE=0) :
  chks (ts.take (k + 1)) lv n d=x.chk lv (chks (ts.take k) lv n d).n (chks (ts.take k) lv n d).d:=by
 rw[uNO h,uEw,if_neg (by simpa using h0),chks,chk_e,if_neg (by simpa using hx),chks]
 have := chk_e x lv (chks (ts.take k) lv n d).n (chks (ts.take k) lv n d).d
 rw[hx] at this
 cases hc : x.chk lv (chks (ts.take k) lv n d).n (chks (ts.take k) lv n d).d
 rw[hc] at this
 simp at this
 simp [this]
theorem chks_hit {ts : List T} {k : Nat} {x : T} {lv n d : Int} (h : ts[k]? = some x) (h0 : (chks (ts.take k) lv n d).e=0) (hx : x.nodesE≠0) :
  chks ts lv n d=x.chk lv (chks (ts.take k) lv n d).n (chks (ts.take k) lv n d).d:=by
 have hs : ts=ts.take k++(x :: ts.drop (k + 1)):=by
  have hlt:=(List.getElem?_eq_some_iff.1 h)
  obtain ⟨hl,he⟩:=hlt
  rw[← he,List.getElem_cons_drop,List.take_append_drop]
 conv=>lhs; rw[hs]
 rw[uEw,if_neg (by simpa using h0),chks,chk_e,if_pos hx]
end T
def uCb (t : T) : Int:=if t.nodesE≠0 then t.nodesE else if 400 < t.size∨40 < t.depth then 3 else 0
end Go.Proofs.YteidahabkfgfjaaGreat
namespace Go.Proofs.YteidahabkfgfjaaGreat
open Go Go.Abs
abbrev xm (t : T) : X:=.v (.agg t.cells)
abbrev xl (ts : List T) : X:=.v (.c (.sl 4 (T.rows ts)))
theorem uEM (v : Int) (h : uB0 v=false∨(48≤v∧v≤57)∨v=95∨v=35) : uBg v=false:=by
 rcases h with h | h | h | h
 ·cases hl : uBg v with
  | false=>rfl
  | true=>simp [uB0,hl] at h
 all_goals simp [uBg]; omega
theorem uLr (v : Int) (h : uB0 v=true) (h1 : ¬ (48≤v∧v≤57)) (h2 : ¬ v=95) (h3 : ¬ v=35) : uBg v=true:=by
 cases hl : uBg v with
 | true=>rfl
 | false=>simp [uB0,hl,uBD] at h; omega
def uOL (l : List UInt8) (k : Nat) : St:={ t:=[(0,true,xs l),(38,true,xi l.length),(39,true,xi k)],bx:=[],ow:=[] }
theorem uIR (l : List UInt8) : Ctr sys 168 [xs l] [] (xb (uCv l)) none []:=by
 refine uAA Tryz.func168 rfl rfl rfl rfl rfl rfl ?_;refine uAd (uAb ?_);refine uAa rfl rfl rfl (uAe rfl gU) ?_;refine uAf ?_;refine uAd ?_;refine uAd (uAb ?_);refine uAa rfl rfl rfl (uAc rfl gU) ?_;refine uAa rfl rfl rfl (uA7 rfl rfl gU gU rfl) ?_;refine uAa rfl rfl rfl (uAc rfl gU) ?_;refine uAa rfl rfl rfl (uAc rfl gU) ?_;refine uAa rfl rfl rfl (uCk rfl (fun hh=>hh) (Tryz.underlying9)) ?_;refine uAa rfl rfl rfl (uAm rfl rfl (fun hh=>hh) gU rfl) ?_;refine uAa rfl rfl rfl (uAL rfl rfl gU (fun _ hi=>gP rfl hi)) ?_;refine uAa rfl rfl rfl (uAc rfl gU) ?_;refine uAa rfl rfl rfl (uAc rfl gU) ?_;refine uAa rfl rfl rfl (uAO rfl rfl (fun hh=>hh) gU Tryz.underlying9 rfl (by intro hh; simp at hh; exact List.length_pos_iff.2 hh.1)) ?_;refine uAu rfl rfl rfl rfl rfl rfl gU (fun hh=>gA ((fun hh=>hh) hh) (rfl)) (uIm _) rfl ?_;refine uAa rfl rfl rfl (uA0 rfl (fun hh=>hh)) ?_;refine uAa rfl rfl rfl (uAL rfl rfl gU (fun _ hi=>gP rfl hi)) ?_;refine uAa rfl rfl rfl (uAc rfl gU) ?_;refine uAa rfl rfl rfl (uAc rfl gU) ?_;refine uAa rfl rfl rfl (uAO rfl rfl (fun hh=>hh) gU Tryz.underlying9 rfl (by intro hh; simp at hh; exact List.length_pos_iff.2 hh.1.1)) ?_;refine uAa rfl rfl rfl (uAm rfl rfl (fun hh=>hh) gU rfl) ?_;refine uAa rfl rfl rfl (uAc rfl (fun hh=>hh)) ?_
 refine uAa rfl rfl rfl (uAc rfl gU) ?_;refine uAa rfl rfl rfl (uAO rfl rfl (fun hh=>hh) gU Tryz.underlying9 rfl (by intro hh; simp at hh; exact List.length_pos_iff.2 hh.1.1.1)) ?_;refine uAa rfl rfl rfl (uAm rfl rfl (fun hh=>hh) gU rfl) ?_;refine uAa rfl rfl rfl (uAP rfl rfl (fun hh=>hh) (fun hh hi=>gP hh hi)) ?_;refine uAa rfl rfl rfl (uAL rfl rfl gU (fun _ hi=>gP rfl hi)) ?_;refine uAa rfl rfl rfl (uAc rfl gU) ?_;refine uAa rfl rfl rfl (uAc rfl gU) ?_;refine uAa rfl rfl rfl (uAO rfl rfl (fun hh=>hh) gU Tryz.underlying9 rfl (by intro hh; simp at hh; exact List.length_pos_iff.2 hh.1.1.1)) ?_;refine uAa rfl rfl rfl (uAm rfl rfl (fun hh=>hh) gU rfl) ?_;refine uAa rfl rfl rfl (uAL rfl rfl gU (fun _ hi=>gP rfl hi)) ?_;refine uAa rfl rfl rfl (uAc rfl gU) ?_;refine uAa rfl rfl rfl (uAc rfl gU) ?_;refine uAa rfl rfl rfl (uAO rfl rfl (fun hh=>hh) gU Tryz.underlying9 rfl (by intro hh; simp at hh; exact List.length_pos_iff.2 hh.1.1.1.1)) ?_;refine uAa rfl rfl rfl (uAm rfl rfl (fun hh=>hh) gU rfl) ?_;refine uAa rfl rfl rfl (uAL rfl rfl gU (fun _ hi=>gP rfl hi)) ?_;refine uAf ?_;refine uAk (s:=⟨[(0,_,_),(36,_,_)],[],[],[]⟩) (uAi (⟨sx rfl,sx rfl,trivial⟩) trivial trivial) ?_;refine uAn rfl (fun hc=>?_) (fun hc=>?_)
 ·refine uAd (uAb ?_)
  refine uAa rfl rfl rfl (uAe rfl gU) ?_;refine uAf ?_;refine uAp ?_
  repeat(first|refine tR ?_|refine bR ?_)
  refine uAt rfl ?_ trivial;refine uCf ?_
  simp only [Bool.or_eq_true,Bool.not_eq_true',decide_eq_true_eq,Bool.and_eq_true,beq_iff_eq] at hc
  rcases hc with ((((hc | hc) | hc) | hc) | hc) | hc
  ·subst hc; rfl
  ·have : ¬ l.length≤24:=by omega
   simp [uCv,this]
  ·simp only [uCv,uEM _ (.inl hc),Bool.and_false,Bool.false_and]
  ·simp only [uCv,uEM _ (.inr (.inl hc)),Bool.and_false,Bool.false_and]
  ·simp only [uCv,uEM _ (.inr (.inr (.inl hc))),Bool.and_false,Bool.false_and]
  ·simp only [uCv,uEM _ (.inr (.inr (.inr hc))),Bool.and_false,Bool.false_and]
 ·simp only [Bool.or_eq_false_iff,Bool.not_eq_false',decide_eq_false_iff_not,beq_eq_false_iff_ne] at hc
  obtain ⟨⟨⟨⟨⟨hc1,hc2⟩,hc3⟩,hc4⟩,hc5⟩,hc6⟩:=hc
  have hlet:=uLr _ hc3 (by rintro ⟨q1,q2⟩; rw[decide_eq_true q1,decide_eq_true q2] at hc4; simp at hc4) hc5 hc6
  refine uAo ?_;refine uAd ?_;refine uAd (uAb ?_);refine uAa rfl rfl rfl (uAc rfl gU) ?_;refine uBU rfl rfl rfl rfl rfl gU (Tryz.underlying9) ?_ (fun hh=>by simp at hh); intro hlen;refine uAa rfl rfl rfl (uAc rfl gU) ?_;refine uAf ?_;refine uAr ?_;refine uCz (uOL l) (fun k=>k≤l.length ∧ ∀ j,j < k→uB0 ((l.getD j 0).toNat : Int)=true) (fun k=>l.length - k) 0 ⟨Nat.zero_le _,fun j h=>by omega⟩ ?_ ?_
  ·refine uAi ⟨⟨_,rfl,rfl⟩,⟨_,rfl,rfl⟩,⟨_,rfl,rfl⟩,trivial⟩ trivial trivial
  ·rintro k ⟨hk,hall⟩
   refine uAd (uAb ?_);refine uAa rfl rfl rfl (uAm rfl rfl gU gU rfl) ?_;refine uAf ?_;refine uAd ?_;refine uAn rfl (fun hc2=>?_) (fun hc2=>?_)
   ·have hlt : k < l.length:=by simpa using hc2
    refine uAo ?_;refine uAd ?_;refine uAr ?_;refine uAd (uAb ?_);refine uAa rfl rfl rfl (uAc rfl gU) ?_;refine uAa rfl rfl rfl (uAe rfl gU) ?_;refine uAf ?_;refine uAd (uAb ?_);refine uAa rfl rfl rfl (uAc rfl gU) ?_;refine uAa rfl rfl rfl (uAc rfl gU) ?_;refine uAa rfl rfl rfl (uAO rfl rfl gU gU Tryz.underlying9 rfl (fun _=>hlt)) ?_;refine uAu rfl rfl rfl rfl rfl rfl gU gU (uIm _) rfl ?_;refine uAa rfl rfl rfl (uA0 rfl gU) ?_;refine uAf ?_;refine uAk (s:=⟨[(0,_,_),(38,_,_),(39,_,_),(46,_,_)],[],[],[]⟩) (uAi (⟨sx rfl,sx rfl,sx rfl,sx rfl,trivial⟩) trivial trivial) ?_;refine uAn rfl (fun hc3=>?_) (fun hc3=>?_)
    ·refine uAd (uAb ?_)
     refine uAa rfl rfl rfl (uAe rfl gU) ?_;refine uAf ?_;refine uAp ?_
     repeat(first|refine tR ?_|refine bR ?_)
     refine uAt rfl ?_ trivial;refine uCf ?_
     have : (l.all fun b=>uB0 (b.toNat : Int))=false:=uJN hlt (by simpa using hc3)
     simp [uCv,this]
    ·refine uAo ?_
     refine uAb ?_;refine uAa rfl rfl rfl (uAz rfl rfl gU gU rfl (IntWalk.i64_in _ (by omega))) ?_;refine uAa rfl rfl rfl (uAc rfl gU) ?_;refine uAf ?_;refine ⟨k + 1,⟨by omega,?_⟩,by omega,?_⟩
     ·intro j hj
      rcases Nat.lt_or_ge j k with h | h
      ·exact hall j h
      ·have : j=k:=by omega
       subst this
       simpa using hc3
     ·refine uAi ⟨⟨_,rfl,rfl⟩,⟨_,rfl,rfl⟩,⟨_,rfl,rfl⟩,trivial⟩ trivial trivial
   ·refine uAJ ?_
    repeat(first|refine uAC ?_|refine uAD ?_|refine uAB rfl ?_)
    refine uAd (uAb ?_);refine uAa rfl rfl rfl (uAe rfl gU) ?_;refine uAf ?_;refine uAp ?_
    repeat(first|refine tR ?_|refine bR ?_)
    refine uAt rfl ?_ trivial;refine uCf ?_
    have hk' : k=l.length:=by simp at hc2; omega
    subst hk'
    have := uPI (p := fun b=>uB0 (b.toNat : Int)) hall
    have hne : l.length≠0 := by intro h; have := List.eq_nil_of_length_eq_zero h; simp [this] at hc1
    have h24 : l.length≤24:=by omega
    simp only [uCv,this,hlet]
    rw[decide_eq_true hne,decide_eq_true h24]
    rfl
theorem uM8 (t : T) : Ctr sys 148 [xm t] [] (xi (uBS t)) none []:=by
 refine uAA Tryz.func148 rfl rfl rfl rfl rfl rfl ?_;refine uAd (uAb ?_);refine uAq rfl (uAK rfl rfl rfl rfl) ?_;refine uAa rfl rfl rfl (uAe rfl gU) ?_;refine uAf ?_;refine uAd (uAb ?_);refine uAa rfl rfl rfl (uAg rfl gU rfl rfl) ?_;refine uAa rfl rfl rfl (uAh rfl gU rfl rfl rfl rfl) ?_;refine uAa rfl rfl rfl (uAm rfl rfl gU gU rfl) ?_;refine uAa rfl rfl rfl (uAc rfl gU) ?_;refine uAa rfl rfl rfl (uAg rfl gU rfl rfl) ?_;refine uAa rfl rfl rfl (uAh rfl (fun hh=>hh) rfl rfl rfl rfl) ?_;refine uAa rfl rfl rfl (uAm rfl rfl (fun hh=>hh) gU rfl) ?_;refine uAa rfl rfl rfl (uAL rfl rfl gU (fun _ hi=>gP rfl hi)) ?_;refine uAa rfl rfl rfl (uAe rfl gU) ?_;refine uAf ?_;refine uAk (s:=⟨[(1,_,_),(3,_,_)],[(.l 1,_)],[],[]⟩) (uAi (⟨sx rfl,sx rfl,trivial⟩) (⟨sx rfl,trivial⟩) trivial) ?_;refine uAd ?_;refine uAd (uAb ?_);refine uAa rfl rfl rfl (uAc rfl gU) ?_;refine uAa rfl rfl rfl (uA0 rfl gU) ?_;refine uAa rfl rfl rfl (uAc rfl gU) ?_;refine uAa rfl rfl rfl (uAg rfl gU rfl rfl) ?_;refine uAa rfl rfl rfl (uAh rfl (fun hh=>hh) rfl rfl rfl rfl) ?_;refine uAa rfl rfl rfl (uAm rfl rfl (fun hh=>hh) gU rfl) ?_;refine uAa rfl rfl rfl (uAP rfl rfl gU (fun _ hi=>gP rfl hi)) ?_;refine uAa rfl rfl rfl (uAc rfl gU) ?_
 refine uAa rfl rfl rfl (uAg rfl gU rfl rfl) ?_;refine uAa rfl rfl rfl (uAh rfl (fun hh=>hh) rfl rfl rfl rfl) ?_;refine uAa rfl rfl rfl (uAm rfl rfl (fun hh=>hh) gU rfl) ?_;refine uAa rfl rfl rfl (uAL rfl rfl gU (fun _ hi=>gP rfl hi)) ?_;refine uAa rfl rfl rfl (uAc rfl gU) ?_;refine uAa rfl rfl rfl (uAg rfl gU rfl rfl) ?_;refine uAa rfl rfl rfl (uAh rfl (fun hh=>hh) rfl rfl rfl rfl) ?_;refine uAa rfl rfl rfl (uAm rfl rfl (fun hh=>hh) gU rfl) ?_;refine uAa rfl rfl rfl (uAL rfl rfl gU (fun _ hi=>gP rfl hi)) ?_;refine uAa rfl rfl rfl (uAc rfl gU) ?_;refine uAa rfl rfl rfl (uAc rfl gU) ?_;refine uAa rfl rfl rfl (uA0 rfl (fun hh=>hh)) ?_;refine uAa rfl rfl rfl (uAc rfl (fun hh=>hh)) ?_;refine uAa rfl rfl rfl (uAg rfl gU rfl rfl) ?_;refine uAa rfl rfl rfl (uAh rfl (fun hh=>hh) rfl rfl rfl rfl) ?_;refine uAa rfl rfl rfl (uAm rfl rfl (fun hh=>hh) gU rfl) ?_;refine uAa rfl rfl rfl (uAP rfl rfl (fun hh=>hh) (fun hh hi=>gP hh hi)) ?_;refine uAa rfl rfl rfl (uAL rfl rfl gU (fun _ hi=>gP rfl hi)) ?_;refine uAa rfl rfl rfl (uAc rfl gU) ?_;refine uAa rfl rfl rfl (uAc rfl gU) ?_;refine uAa rfl rfl rfl (uAc rfl (fun hh=>hh)) ?_;refine uAa rfl rfl rfl (uAg rfl gU rfl rfl) ?_;refine uAa rfl rfl rfl (uAh rfl (fun hh=>hh) rfl rfl rfl rfl) ?_
 refine uAa rfl rfl rfl (uA9 rfl (fun hh=>hh) rfl rfl) ?_;refine uAa rfl rfl rfl (uAm rfl rfl (fun hh=>hh) gU rfl) ?_;refine uAa rfl rfl rfl (uAP rfl rfl (fun hh=>hh) (fun hh hi=>gP hh hi)) ?_;refine uAa rfl rfl rfl (uAL rfl rfl gU (fun _ hi=>gP rfl hi)) ?_;refine uAf ?_;refine uAk (s:=⟨[(1,_,_),(46,_,_)],[(.l 1,_)],[],[]⟩) (uAi (⟨sx rfl,sx rfl,trivial⟩) (⟨sx rfl,trivial⟩) trivial) ?_;refine uAn rfl (fun hc=>?_) (fun hc=>?_)
 ·refine uAd (uAb ?_)
  refine uAa rfl rfl rfl (uAe rfl gU) ?_;refine uAf ?_;refine uAp ?_
  repeat(first|refine tR ?_|refine bR ?_)
  refine uAt rfl ?_ trivial;refine uBa ?_
  rw[uBS,if_neg]
  simp only [Bool.or_eq_true,Bool.and_eq_true,Bool.not_eq_true',Bool.or_eq_false_iff,decide_eq_true_eq,bne_iff_ne,ne_eq,beq_iff_eq,beq_eq_false_iff_ne,T.rows_len] at hc
  rintro (⟨h1,h2,h3,h4⟩ | ⟨h1,h2⟩) <;> omega
 ·have hok : (t.kind=1∨t.kind=2)∧0≤t.sort∧t.sort≤5∧t.kids.length=0∨t.kind=3∧t.sort=0:=by
   simp only [Bool.or_eq_false_iff,Bool.and_eq_false_iff,Bool.not_eq_false',Bool.or_eq_true,decide_eq_false_iff_not,bne_eq_false_iff_eq,beq_iff_eq,beq_eq_false_iff_ne,ne_eq,T.rows_len] at hc
   omega
  refine uAo ?_;refine uAd ?_;refine uAd (uAb ?_);refine uAa rfl rfl rfl (uAg rfl gU rfl rfl) ?_;refine uAa rfl rfl rfl (uAh rfl gU rfl rfl rfl rfl) ?_;refine uAu rfl rfl rfl rfl rfl rfl gU gU (uF5 _) rfl ?_;refine uAa rfl rfl rfl (uA0 rfl gU) ?_;refine uAf ?_;refine uAn rfl (fun hc2=>?_) (fun hc2=>?_)
  ·refine uAd (uAb ?_)
   refine uAa rfl rfl rfl (uAe rfl gU) ?_;refine uAf ?_;refine uAp ?_
   repeat(first|refine tR ?_|refine bR ?_)
   refine uAt rfl ?_ trivial;refine uBa ?_
   simp only [Bool.not_eq_true'] at hc2
   rw[uBS,if_pos hok,if_neg (by rw[hc2]; simp)]
  ·simp only [Bool.not_eq_false'] at hc2
   refine uAo ?_;refine uAd ?_;refine uAd (uAb ?_);refine uAa rfl rfl rfl (uAg rfl gU rfl rfl) ?_;refine uAa rfl rfl rfl (uAh rfl gU rfl rfl rfl rfl) ?_;refine uAI rfl rfl rfl rfl rfl gU rfl rfl ?_ (fun hh=>by simp at hh); intro hlen;refine uAa rfl rfl rfl (uAm rfl rfl gU gU rfl) ?_;refine uAf ?_;refine uAk (s:=⟨[(54,_,_)],[],[],[]⟩) (uAi (⟨sx rfl,trivial⟩) trivial trivial) ?_;refine uAn rfl (fun hc3=>?_) (fun hc3=>?_)
   ·refine uAd (uAb ?_)
    refine uAa rfl rfl rfl (uAe rfl gU) ?_;refine uAf ?_;refine uAp ?_
    repeat(first|refine tR ?_|refine bR ?_)
    refine uAt rfl ?_ trivial;refine uBa ?_
    simp only [T.rows_len,decide_eq_true_eq] at hc3
    rw[uBS,if_pos hok,if_pos hc2,if_pos (by omega)]
   ·refine uAo ?_
    refine uAd (uAb ?_);refine uAa rfl rfl rfl (uAe rfl gU) ?_;refine uAf ?_;refine uAp ?_
    repeat(first|refine tR ?_|refine bR ?_)
    refine uAt rfl ?_ trivial;refine uBa ?_
    simp only [T.rows_len,decide_eq_false_iff_not] at hc3
    rw[uBS,if_pos hok,if_pos hc2,if_neg (by omega)]
def uQC (t : T) (k : Nat) : St:={ t:=[(1,true, .v (.ptr (.l 1) 0)),(4,true,xi k)],bx:=[(.l 1,t.cells)],ow:=[] }
theorem uLb : ∀ (n : Nat) (t : T),t.size≤n→n≤2000000→Ctr sys 122 [xm t] [] (xi t.nodesE) none []:=by
 intro n
 induction n with
 | zero=>intro t h _; have := t.size_pos; omega
 | succ n ih =>
  intro t ht hn
  refine uAA Tryz.func122 rfl rfl rfl rfl rfl rfl ?_;refine uAd (uAb ?_);refine uAq rfl (uAK rfl rfl rfl rfl) ?_;refine uAa rfl rfl rfl (uAe rfl gU) ?_;refine uAf ?_;refine uAd ?_;refine uAd (uAb ?_);refine uAa rfl rfl rfl (uAl rfl gU rfl rfl rfl rfl rfl) ?_;refine uAu rfl rfl rfl rfl rfl rfl gU gU (uM8 t) rfl ?_;refine uAa rfl rfl rfl (uAe rfl gU) ?_;refine uAf ?_;refine uAk (s:=⟨[(1,_,_),(3,_,_)],[(.l 1,_)],[],[]⟩) (uAi (⟨sx rfl,sx rfl,trivial⟩) (⟨sx rfl,trivial⟩) trivial) ?_;refine uAd (uAb ?_);refine uAa rfl rfl rfl (uAc rfl gU) ?_;refine uAa rfl rfl rfl (uAm rfl rfl gU gU rfl) ?_;refine uAf ?_;refine uAn rfl (fun hc=>?_) (fun hc=>?_)
  ·refine uAd (uAb ?_)
   refine uAa rfl rfl rfl (uAc rfl gU) ?_;refine uAa rfl rfl rfl (uAe rfl gU) ?_;refine uAf ?_;refine uAp ?_
   repeat(first|refine tR ?_|refine bR ?_)
   refine uAt rfl ?_ trivial;refine uBa ?_
   rw[T.nodesE_eq,if_pos (by simpa using hc)]
  ·refine uAo ?_
   refine uAd ?_;refine uAd (uAb ?_);refine uAa rfl rfl rfl (uAe rfl gU) ?_;refine uAf ?_;refine uAr ?_
   have hz : uBS t=0:=by simpa using hc
   refine uCz (uQC t) (fun k=>k≤t.kids.length∧T.nodesEs (t.kids.take k)=0) (fun k=>t.kids.length - k) 0 ⟨Nat.zero_le _,by simp [T.nodesEs]⟩ ?_ ?_
   ·refine uAi ⟨⟨_,rfl,rfl⟩,⟨_,rfl,rfl⟩,trivial⟩ ⟨⟨_,rfl,rfl⟩,trivial⟩ trivial
   ·rintro k ⟨hk,h0⟩
    refine uAd ?_;refine uAd (uAb ?_);refine uAa rfl rfl rfl (uAc rfl gU) ?_;refine uAa rfl rfl rfl (uAg rfl gU rfl rfl) ?_;refine uAa rfl rfl rfl (uAh rfl gU rfl rfl rfl rfl) ?_;refine uAI rfl rfl rfl rfl rfl gU rfl rfl ?_ (fun hh=>by simp at hh); intro hlen;refine uAa rfl rfl rfl (uAm rfl rfl gU gU rfl) ?_;refine uAf ?_;refine uAk (s:=⟨[(1,_,_),(4,_,_),(15,_,_)],[(.l 1,_)],[],[]⟩) (uAi (⟨sx rfl,sx rfl,sx rfl,trivial⟩) (⟨sx rfl,trivial⟩) trivial) ?_;refine uAn rfl (fun hc2=>?_) (fun hc2=>?_)
    ·rw[T.rows_len] at hlen hc2
     have hlt : k < t.kids.length:=by simpa using hc2
     obtain ⟨x,hx⟩ : ∃ x,t.kids[k]? = some x:=⟨_,List.getElem?_eq_getElem hlt⟩
     have h3:=T.size_kid hx
     refine uAo ?_;refine uAd ?_;refine uAr ?_;refine uAd (uAb ?_);refine uAa rfl rfl rfl (uAg rfl gU rfl rfl) ?_;refine uAa rfl rfl rfl (uAh rfl gU rfl rfl rfl rfl) ?_;refine uAa rfl rfl rfl (uAc rfl gU) ?_;refine uAa rfl rfl rfl (uAv rfl rfl gU gU rfl rfl rfl (fun _=>T.rows_get hx)) ?_;refine uAa rfl rfl rfl (uAE rfl gU rfl rfl rfl rfl) ?_;refine uAu rfl rfl rfl rfl rfl rfl gU gU (ih x (by omega) (by omega)) rfl ?_;refine uAa rfl rfl rfl (uAe rfl gU) ?_;refine uAf ?_;refine uAk (s:=⟨[(1,_,_),(4,_,_),(5,_,_)],[(.l 1,_)],[],[]⟩) (uAi (⟨sx rfl,sx rfl,sx rfl,trivial⟩) (⟨sx rfl,trivial⟩) trivial) ?_;refine uAd (uAb ?_);refine uAa rfl rfl rfl (uAc rfl gU) ?_;refine uAa rfl rfl rfl (uAm rfl rfl gU gU rfl) ?_;refine uAf ?_;refine uAn rfl (fun hc3=>?_) (fun hc3=>?_)
     ·refine uAd (uAb ?_)
      refine uAa rfl rfl rfl (uAc rfl gU) ?_;refine uAa rfl rfl rfl (uAe rfl gU) ?_;refine uAf ?_;refine uAp ?_
      repeat(first|refine tR ?_|refine bR ?_)
      refine uAt rfl ?_ trivial;refine uBa ?_
      rw[T.nodesE_eq t,if_neg (by simpa using hz),T.nodesEs_hit _ _ _ hx h0 (by simpa using hc3)]
     ·refine uAo ?_
      refine uAb ?_;refine uAa rfl rfl rfl (uAc rfl gU) ?_;refine uAa rfl rfl rfl (uAz rfl rfl gU gU rfl (IntWalk.i64_in _ (by omega))) ?_;refine uAa rfl rfl rfl (uAe rfl gU) ?_;refine uAf ?_;refine ⟨k + 1,⟨by omega,T.nodesEs_step _ _ _ hx h0 (by simpa using hc3)⟩,by omega,?_⟩;refine uAi ⟨⟨_,rfl,rfl⟩,⟨_,rfl,rfl⟩,trivial⟩ ⟨⟨_,rfl,rfl⟩,trivial⟩ trivial
    ·refine uAJ ?_
     repeat(first|refine uAC ?_|refine uAD ?_|refine uAB rfl ?_)
     refine uAd (uAb ?_);refine uAa rfl rfl rfl (uAe rfl gU) ?_;refine uAf ?_;refine uAp ?_
     repeat(first|refine tR ?_|refine bR ?_)
     refine uAt rfl ?_ trivial
     rw[T.rows_len] at hc2
     have : k=t.kids.length:=by simp at hc2; omega
     subst this
     rw[List.take_length] at h0
     refine uBa ?_
     rw[T.nodesE_eq t,if_neg (by simpa using hz),h0]
def uQw (t : T) (k : Nat) : St:={ t:=[(1,true, .v (.ptr (.l 1) 0)),(3,true,xi (T.depths (t.kids.take k))),(4,true,xi k)],bx:=[(.l 1,t.cells)],ow:=[] }
theorem uLf : ∀ (n : Nat) (t : T),t.size≤n→n≤2000000→Ctr sys 123 [xm t] [] (xi t.depth) none []:=by
 intro n
 induction n with
 | zero=>intro t h _; have := t.size_pos; omega
 | succ n ih =>
  intro t ht hn
  refine uAA Tryz.func123 rfl rfl rfl rfl rfl rfl ?_;refine uAd (uAb ?_);refine uAq rfl (uAK rfl rfl rfl rfl) ?_;refine uAa rfl rfl rfl (uAe rfl gU) ?_;refine uAf ?_;refine uAd (uAb ?_);refine uAa rfl rfl rfl (uAe rfl gU) ?_;refine uAf ?_;refine uAd ?_;refine uAd (uAb ?_);refine uAa rfl rfl rfl (uAe rfl gU) ?_;refine uAf ?_;refine uAr ?_;refine uCz (uQw t) (fun k=>k≤t.kids.length) (fun k=>t.kids.length - k) 0 (Nat.zero_le _) ?_ ?_
  ·refine uAi ⟨⟨_,rfl,rfl⟩,⟨_,rfl,rfl⟩,⟨_,rfl,rfl⟩,trivial⟩ ⟨⟨_,rfl,rfl⟩,trivial⟩ trivial
  ·intro k hk
   have hd1:=T.depths_take_le t.kids k
   have hd2:=t.depth_le
   have hd3:=t.depth_eq
   refine uAd ?_;refine uAd (uAb ?_);refine uAa rfl rfl rfl (uAc rfl gU) ?_;refine uAa rfl rfl rfl (uAg rfl gU rfl rfl) ?_;refine uAa rfl rfl rfl (uAh rfl gU rfl rfl rfl rfl) ?_;refine uAI rfl rfl rfl rfl rfl gU rfl rfl ?_ (fun hh=>by simp at hh); intro hlen;refine uAa rfl rfl rfl (uAm rfl rfl gU gU rfl) ?_;refine uAf ?_;refine uAk (s:=⟨[(1,_,_),(3,_,_),(4,_,_),(9,_,_)],[(.l 1,_)],[],[]⟩) (uAi (⟨sx rfl,sx rfl,sx rfl,sx rfl,trivial⟩) (⟨sx rfl,trivial⟩) trivial) ?_;refine uAn rfl (fun hc=>?_) (fun hc=>?_)
   ·rw[T.rows_len] at hlen hc
    have hlt : k < t.kids.length:=by simpa using hc
    obtain ⟨x,hx⟩ : ∃ x,t.kids[k]? = some x:=⟨_,List.getElem?_eq_getElem hlt⟩
    have h1:=T.depths_take _ _ _ hx
    have h3:=T.size_kid hx
    refine uAo ?_;refine uAd ?_;refine uAr ?_;refine uAb ?_;refine uAa rfl rfl rfl (uAc rfl gU) ?_;refine uAa rfl rfl rfl (uAg rfl gU rfl rfl) ?_;refine uAa rfl rfl rfl (uAh rfl gU rfl rfl rfl rfl) ?_;refine uAa rfl rfl rfl (uAc rfl gU) ?_;refine uAa rfl rfl rfl (uAv rfl rfl gU gU rfl rfl rfl (fun _=>T.rows_get hx)) ?_;refine uAa rfl rfl rfl (uAE rfl gU rfl rfl rfl rfl) ?_;refine uAu rfl rfl rfl rfl rfl rfl gU gU (ih x (by omega) (by omega)) rfl ?_;refine uAa rfl rfl rfl (uKd rfl rfl gU gU) ?_;refine uAa rfl rfl rfl (uAe rfl gU) ?_;refine uAf ?_;refine uAk (s:=⟨[(1,_,_),(3,_,_),(4,_,_)],[(.l 1,_)],[],[]⟩) (uAi (⟨sx rfl,sx rfl,sx rfl,trivial⟩) (⟨sx rfl,trivial⟩) trivial) ?_;refine uAb ?_;refine uAa rfl rfl rfl (uAc rfl gU) ?_;refine uAa rfl rfl rfl (uAz rfl rfl gU gU rfl (IntWalk.i64_in _ (by omega))) ?_;refine uAa rfl rfl rfl (uAe rfl gU) ?_;refine uAf ?_;refine ⟨k + 1,by omega,by omega,?_⟩;refine uAi ⟨⟨_,rfl,rfl⟩,⟨_,rfl,?_⟩,⟨_,rfl,rfl⟩,trivial⟩ ⟨⟨_,rfl,rfl⟩,trivial⟩ trivial
    rw[h1]; simp; omega
   ·refine uAJ ?_
    repeat(first|refine uAC ?_|refine uAD ?_|refine uAB rfl ?_)
    refine uAd (uAb ?_);refine uAa rfl rfl rfl (uAc rfl gU) ?_;refine uAa rfl rfl rfl (uAz rfl rfl gU gU rfl (IntWalk.i64_in _ (by omega))) ?_;refine uAa rfl rfl rfl (uAe rfl gU) ?_;refine uAf ?_;refine uAp ?_
    repeat(first|refine tR ?_|refine bR ?_)
    refine uAt rfl ?_ trivial
    rw[T.rows_len] at hc
    have : k=t.kids.length:=by simp at hc; omega
    subst this
    refine uBa ?_
    rw[List.take_length,t.depth_eq]
    simp
theorem uHj (t : T) (h : t.size≤2000000) : Ctr sys 96 [xm t] [] (xi (uCb t)) none []:=by
 refine uAA Tryz.func96 rfl rfl rfl rfl rfl rfl ?_;refine uAd (uAb ?_);refine uAq rfl (uAK rfl rfl rfl rfl) ?_;refine uAa rfl rfl rfl (uAe rfl gU) ?_;refine uAf ?_;refine uAd ?_;refine uAd (uAb ?_);refine uAa rfl rfl rfl (uAl rfl gU rfl rfl rfl rfl rfl) ?_;refine uAu rfl rfl rfl rfl rfl rfl gU gU (uLb _ t (Nat.le_refl _) h) rfl ?_;refine uAa rfl rfl rfl (uAe rfl gU) ?_;refine uAf ?_;refine uAk (s:=⟨[(1,_,_),(3,_,_)],[(.l 1,_)],[],[]⟩) (uAi (⟨sx rfl,sx rfl,trivial⟩) (⟨sx rfl,trivial⟩) trivial) ?_;refine uAd (uAb ?_);refine uAa rfl rfl rfl (uAc rfl gU) ?_;refine uAa rfl rfl rfl (uAm rfl rfl gU gU rfl) ?_;refine uAf ?_;refine uAn rfl (fun hc=>?_) (fun hc=>?_)
 ·refine uAd (uAb ?_)
  refine uAa rfl rfl rfl (uAc rfl gU) ?_;refine uAa rfl rfl rfl (uAe rfl gU) ?_;refine uAf ?_;refine uAp ?_
  repeat(first|refine tR ?_|refine bR ?_)
  refine uAt rfl ?_ trivial;refine uBa ?_
  rw[uCb,if_pos (by simpa using hc)]
 ·refine uAo ?_
  refine uAd ?_;refine uAd (uAb ?_);refine uAa rfl rfl rfl (uAl rfl gU rfl rfl rfl rfl rfl) ?_;refine uAu rfl rfl rfl rfl rfl rfl gU gU (uEO _ t (Nat.le_refl _) h) rfl ?_;refine uAa rfl rfl rfl (uAm rfl rfl gU gU rfl) ?_;refine uAa rfl rfl rfl (uAc rfl gU) ?_;refine uAa rfl rfl rfl (uAl rfl gU rfl rfl rfl rfl rfl) ?_;refine uAu rfl rfl rfl rfl rfl rfl gU (fun hh=>gA ((fun hh=>hh) hh) (rfl)) (uLf _ t (Nat.le_refl _) h) rfl ?_;refine uAa rfl rfl rfl (uAm rfl rfl (fun hh=>hh) gU rfl) ?_;refine uAa rfl rfl rfl (uAL rfl rfl gU (fun _ hi=>gP rfl hi)) ?_;refine uAf ?_;refine uAk (s:=⟨[(16,_,_)],[],[],[]⟩) (uAi (⟨sx rfl,trivial⟩) trivial trivial) ?_
  have hz : t.nodesE=0:=by simpa using hc
  refine uAn rfl (fun hc2=>?_) (fun hc2=>?_)
  ·refine uAd (uAb ?_)
   refine uAa rfl rfl rfl (uAe rfl gU) ?_;refine uAf ?_;refine uAp ?_
   repeat(first|refine tR ?_|refine bR ?_)
   refine uAt rfl ?_ trivial;refine uBa ?_
   simp only [Bool.or_eq_true,decide_eq_true_eq] at hc2
   rw[uCb,if_neg (by simpa using hz),if_pos (by omega)]
  ·refine uAo ?_
   refine uAd (uAb ?_);refine uAa rfl rfl rfl (uAe rfl gU) ?_;refine uAf ?_;refine uAp ?_
   repeat(first|refine tR ?_|refine bR ?_)
   refine uAt rfl ?_ trivial;refine uBa ?_
   simp only [Bool.or_eq_false_iff,decide_eq_false_iff_not] at hc2
   rw[uCb,if_neg (by simpa using hz),if_neg (by omega)]
def uQB (t : T) (lv n d : Int) : St:={ t:=[(1,true,xi lv),(2,true, .v (.ptr (.o 0) 0)),(3,true, .v (.ptr (.o 1) 0)),(4,true, .v (.ptr (.l 4) 0))],bx:=[(.l 4,t.cells),(.o 0,[.i .i64 (n + 1)]),(.o 1,[.i .i64 (max d lv)])],ow:=[] }
def uQD (t : T) (lv n d : Int) (k : Nat) : St:={ t:=[(1,true,xi lv),(2,true, .v (.ptr (.o 0) 0)),(3,true, .v (.ptr (.o 1) 0)),(57,true,xl t.kids),(58,true,xi t.kids.length),(59,true,xi k)],bx:=[(.o 0,[.i .i64 (T.chks (t.kids.take k) (lv + 1) (n + 1) (max d lv)).n]),(.o 1,[.i .i64 (T.chks (t.kids.take k) (lv + 1) (n + 1) (max d lv)).d])],ow:=[] }
theorem uLl : ∀ (b : Nat) (t : T) (lv n d : Int),t.size≤b→b≤2000000→0≤n→n + t.size≤2000000→0≤lv→lv + t.size≤2000000 →
  Ctr sys 158 [xm t,xi lv, .v (.ptr (.o 0) 0), .v (.ptr (.o 1) 0)] [[.i .i64 n],[.i .i64 d]] (xi t.nodesE) none [[.i .i64 (t.chk lv n d).n],[.i .i64 (t.chk lv n d).d]]:=by
 intro b
 induction b with
 | zero=>intro t _ _ _ h; have := t.size_pos; omega
 | succ b ih =>
  intro t lv n d ht hb hn hn2 hl hl2
  have hsz:=t.size_pos
  have hbad : uBS t≠0→t.nodesE=uBS t∧t.chk lv n d=⟨uBS t,n + 1,max d lv⟩:=fun h=>⟨by rw[T.nodesE_eq,if_pos h],by rw[T.chk_eq,if_pos h]⟩
  refine uAA Tryz.func158 rfl rfl rfl rfl rfl rfl ?_;refine uAd (uAb ?_);refine uAq rfl (uAK rfl rfl rfl rfl) ?_;refine uAa rfl rfl rfl (uAe rfl gU) ?_;refine uAf ?_;refine uAd (uAb ?_);refine uAa rfl rfl rfl (uAc rfl gU) ?_;refine uAa rfl rfl rfl (uCm rfl gU) ?_;refine uAa rfl rfl rfl (uAh rfl gU rfl rfl rfl rfl) ?_;refine uAa rfl rfl rfl (uAz rfl rfl gU gU rfl (IntWalk.i64_in _ (by omega))) ?_;refine uAa rfl rfl rfl (uCm rfl gU) ?_;refine uAq rfl (uAy rfl rfl rfl rfl rfl rfl rfl) ?_;refine uAf ?_;refine uAk (s:=⟨[(1,_,_),(2,_,_),(3,_,_),(4,_,_)],[(.l 4,_),(.o 0,_),(.o 1,_)],[],[]⟩) (uAi (⟨sx rfl,sx rfl,sx rfl,sx rfl,trivial⟩) (⟨sx rfl,sx rfl,sx rfl,trivial⟩) trivial) ?_;refine uAd (uAb ?_);refine uAa rfl rfl rfl (uAc rfl gU) ?_;refine uAa rfl rfl rfl (uAc rfl gU) ?_;refine uAa rfl rfl rfl (uCm rfl gU) ?_;refine uAa rfl rfl rfl (uAh rfl gU rfl rfl rfl rfl) ?_;refine uAa rfl rfl rfl (uAc rfl gU) ?_;refine uAa rfl rfl rfl (uKd rfl rfl gU gU) ?_;refine uAa rfl rfl rfl (uCm rfl gU) ?_;refine uAq rfl (uAy rfl rfl rfl rfl rfl rfl rfl) ?_;refine uAf ?_;refine uAk (s:=⟨[(1,_,_),(2,_,_),(3,_,_),(4,_,_)],[(.l 4,_),(.o 0,_),(.o 1,_)],[],[]⟩) (uAi (⟨sx rfl,sx rfl,sx rfl,sx rfl,trivial⟩) (⟨sx rfl,sx rfl,sx rfl,trivial⟩) trivial) ?_
  refine uMj (uQB t lv n d) ((t.kind=1∨t.kind=2)∧0≤t.sort∧t.sort≤5∧t.kids.length=0∨t.kind=3∧t.sort=0) ?_ (fun hj=>?_)
  ·have h1 : ∀ h : ¬ ((t.kind=1∨t.kind=2)∧0≤t.sort∧t.sort≤5∧t.kids.length=0∨t.kind=3∧t.sort=0),t.nodesE=1∧t.chk lv n d=⟨1,n + 1,max d lv⟩:=by
    intro h
    have hq : uBS t=1:=by rw[uBS,if_neg h]
    have := hbad (by rw[hq]; omega)
    rw[hq] at this; exact this
   refine uAd (uAb ?_);refine uAa rfl rfl rfl (uAg rfl gU rfl rfl) ?_;refine uAa rfl rfl rfl (uAh rfl gU rfl rfl rfl rfl) ?_;refine uAf ?_;refine uAr ?_;refine uAd ?_;refine uAd (uAb ?_);refine uAa rfl rfl rfl (uAm rfl rfl gU gU rfl) ?_;refine uAa rfl rfl rfl (uAe rfl gU) ?_;refine uAf ?_;refine uAn rfl (fun hc=>?_) (fun hc=>?_)
   ·refine uAo ?_
    refine uAn rfl (fun hc2=>?_) (fun hc2=>?_)
    ·refine uAd (uAb ?_)
     refine uAa rfl rfl rfl (uAg rfl gU rfl rfl) ?_;refine uAa rfl rfl rfl (uAh rfl gU rfl rfl rfl rfl) ?_;refine uAa rfl rfl rfl (uAm rfl rfl gU gU rfl) ?_;refine uAa rfl rfl rfl (uAc rfl gU) ?_;refine uAa rfl rfl rfl (uAg rfl gU rfl rfl) ?_;refine uAa rfl rfl rfl (uAh rfl (fun hh=>hh) rfl rfl rfl rfl) ?_;refine uAa rfl rfl rfl (uAm rfl rfl (fun hh=>hh) gU rfl) ?_;refine uAa rfl rfl rfl (uAL rfl rfl gU (fun _ hi=>gP rfl hi)) ?_;refine uAa rfl rfl rfl (uAc rfl gU) ?_;refine uAa rfl rfl rfl (uAg rfl gU rfl rfl) ?_;refine uAa rfl rfl rfl (uAh rfl (fun hh=>hh) rfl rfl rfl rfl) ?_;refine uAa rfl rfl rfl (uA9 rfl (fun hh=>hh) rfl rfl) ?_;refine uAa rfl rfl rfl (uAm rfl rfl (fun hh=>hh) gU rfl) ?_;refine uAa rfl rfl rfl (uAL rfl rfl gU (fun _ hi=>gP rfl hi)) ?_;refine uAf ?_;refine uAk (s:=⟨[(1,_,_),(2,_,_),(3,_,_),(4,_,_),(42,_,_)],[(.l 4,_),(.o 0,_),(.o 1,_)],[],[]⟩) (uAi (⟨sx rfl,sx rfl,sx rfl,sx rfl,sx rfl,trivial⟩) (⟨sx rfl,sx rfl,sx rfl,trivial⟩) trivial) ?_;refine uAn rfl (fun hc3=>?_) (fun hc3=>?_)
     ·refine uAd (uAb ?_)
      refine uAa rfl rfl rfl (uAe rfl gU) ?_;refine uAf ?_;refine uAp ?_
      repeat(first|refine tR ?_|refine bR ?_)
      refine uAt rfl ?_ (⟨⟨_,rfl,?_⟩,⟨⟨_,rfl,?_⟩,trivial⟩⟩)
      all_goals (
       have hno:=h1 (by
        simp only [Bool.or_eq_true,decide_eq_true_eq,decide_eq_false_iff_not,beq_iff_eq,bne_iff_ne,ne_eq,beq_eq_false_iff_ne,T.rows_len] at hc hc3
        rintro (⟨q1,q2,q3,q4⟩ | ⟨q1,q2⟩) <;> omega)
       first|exact uBa hno.1.symm|(rw[hno.2]; done)|(rw[hno.2]; rfl))
     ·refine uAo ?_
      refine ⟨.inl ?_,?_⟩
      ·simp only [Bool.or_eq_false_iff,decide_eq_false_iff_not,beq_iff_eq,T.rows_len] at hc hc3
       omega
      ·refine uAi ⟨⟨_,rfl,rfl⟩,⟨_,rfl,rfl⟩,⟨_,rfl,rfl⟩,⟨_,rfl,rfl⟩,trivial⟩ ⟨⟨_,rfl,rfl⟩,⟨_,rfl,rfl⟩,⟨_,rfl,rfl⟩,trivial⟩ trivial
    ·rw[hc] at hc2; simp at hc2
   ·refine uAb ?_
    refine uAa rfl rfl rfl (uAm rfl rfl gU gU rfl) ?_;refine uAa rfl rfl rfl (uAe rfl gU) ?_;refine uAf ?_;refine uAk (s:=⟨[(1,_,_),(2,_,_),(3,_,_),(4,_,_),(25,_,_),(26,_,_)],[(.l 4,_),(.o 0,_),(.o 1,_)],[],[]⟩) (uAi (⟨sx rfl,sx rfl,sx rfl,sx rfl,sx rfl,sx rfl,trivial⟩) (⟨sx rfl,sx rfl,sx rfl,trivial⟩) trivial) ?_;refine uAn rfl (fun hc2=>?_) (fun hc2=>?_)
    ·refine uAd (uAb ?_)
     refine uAa rfl rfl rfl (uAg rfl gU rfl rfl) ?_;refine uAa rfl rfl rfl (uAh rfl gU rfl rfl rfl rfl) ?_;refine uAa rfl rfl rfl (uAm rfl rfl gU gU rfl) ?_;refine uAa rfl rfl rfl (uAc rfl gU) ?_;refine uAa rfl rfl rfl (uAg rfl gU rfl rfl) ?_;refine uAa rfl rfl rfl (uAh rfl (fun hh=>hh) rfl rfl rfl rfl) ?_;refine uAa rfl rfl rfl (uAm rfl rfl (fun hh=>hh) gU rfl) ?_;refine uAa rfl rfl rfl (uAL rfl rfl gU (fun _ hi=>gP rfl hi)) ?_;refine uAa rfl rfl rfl (uAc rfl gU) ?_;refine uAa rfl rfl rfl (uAg rfl gU rfl rfl) ?_;refine uAa rfl rfl rfl (uAh rfl (fun hh=>hh) rfl rfl rfl rfl) ?_;refine uAa rfl rfl rfl (uA9 rfl (fun hh=>hh) rfl rfl) ?_;refine uAa rfl rfl rfl (uAm rfl rfl (fun hh=>hh) gU rfl) ?_;refine uAa rfl rfl rfl (uAL rfl rfl gU (fun _ hi=>gP rfl hi)) ?_;refine uAf ?_;refine uAk (s:=⟨[(1,_,_),(2,_,_),(3,_,_),(4,_,_),(42,_,_)],[(.l 4,_),(.o 0,_),(.o 1,_)],[],[]⟩) (uAi (⟨sx rfl,sx rfl,sx rfl,sx rfl,sx rfl,trivial⟩) (⟨sx rfl,sx rfl,sx rfl,trivial⟩) trivial) ?_;refine uAn rfl (fun hc3=>?_) (fun hc3=>?_)
     ·refine uAd (uAb ?_)
      refine uAa rfl rfl rfl (uAe rfl gU) ?_;refine uAf ?_;refine uAp ?_
      repeat(first|refine tR ?_|refine bR ?_)
      refine uAt rfl ?_ (⟨⟨_,rfl,?_⟩,⟨⟨_,rfl,?_⟩,trivial⟩⟩)
      all_goals (
       have hno:=h1 (by
        simp only [Bool.or_eq_true,decide_eq_true_eq,decide_eq_false_iff_not,beq_iff_eq,bne_iff_ne,ne_eq,beq_eq_false_iff_ne,T.rows_len] at hc hc2 hc3
        rintro (⟨q1,q2,q3,q4⟩ | ⟨q1,q2⟩) <;> omega)
       first|exact uBa hno.1.symm|(rw[hno.2]; done)|(rw[hno.2]; rfl))
     ·refine uAo ?_
      refine ⟨.inl ?_,?_⟩
      ·simp only [Bool.or_eq_false_iff,decide_eq_false_iff_not,beq_iff_eq,T.rows_len] at hc2 hc3
       omega
      ·refine uAi ⟨⟨_,rfl,rfl⟩,⟨_,rfl,rfl⟩,⟨_,rfl,rfl⟩,⟨_,rfl,rfl⟩,trivial⟩ ⟨⟨_,rfl,rfl⟩,⟨_,rfl,rfl⟩,⟨_,rfl,rfl⟩,trivial⟩ trivial
    ·refine uAd (uAb ?_)
     refine uAa rfl rfl rfl (uAm rfl rfl gU gU rfl) ?_;refine uAa rfl rfl rfl (uAe rfl gU) ?_;refine uAf ?_;refine uAn rfl (fun hc3=>?_) (fun hc3=>?_)
     ·refine uAd (uAb ?_)
      refine uAa rfl rfl rfl (uAg rfl gU rfl rfl) ?_;refine uAa rfl rfl rfl (uAh rfl gU rfl rfl rfl rfl) ?_;refine uAa rfl rfl rfl (uAm rfl rfl gU gU rfl) ?_;refine uAf ?_;refine uAk (s:=⟨[(1,_,_),(2,_,_),(3,_,_),(4,_,_),(47,_,_)],[(.l 4,_),(.o 0,_),(.o 1,_)],[],[]⟩) (uAi (⟨sx rfl,sx rfl,sx rfl,sx rfl,sx rfl,trivial⟩) (⟨sx rfl,sx rfl,sx rfl,trivial⟩) trivial) ?_;refine uAn rfl (fun hc4=>?_) (fun hc4=>?_)
      ·refine uAd (uAb ?_)
       refine uAa rfl rfl rfl (uAe rfl gU) ?_;refine uAf ?_;refine uAp ?_
       repeat(first|refine tR ?_|refine bR ?_)
       refine uAt rfl ?_ (⟨⟨_,rfl,?_⟩,⟨⟨_,rfl,?_⟩,trivial⟩⟩)
       all_goals (
        have hno:=h1 (by
         simp only [Bool.or_eq_true,decide_eq_true_eq,decide_eq_false_iff_not,beq_iff_eq,bne_iff_ne,ne_eq,beq_eq_false_iff_ne,T.rows_len] at hc hc2 hc3 hc4
         rintro (⟨q1,q2,q3,q4⟩ | ⟨q1,q2⟩) <;> omega)
        first|exact uBa hno.1.symm|(rw[hno.2]; done)|(rw[hno.2]; rfl))
      ·refine uAo ?_
       refine ⟨.inr ?_,?_⟩
       ·simp only [bne_eq_false_iff_eq,beq_iff_eq] at hc3 hc4
        exact ⟨hc3,hc4⟩
       ·refine uAi ⟨⟨_,rfl,rfl⟩,⟨_,rfl,rfl⟩,⟨_,rfl,rfl⟩,⟨_,rfl,rfl⟩,trivial⟩ ⟨⟨_,rfl,rfl⟩,⟨_,rfl,rfl⟩,⟨_,rfl,rfl⟩,trivial⟩ trivial
     ·refine uAd (uAb ?_)
      refine uAa rfl rfl rfl (uAe rfl gU) ?_;refine uAf ?_;refine uAp ?_
      repeat(first|refine tR ?_|refine bR ?_)
      refine uAt rfl ?_ (⟨⟨_,rfl,?_⟩,⟨⟨_,rfl,?_⟩,trivial⟩⟩)
      all_goals (
       have hno:=h1 (by
        simp only [Bool.or_eq_true,decide_eq_true_eq,decide_eq_false_iff_not,beq_iff_eq,bne_iff_ne,ne_eq,beq_eq_false_iff_ne,T.rows_len] at hc hc2 hc3
        rintro (⟨q1,q2,q3,q4⟩ | ⟨q1,q2⟩) <;> omega)
       first|exact uBa hno.1.symm|(rw[hno.2]; done)|(rw[hno.2]; rfl))
  ·refine uAd ?_
   refine uAd (uAb ?_);refine uAa rfl rfl rfl (uAg rfl gU rfl rfl) ?_;refine uAa rfl rfl rfl (uAh rfl gU rfl rfl rfl rfl) ?_;refine uAu rfl rfl rfl rfl rfl rfl gU gU (uIR _) rfl ?_;refine uAa rfl rfl rfl (uA0 rfl gU) ?_;refine uAf ?_;refine uAn rfl (fun hc=>?_) (fun hc=>?_)
   ·refine uAd (uAb ?_)
    refine uAa rfl rfl rfl (uAe rfl gU) ?_;refine uAf ?_;refine uAp ?_
    repeat(first|refine tR ?_|refine bR ?_)
    refine uAt rfl ?_ (⟨⟨_,rfl,?_⟩,⟨⟨_,rfl,?_⟩,trivial⟩⟩)
    all_goals (
     have hq : uBS t=2:=by
      simp only [Bool.not_eq_true'] at hc
      rw[uBS,if_pos hj,if_neg (by rw[hc]; simp)]
     have hno:=hbad (by rw[hq]; omega)
     rw[hq] at hno
     first|exact uBa hno.1.symm|(rw[hno.2]; done)|(rw[hno.2]; rfl))
   ·simp only [Bool.not_eq_false'] at hc
    refine uAo ?_;refine uAd ?_;refine uAd (uAb ?_);refine uAa rfl rfl rfl (uAg rfl gU rfl rfl) ?_;refine uAa rfl rfl rfl (uAh rfl gU rfl rfl rfl rfl) ?_;refine uAI rfl rfl rfl rfl rfl gU rfl rfl ?_ (fun hh=>by simp at hh); intro hlen;refine uAa rfl rfl rfl (uAm rfl rfl gU gU rfl) ?_;refine uAf ?_;refine uAk (s:=⟨[(1,_,_),(2,_,_),(3,_,_),(4,_,_),(55,_,_)],[(.l 4,_),(.o 0,_),(.o 1,_)],[],[]⟩) (uAi (⟨sx rfl,sx rfl,sx rfl,sx rfl,sx rfl,trivial⟩) (⟨sx rfl,sx rfl,sx rfl,trivial⟩) trivial) ?_;refine uAn rfl (fun hc2=>?_) (fun hc2=>?_)
    ·refine uAd (uAb ?_)
     refine uAa rfl rfl rfl (uAe rfl gU) ?_;refine uAf ?_;refine uAp ?_
     repeat(first|refine tR ?_|refine bR ?_)
     refine uAt rfl ?_ (⟨⟨_,rfl,?_⟩,⟨⟨_,rfl,?_⟩,trivial⟩⟩)
     all_goals (
      have hq : uBS t=3:=by
       simp only [T.rows_len,decide_eq_true_eq] at hc2
       rw[uBS,if_pos hj,if_pos hc,if_pos (by omega)]
      have hno:=hbad (by rw[hq]; omega)
      rw[hq] at hno
      first|exact uBa hno.1.symm|(rw[hno.2]; done)|(rw[hno.2]; rfl))
    ·have hz : uBS t=0:=by
      simp only [T.rows_len,decide_eq_false_iff_not] at hc2
      rw[uBS,if_pos hj,if_pos hc,if_neg (by omega)]
     have hchk : t.chk lv n d=T.chks t.kids (lv + 1) (n + 1) (max d lv):=by rw[T.chk_eq,if_neg (by simpa using hz)]
     have hE : t.nodesE=T.nodesEs t.kids:=by rw[T.nodesE_eq,if_neg (by simpa using hz)]
     have hsE:=t.size_eq
     refine uAo ?_;refine uAd ?_;refine uAd (uAb ?_);refine uAa rfl rfl rfl (uAg rfl gU rfl rfl) ?_;refine uAa rfl rfl rfl (uAh rfl gU rfl rfl rfl rfl) ?_;refine uAI rfl rfl rfl rfl rfl gU rfl rfl ?_ (fun hh=>by simp at hh); intro hlen;refine uAa rfl rfl rfl (uAc rfl gU) ?_;refine uAf ?_;refine uAr ?_
     have hlk : t.kids.length≤9223372036854775807:=by rw[T.rows_len] at hlen; exact hlen
     refine uCz (uQD t lv n d) (fun k=>k≤t.kids.length∧(T.chks (t.kids.take k) (lv + 1) (n + 1) (max d lv)).e=0) (fun k=>t.kids.length - k) 0 ⟨Nat.zero_le _,by simp [T.chks]⟩ ?_ ?_
     ·refine uAi ⟨⟨_,rfl,rfl⟩,⟨_,rfl,rfl⟩,⟨_,rfl,rfl⟩,⟨_,rfl,rfl⟩,⟨_,rfl,by rw[T.rows_len]⟩,⟨_,rfl,rfl⟩,trivial⟩ ⟨⟨_,rfl,by simp [T.chks]⟩,⟨_,rfl,by simp [T.chks]⟩,trivial⟩ trivial
     ·rintro k ⟨hk,h0⟩
      have hr:=T.chks_n (t.kids.take k) (lv + 1) (n + 1) (max d lv)
      have hrE:=T.chks_e (t.kids.take k) (lv + 1) (n + 1) (max d lv)
      refine uAd (uAb ?_);refine uAa rfl rfl rfl (uAm rfl rfl gU gU rfl) ?_;refine uAf ?_;refine uAd ?_;refine uAn rfl (fun hc3=>?_) (fun hc3=>?_)
      ·have hlt : k < t.kids.length:=by simpa using hc3
       obtain ⟨x,hx⟩ : ∃ x,t.kids[k]? = some x:=⟨_,List.getElem?_eq_getElem hlt⟩
       have q1:=T.sizes_take _ _ _ hx
       have q2:=T.sizes_take_le t.kids (k + 1)
       have q4:=x.size_pos
       refine uAo ?_;refine uAd ?_;refine uAr ?_;refine uAd (uAb ?_);refine uAa rfl rfl rfl (uAv rfl rfl gU gU rfl rfl rfl (fun _=>T.rows_get hx)) ?_;refine uAa rfl rfl rfl (uAE rfl gU rfl rfl rfl rfl) ?_;refine uAq rfl (uAG rfl rfl rfl) ?_;refine uAq rfl (uAy rfl rfl rfl rfl rfl rfl rfl) ?_;refine uAf ?_;refine uAd (uAb ?_);refine uAa rfl rfl rfl (uAl rfl gU rfl rfl rfl rfl rfl) ?_;refine uAa rfl rfl rfl (uAc rfl gU) ?_;refine uAa rfl rfl rfl (uAz rfl rfl gU gU rfl (IntWalk.i64_in _ (by omega))) ?_;refine uAa rfl rfl rfl (uAc rfl gU) ?_;refine uAa rfl rfl rfl (uAc rfl gU) ?_;refine uG4 [⟨.o 0,0,[.i .i64 (T.chks (t.kids.take k) (lv + 1) (n + 1) (max d lv)).n],[.i .i64 (x.chk (lv + 1) (T.chks (t.kids.take k) (lv + 1) (n + 1) (max d lv)).n (T.chks (t.kids.take k) (lv + 1) (n + 1) (max d lv)).d).n]⟩,⟨.o 1,0,[.i .i64 (T.chks (t.kids.take k) (lv + 1) (n + 1) (max d lv)).d],[.i .i64 (x.chk (lv + 1) (T.chks (t.kids.take k) (lv + 1) (n + 1) (max d lv)).n (T.chks (t.kids.take k) (lv + 1) (n + 1) (max d lv)).d).d]⟩] rfl rfl rfl rfl (by rfl) (by rfl) (by intro p hp; simp only [List.mem_cons,List.not_mem_nil,or_false] at hp; first|(subst hp; rfl)|(rcases hp with hp|hp <;> subst hp <;> rfl)) (by rfl) (ih x (lv + 1) (T.chks (t.kids.take k) (lv + 1) (n + 1) (max d lv)).n (T.chks (t.kids.take k) (lv + 1) (n + 1) (max d lv)).d (by omega) (by omega) (by omega) (by omega) (by omega) (by omega)) rfl rfl rfl ?_
       refine uAa rfl rfl rfl (uAe rfl gU) ?_;refine uAf ?_;refine uAk (s:=⟨[(1,_,_),(2,_,_),(3,_,_),(11,_,_),(57,_,_),(58,_,_),(59,_,_)],[(.o 0,_),(.o 1,_)],[],[]⟩) (uAi (⟨sx rfl,sx rfl,sx rfl,sx rfl,sx rfl,sx rfl,sx rfl,trivial⟩) (⟨sx rfl,sx rfl,trivial⟩) trivial) ?_;refine uAd (uAb ?_);refine uAa rfl rfl rfl (uAc rfl gU) ?_;refine uAa rfl rfl rfl (uAm rfl rfl gU gU rfl) ?_;refine uAf ?_;refine uAn rfl (fun hc4=>?_) (fun hc4=>?_)
       ·refine uAd (uAb ?_)
        refine uAa rfl rfl rfl (uAc rfl gU) ?_;refine uAa rfl rfl rfl (uAe rfl gU) ?_;refine uAf ?_;refine uAp ?_
        repeat(first|refine tR ?_|refine bR ?_)
        refine uAt rfl ?_ (⟨⟨_,rfl,?_⟩,⟨⟨_,rfl,?_⟩,trivial⟩⟩)
        ·have := T.chks_hit (lv := lv + 1) (n := n + 1) (d := max d lv) hx h0 (by simpa using hc4)
         refine uBa ?_
         rw[hE,← T.chks_e t.kids (lv + 1) (n + 1) (max d lv),this,T.chk_e]
        ·have := T.chks_hit (lv := lv + 1) (n := n + 1) (d := max d lv) hx h0 (by simpa using hc4)
         rw[hchk,this]; rfl
        ·have := T.chks_hit (lv := lv + 1) (n := n + 1) (d := max d lv) hx h0 (by simpa using hc4)
         rw[hchk,this]; rfl
       ·have hx0 : x.nodesE=0:=by simpa using hc4
        have hst:=T.chks_step (lv:=lv + 1) (n:=n + 1) (d:=max d lv) hx h0 hx0
        refine uAo ?_;refine uAb ?_;refine uAa rfl rfl rfl (uAz rfl rfl gU gU rfl (IntWalk.i64_in _ (by omega))) ?_;refine uAa rfl rfl rfl (uAc rfl gU) ?_;refine uAf ?_;refine ⟨k + 1,⟨by omega,by rw[hst,T.chk_e,hx0]⟩,by omega,?_⟩;refine uAi ⟨⟨_,rfl,rfl⟩,⟨_,rfl,rfl⟩,⟨_,rfl,rfl⟩,⟨_,rfl,rfl⟩,⟨_,rfl,rfl⟩,⟨_,rfl,rfl⟩,trivial⟩ ⟨⟨_,rfl,by rw[hst]; rfl⟩,⟨_,rfl,by rw[hst]; rfl⟩,trivial⟩ trivial
      ·have hk' : k=t.kids.length:=by simp at hc3; omega
       subst hk'
       rw[List.take_length] at h0
       refine uAJ ?_
       repeat(first|refine uAC ?_|refine uAD ?_|refine uAB rfl ?_)
       refine uAd (uAb ?_);refine uAa rfl rfl rfl (uAe rfl gU) ?_;refine uAf ?_;refine uAp ?_
       repeat(first|refine tR ?_|refine bR ?_)
       refine uAt rfl ?_ (⟨⟨_,rfl,?_⟩,⟨⟨_,rfl,?_⟩,trivial⟩⟩)
       ·refine uBa ?_
        rw[hE,← T.chks_e t.kids (lv + 1) (n + 1) (max d lv),h0]
       ·rw[hchk,List.take_length]
       ·rw[hchk,List.take_length]
theorem uKa (t : T) (h : t.size≤900000) : Ctr sys 139 [xm t] [] (xi (uCb t)) none []:=by
 have q1:=T.chk_n t 1 0 0
 have q2:=T.chk_d t 1 0 0
 have q3:=t.depth_eq
 refine uAA Tryz.func139 rfl rfl rfl rfl rfl rfl ?_;refine uAd (uAb ?_);refine uAq rfl (uAK rfl rfl rfl rfl) ?_;refine uAa rfl rfl rfl (uAe rfl gU) ?_;refine uAf ?_;refine uAd (uAb ?_);refine uAq rfl (uAG rfl rfl rfl) ?_;refine uAq rfl (uAG rfl rfl rfl) ?_;refine uAq rfl (uAy rfl rfl rfl rfl rfl rfl rfl) ?_;refine uAq rfl (uAy rfl rfl rfl rfl rfl rfl rfl) ?_;refine uAf ?_;refine uAd ?_;refine uAd (uAb ?_);refine uAa rfl rfl rfl (uAl rfl gU rfl rfl rfl rfl rfl) ?_;refine uG4 [⟨.l 3,0,[.i .i64 0],[.i .i64 (t.chk 1 0 0).n]⟩,⟨.l 4,0,[.i .i64 0],[.i .i64 (t.chk 1 0 0).d]⟩] rfl rfl rfl rfl (by rfl) (by rfl) (by intro p hp; simp only [List.mem_cons,List.not_mem_nil,or_false] at hp; first|(subst hp; rfl)|(rcases hp with hp|hp <;> subst hp <;> rfl)) (by rfl) (uLl _ t 1 0 0 (Nat.le_refl _) (by omega) (by omega) (by omega) (by omega) (by omega)) rfl rfl rfl ?_;refine uAa rfl rfl rfl (uAe rfl gU) ?_;refine uAf ?_;refine uAk (s:=⟨[(3,_,_),(4,_,_),(5,_,_)],[(.l 3,_),(.l 4,_)],[],[]⟩) (uAi (⟨sx rfl,sx rfl,sx rfl,trivial⟩) (⟨sx rfl,sx rfl,trivial⟩) trivial) ?_;refine uAd (uAb ?_);refine uAa rfl rfl rfl (uAc rfl gU) ?_;refine uAa rfl rfl rfl (uAm rfl rfl gU gU rfl) ?_;refine uAf ?_;refine uAn rfl (fun hc=>?_) (fun hc=>?_)
 ·refine uAd (uAb ?_)
  refine uAa rfl rfl rfl (uAc rfl gU) ?_;refine uAa rfl rfl rfl (uAe rfl gU) ?_;refine uAf ?_;refine uAp ?_
  repeat(first|refine tR ?_|refine bR ?_)
  refine uAt rfl ?_ trivial;refine uBa ?_
  rw[uCb,if_pos (by simpa using hc)]
 ·have hz : t.nodesE=0:=by simpa using hc
  have q4:=q1.2.2 hz
  have q5:=q2 hz
  refine uAo ?_;refine uAd ?_;refine uAd (uAb ?_);refine uAa rfl rfl rfl (uAh rfl gU rfl rfl rfl rfl) ?_;refine uAa rfl rfl rfl (uAm rfl rfl gU gU rfl) ?_;refine uAa rfl rfl rfl (uAc rfl gU) ?_;refine uAa rfl rfl rfl (uAh rfl gU rfl rfl rfl rfl) ?_;refine uAa rfl rfl rfl (uAm rfl rfl (fun hh=>hh) gU rfl) ?_;refine uAa rfl rfl rfl (uAL rfl rfl gU (fun _ hi=>gP rfl hi)) ?_;refine uAf ?_;refine uAk (s:=⟨[(16,_,_)],[],[],[]⟩) (uAi (⟨sx rfl,trivial⟩) trivial trivial) ?_;refine uAn rfl (fun hc2=>?_) (fun hc2=>?_)
  ·refine uAd (uAb ?_)
   refine uAa rfl rfl rfl (uAe rfl gU) ?_;refine uAf ?_;refine uAp ?_
   repeat(first|refine tR ?_|refine bR ?_)
   refine uAt rfl ?_ trivial;refine uBa ?_
   simp only [Bool.or_eq_true,decide_eq_true_eq] at hc2
   rw[uCb,if_neg (by simpa using hz),if_pos (by omega)]
  ·refine uAo ?_
   refine uAd (uAb ?_);refine uAa rfl rfl rfl (uAe rfl gU) ?_;refine uAf ?_;refine uAp ?_
   repeat(first|refine tR ?_|refine bR ?_)
   refine uAt rfl ?_ trivial;refine uBa ?_
   simp only [Bool.or_eq_false_iff,decide_eq_false_iff_not] at hc2
   rw[uCb,if_neg (by simpa using hz),if_neg (by omega)]
def errs {α : Type} (f : α→Int) : List α→Int
 | []=>0
 | x :: r=>if f x≠0 then f x else errs f r
theorem errs_zero {α : Type} {f : α→Int} : ∀ {l : List α},errs f l=0 ↔ ∀ x ∈ l,f x=0
 | []=>by simp [errs]
 | x :: r=>by
  rw[errs]
  split
  ·rename_i h; simp [h]
  ·rename_i h; rw[errs_zero (l:=r)]; simp at h ⊢; exact fun _=>h
theorem uFi {α : Type} {f g : α→Int} : ∀ {l : List α},(∀ x ∈ l,f x=g x)→errs f l=errs g l
 | [],_=>rfl
 | x :: r,h=>by rw[errs,errs,h x (by simp),uFi fun y hy=>h y (by simp [hy])]
abbrev NmB:=List UInt8→Bool
mutual
def rawE (nm : NmB) : T→Int
 | .mk k n s ks=>if k=1∨s≠0 then 10 else if nm n=false then 2 else uEV nm ks
def uEV (nm : NmB) : List T→Int
 | []=>0
 | t :: ts=>if rawE nm t≠0 then rawE nm t else uEV nm ts
end
theorem uMC (nm : NmB) (t : T) : rawE nm t=if t.kind=1∨t.sort≠0 then 10 else if nm t.name=false then 2 else uEV nm t.kids:=by cases t; rw[rawE]; rfl
theorem uFb (nm : NmB) : ∀ ts : List T,uEV nm ts=errs (rawE nm) ts
 | []=>by rw[uEV]; rfl
 | t :: ts=>by rw[uEV,uFb nm ts]; rfl
def uDI (nm : NmB) (t : T) : Int:=if uCb t≠0 then uCb t else rawE nm t
def msgE (nm : NmB) (t : T) : Int:=if uDI nm t≠0 then uDI nm t else if 40 < t.size then 3 else 0
def uCg (nm : NmB) (g : Gl) : Int:=if g.kind < 1∨5 < g.kind then 10 else if nm g.role=false∨(uBo g.kind=true∧nm g.wth=false) then 2 else if uBo g.kind=false∧g.wth≠[] then 1
 else if (uBo g.kind=true∧(g.data.length < 1∨4 < g.data.length))∨(uBo g.kind=false∧g.data.length≠1) then 6 else errs (msgE nm) g.data
def frE (nm : NmB) (f : Fs) : Int:=if nm f.role=false∨nm f.name=false then 2 else if f.sort < 2∨4 < f.sort then 10 else 0
def cntE (n : Nar) : Int:=if n.roles.length < 2 then 8 else if 4 < n.roles.length∨12 < n.fresh.length∨8 < n.tags.length then 3 else if n.steps.length=0 then 8 else if 8 < n.steps.length∨8 < n.goals.length then 3 else 0
def uDT (nm : NmB) (n : Nar) : Int:=if nm n.name=false then 2 else if cntE n≠0 then cntE n else if n.roles.all nm=false then 2 else if errs (frE nm) n.fresh≠0 then errs (frE nm) n.fresh else if n.tags.all nm=false then 2 else 0
def spE (nm : NmB) (s : Sp) : Int:=if nm s.frm=false∨nm s.dst=false then 2 else msgE nm s.msg
def narE (nm : NmB) (n : Nar) : Int:=if uDT nm n≠0 then uDT nm n else if errs (spE nm) n.steps≠0 then errs (spE nm) n.steps else errs (uCg nm) n.goals
def uFx (t : T) : Bool:=decide (t.kind=3) && decide (t.name=uHm) && decide (t.kids.length=2)
def untA : Nat→T→List T
 | 0,t=>[t]
 | n + 1,t=>if uFx t=true then t.kids.getD 0 default :: untA n (t.kids.getD 1 default) else [t]
def untE (t : T) : List T:=untA t.size t
def uDF : Nat→T→List UInt8
 | 0,_=>[]
 | n + 1,t=>if t.kind=2 then t.name else if uFx t=true then [60]++Lib.join ((untE t).map (uDF n)) [44,32]++[62] else t.name++[40]++Lib.join (t.kids.map (uDF n)) [44,32]++[41]
def uDc (t : T) : List UInt8:=uDF t.size t
def uD5 (l : List T) : List UInt8:=Lib.join (l.map uDc) [44,32]
theorem uQd {t : T} (h : uFx t=true) : ∃ a b,t.kids=[a,b]:=by
 simp only [uFx,Bool.and_eq_true,decide_eq_true_eq] at h
 obtain ⟨_,h⟩:=h
 match hk : t.kids,h with
 | [a,b],_=>exact ⟨a,b,rfl⟩
theorem uCP {t : T} (h : uFx t=true) : t.size=1 + (t.kids.getD 0 default).size + (t.kids.getD 1 default).size:=by
 obtain ⟨a,b,hk⟩:=uQd h
 rw[T.size_eq,hk]
 simp [T.sizes]; omega
theorem uMv : ∀ (n : Nat) (t x : T),x ∈ untA n t→x.size≤t.size
 | 0,t,x,h=>by simp [untA] at h; subst h; omega
 | n + 1,t,x,h=>by
  rw[untA] at h
  split at h
  ·rename_i hp
   have hs:=uCP hp
   rcases List.mem_cons.1 h with q | q
   ·subst q; omega
   ·have := uMv n _ x q; omega
  ·simp at h; subst h; omega
theorem uIh : ∀ (n : Nat) (t : T),T.sizes (untA n t)≤t.size
 | 0,t=>by simp [untA,T.sizes]
 | n + 1,t=>by
  rw[untA]
  split
  ·rename_i hp
   have hs:=uCP hp
   have := uIh n (t.kids.getD 1 default)
   rw[T.sizes]; omega
  ·simp [T.sizes]
theorem uMb : ∀ (n : Nat) (t : T),1≤(untA n t).length∧(untA n t).length≤t.size
 | 0,t=>by have := t.size_pos; simp [untA]; omega
 | n + 1,t=>by
  rw[untA]
  split
  ·rename_i hp
   have hs:=uCP hp
   have := uMb n (t.kids.getD 1 default)
   have := (t.kids.getD 0 default).size_pos
   rw[List.length_cons]; omega
  ·have := t.size_pos; simp; omega
theorem uJW : ∀ (n m : Nat) (t : T),t.size≤n→t.size≤m→untA n t=untA m t
 | 0,_,t,h,_=>by have := t.size_pos; omega
 | _,0,t,_,h=>by have := t.size_pos; omega
 | n + 1,m + 1,t,hn,hm=>by
  rw[untA,untA]
  split
  ·rename_i hp
   have hs:=uCP hp
   have := (t.kids.getD 0 default).size_pos
   rw[uJW n m _ (by omega) (by omega)]
  ·rfl
theorem uL4 (t : T) : untE t=if uFx t=true then t.kids.getD 0 default :: untE (t.kids.getD 1 default) else [t]:=by
 obtain ⟨m,hm⟩ : ∃ m,t.size=m + 1 := ⟨t.size - 1,by have := t.size_pos; omega⟩
 unfold untE
 rw[hm,untA]
 split
 ·rename_i hp
  have hs:=uCP hp
  rw[uJW m _ _ (by omega) (Nat.le_refl _)]
 ·rfl
theorem uLD {t x : T} (hp : uFx t=true) (hx : x ∈ untE t) : x.size < t.size:=by
 have hs:=uCP hp
 have h0:=(t.kids.getD 0 default).size_pos
 rw[uL4,if_pos hp] at hx
 rcases List.mem_cons.1 hx with q | q
 ·subst q; have := (t.kids.getD 1 default).size_pos; omega
 ·have := uMv _ _ _ q; omega
theorem uIN {t : T} (hp : uFx t=true) : T.sizes (untE t) < t.size:=by
 have hs:=uCP hp
 rw[uL4,if_pos hp,T.sizes]
 have := uIh (t.kids.getD 1 default).size (t.kids.getD 1 default)
 unfold untE; omega
theorem uJ2 {x : T} : ∀ {l : List T},x ∈ l→x.size≤T.sizes l
 | [],h=>by simp at h
 | y :: l,h=>by
  rw[T.sizes]
  rcases List.mem_cons.1 h with q | q
  ·subst q; omega
  ·have := uJ2 q; omega
theorem uB7 {t x : T} (h : x ∈ t.kids) : x.size < t.size:=by
 have := uJ2 h; have := t.size_eq; omega
theorem uEa : ∀ (n m : Nat) (t : T),t.size≤n→t.size≤m→uDF n t=uDF m t
 | 0,_,t,h,_=>by have := t.size_pos; omega
 | _,0,t,_,h=>by have := t.size_pos; omega
 | n + 1,m + 1,t,hn,hm=>by
  rw[uDF,uDF]
  split
  ·rfl
  split
  ·rename_i hp
   have e : (untE t).map (uDF n)=(untE t).map (uDF m):=List.map_congr_left fun x hx=>by
    have := uLD hp hx
    exact uEa n m x (by omega) (by omega)
   rw[e]
  ·have e : t.kids.map (uDF n)=t.kids.map (uDF m):=List.map_congr_left fun x hx=>by
    have := uB7 hx
    exact uEa n m x (by omega) (by omega)
   rw[e]
theorem uN5 (t : T) : uDc t=if t.kind=2 then t.name else if uFx t=true then [60]++uD5 (untE t)++[62] else t.name++[40]++uD5 t.kids++[41]:=by
 obtain ⟨m,hm⟩ : ∃ m,t.size=m + 1 := ⟨t.size - 1,by have := t.size_pos; omega⟩
 unfold uD5
 conv=>lhs; unfold uDc
 rw[hm,uDF]
 split
 ·rfl
 split
 ·rename_i hp
  have e : (untE t).map (uDF m)=(untE t).map uDc:=List.map_congr_left fun x hx=>by
   have := uLD hp hx
   exact uEa m x.size x (by omega) (by omega)
  rw[e]
 ·have e : t.kids.map (uDF m)=t.kids.map uDc:=List.map_congr_left fun x hx=>by
   have := uB7 hx
   exact uEa m x.size x (by omega) (by omega)
  rw[e]
mutual
def okB : T→Bool
 | .mk k n _ ks=>(decide (k=2) || decide (k=3)) && decide (n.length≤24) && okBs ks
def okBs : List T→Bool
 | []=>true
 | t :: ts=>okB t && okBs ts
end
theorem uOV (t : T) : okB t=((decide (t.kind=2) || decide (t.kind=3)) && decide (t.name.length≤24) && okBs t.kids):=by cases t; rw[okB]; rfl
theorem uKK : ∀ {l : List T},okBs l=true → ∀ x ∈ l,okB x=true
 | [],_,x,h=>by simp at h
 | y :: l,h,x,hx=>by
  rw[okBs,Bool.and_eq_true] at h
  rcases List.mem_cons.1 hx with q | q
  ·subst q; exact h.1
  ·exact uKK h.2 x q
theorem uMo {t : T} (h : okB t=true) : ∀ x ∈ t.kids,okB x=true:=by
 rw[uOV,Bool.and_eq_true] at h
 exact uKK h.2
theorem uOm {t : T} (h : okB t=true) : (t.kind=2∨t.kind=3)∧t.name.length≤24:=by
 rw[uOV] at h
 simp only [Bool.and_eq_true,Bool.or_eq_true,decide_eq_true_eq] at h
 exact h.1
theorem uMa : ∀ (n : Nat) {t : T},okB t=true → ∀ x ∈ untA n t,okB x=true
 | 0,t,h,x,hx=>by simp [untA] at hx; subst hx; exact h
 | n + 1,t,h,x,hx=>by
  rw[untA] at hx
  split at hx
  ·rename_i hp
   obtain ⟨a,b,hk⟩:=uQd hp
   have hkk:=uMo h
   rw[hk] at hx hkk
   rcases List.mem_cons.1 hx with q | q
   ·subst q; exact hkk _ (by simp)
   ·exact uMa n (hkk b (by simp)) x q
  ·simp at hx; subst hx; exact h
theorem uP0 {t : T} (h : uBS t=0) : (t.kind=1∨t.kind=2∨t.kind=3)∧t.name.length≤24:=by
 unfold uBS at h
 split at h
 ·split at h
  ·rename_i hq hn
   simp only [uCv,Bool.and_eq_true,decide_eq_true_eq] at hn
   exact ⟨by omega,hn.1.1.2⟩
  ·simp at h
 ·simp at h
mutual
theorem uQb (nm : NmB) : ∀ (t : T),t.nodesE=0→rawE nm t=0→okB t=true
 | .mk k n s ks,h1,h2=>by
  rw[T.nodesE] at h1
  rw[rawE] at h2
  rw[okB]
  split at h1
  ·rename_i hz; exact absurd h1 hz
  ·rename_i hz
   have hz:=Decidable.not_not.1 hz
   split at h2
   ·simp at h2
   ·rename_i hk
    split at h2
    ·simp at h2
    ·rw[uPi nm ks h1 h2]
     have hq:=uP0 hz
     have q1 : k=1∨k=2∨k=3:=hq.1
     have q2 : n.length≤24:=hq.2
     simp only [Bool.and_true,Bool.and_eq_true,Bool.or_eq_true,decide_eq_true_eq]
     exact ⟨by omega,q2⟩
theorem uPi (nm : NmB) : ∀ (ts : List T),T.nodesEs ts=0→uEV nm ts=0→okBs ts=true
 | [],_,_=>rfl
 | t :: ts,h1,h2=>by
  rw[T.nodesEs] at h1
  rw[uEV] at h2
  rw[okBs]
  split at h1
  ·rename_i hz; exact absurd h1 hz
  ·rename_i hz
   split at h2
   ·rename_i hy; exact absurd h2 hy
   ·rename_i hy
    rw[uQb nm t (Decidable.not_not.1 hz) (Decidable.not_not.1 hy),uPi nm ts h1 h2]; rfl
end
theorem uQq {nm : NmB} {t : T} (h : uDI nm t=0) : okB t=true∧t.size≤400:=by
 unfold uDI at h
 split at h
 ·rename_i hz; exact absurd h hz
 ·rename_i hz
  have hz:=Decidable.not_not.1 hz
  unfold uCb at hz
  split at hz
  ·rename_i hy; exact absurd hz hy
  ·rename_i hy
   split at hz
   ·simp at hz
   ·exact ⟨uQb nm t (Decidable.not_not.1 hy) h,by omega⟩
def uEk (L : List (List UInt8)) : Nat:=(L.map fun x=>x.length + 2).sum
theorem uIj : ∀ (L : List (List UInt8)),(Lib.joinTail [44,32] L).length=uEk L
 | []=>rfl
 | x :: L=>by
  have e : Lib.joinTail [44,32] (x :: L)=[44,32]++(x++Lib.joinTail [44,32] L):=by simp [Lib.joinTail]
  rw[e]
  have := uIj L
  simp only [List.length_append,List.length_cons,List.length_nil,uEk,List.map_cons,List.sum_cons] at this ⊢
  omega
theorem uEG : ∀ (L : List (List UInt8)),(Lib.join L [44,32]).length≤uEk L∧(L≠[]→(Lib.join L [44,32]).length + 2=uEk L)
 | []=>by simp [Lib.join_nil]
 | x :: L=>by
  have := uIj L
  rw[Lib.join_cons,List.length_append]
  simp only [uEk,List.map_cons,List.sum_cons] at this ⊢
  exact ⟨by omega,fun _=>by omega⟩
theorem uDA : ∀ (l : List T),(∀ x ∈ l,(uDc x).length + 2≤28 * x.size)→uEk (l.map uDc)≤28 * T.sizes l
 | [],_=>by simp [uEk,T.sizes]
 | x :: l,h=>by
  have h1:=h x (by simp)
  have h2:=uDA l fun y hy=>h y (by simp [hy])
  simp only [uEk,List.map_cons,List.sum_cons,T.sizes] at h2 ⊢
  omega
theorem text_len : ∀ (n : Nat) (t : T),t.size≤n→okB t=true→(uDc t).length + 2≤28 * t.size
 | 0,t,h,_=>by have := t.size_pos; omega
 | n + 1,t,h,ho=>by
  have hp:=t.size_pos
  have hn:=(uOm ho).2
  rw[uN5]
  split
  ·omega
  split
  ·rename_i hq
   have h1 := uDA (untE t) fun x hx=>text_len n x (by have := uLD hq hx; omega) (uMa _ ho x hx)
   have h2:=uIN hq
   have h3 := (uEG ((untE t).map uDc)).2 (by have := (uMb t.size t).1; intro q; rw[← List.length_map (f := uDc)] at this; show False; unfold untE at q; rw[q] at this; simp at this)
   unfold uD5
   simp only [List.length_append,List.length_cons,List.length_nil]
   omega
  ·have h1 := uDA t.kids fun x hx=>text_len n x (by have := uB7 hx; omega) (uMo ho x hx)
   have h2:=t.size_eq
   have h3:=uEG (t.kids.map uDc)
   unfold uD5
   simp only [List.length_append,List.length_cons,List.length_nil]
   by_cases hk : t.kids.map uDc=[]
   ·rw[hk,Lib.join_nil]; simp; omega
   ·have := h3.2 hk; omega
theorem uLX {t : T} (h : okB t=true) : (uDc t).length + 2≤28 * t.size:=text_len t.size t (Nat.le_refl _) h
theorem uOx {l : List T} (h : ∀ x ∈ l,okB x=true) : (uD5 l).length≤28 * T.sizes l:=by
 have h1:=uDA l fun x hx=>uLX (h x hx)
 have h2:=(uEG (l.map uDc)).1
 unfold uD5; omega
def hFresh : List UInt8:=[32,32,102,114,101,115,104,32]
def hProt : List UInt8:=[112,114,111,116,111,99,111,108,32]
def hRole : List UInt8:=[32,32,114,111,108,101,32]
def hTag : List UInt8:=[32,32,116,97,103,32]
def hMsg : List UInt8:=[32,32,109,101,115,115,97,103,101,32]
def hGoal : List UInt8:=[32,32,103,111,97,108,32]
def arrow : List UInt8:=[32,45,62,32]
def wSk : List UInt8:=[115,107]
def wPk : List UInt8:=[112,107]
def wEnc : List UInt8:=[101,110,99]
def uJU : List UInt8:=[97,101,110,99]
def uJk : List UInt8:=[115,105,103,110]
def uL7 : List UInt8:=[104,97,115,104]
def wShk : List UInt8:=[115,104,107]
def nmsL (n : Nar) : List (List UInt8 × Int):=n.roles.map (fun r=>(r,1))++(n.fresh.map (fun f=>(f.name,f.sort))++n.tags.map fun g=>(g,5))
def uB9 (n : Nar) : List (List UInt8):=(nmsL n).map (·.1)
def kid (t : T) (k : Nat) : T:=t.kids.getD k default
def isT (t : T) (w : List UInt8) (k : Int) : Bool:=decide (t.kind=3) && decide (t.name=w) && decide ((t.kids.length : Int)=k)
def uEs (R : List (List UInt8)) (t : T) : Bool:=decide (t.kind=2) && R.contains t.name
def uE0 (R : List (List UInt8)) (t : T) : Bool:=isT t wSk 1 && uEs R (kid t 0)
def pubT (R : List (List UInt8)) (t : T) : Bool:=isT t wPk 1 && uE0 R (kid t 0)
def shkT (R : List (List UInt8)) (t : T) : Bool:=isT t wShk 2 && uEs R (kid t 0) && uEs R (kid t 1) && !((kid t 0).name == (kid t 1).name)
def uB6 (R : List (List UInt8)) (t : T) : Option Nat :=
 if isT t uHm 2=true∨isT t wEnc 2=true then some 2 else if isT t uL7 1=true then some 1
 else if (isT t uJU 2=true∧pubT R (kid t 1)=true)∨(isT t uJk 2=true∧uE0 R (kid t 1)=true) then some 1
 else if pubT R t=true∨shkT R t=true then some 0 else none
def uGK (R K : List (List UInt8)) : Nat→T→Int
 | 0,_=>0
 | n + 1,t=>if t.kind≠3 then (if K.contains t.name=true then 0 else 13) else
  match uB6 R t with
  | none=>10
  | some k=>errs (uGK R K n) (t.kids.take k)
def uCw (R K : List (List UInt8)) (t : T) : Int:=uGK R K t.size t
theorem uKB {α : Type} {l : List α} {k : Nat} {x : α} (h : x ∈ l.take k) : x ∈ l:=List.mem_of_mem_take h
theorem uGF (R K : List (List UInt8)) : ∀ (n m : Nat) (t : T),t.size≤n→t.size≤m→uGK R K n t=uGK R K m t
 | 0,_,t,h,_=>by have := t.size_pos; omega
 | _,0,t,_,h=>by have := t.size_pos; omega
 | n + 1,m + 1,t,hn,hm=>by
  rw[uGK,uGK]
  split
  ·rfl
  ·split
   ·rfl
   ·rename_i k _
    exact uFi fun x hx=>by
     have := uB7 (uKB hx)
     exact uGF R K n m x (by omega) (by omega)
theorem uDU (R K : List (List UInt8)) (t : T) : uCw R K t=if t.kind≠3 then (if K.contains t.name=true then 0 else 13) else match uB6 R t with
  | none=>10
  | some k=>errs (uCw R K) (t.kids.take k):=by
 obtain ⟨m,hm⟩ : ∃ m,t.size=m + 1 := ⟨t.size - 1,by have := t.size_pos; omega⟩
 conv=>lhs; unfold uCw
 rw[hm,uGK]
 split
 ·rfl
 ·split
  ·rfl
  ·exact uFi fun x hx=>by
    have := uB7 (uKB hx)
    exact uGF R K m x.size x (by omega) (by omega)
def dclL (n : Nar) : List (List UInt8 × Option (List UInt8)):=n.roles.map (fun r=>(r,none))++(n.fresh.map (fun f=>(f.name,some f.role))++n.tags.map fun g=>(g,none))
def dclE (R seen : List (List UInt8)) (x : List UInt8 × Option (List UInt8)) : Int :=
 if x.1.contains 35=true then 2 else if x.2.isSome=true∧(x.1=[101]∨x.1=[103]) then 1 else if seen.contains x.1=true then 5 else match x.2 with
  | some r=>if R.contains r=true then 0 else 13
  | none=>0
def decA (R : List (List UInt8)) : List (List UInt8)→List (List UInt8 × Option (List UInt8))→Int
 | _,[]=>0
 | seen,x :: r=>if dclE R seen x≠0 then dclE R seen x else decA R (seen++[x.1]) r
def decE (n : Nar) : Int:=decA n.roles [] (dclL n)
def twoE (R : List (List UInt8)) (a b : List UInt8) : Int:=if R.contains a=false∨R.contains b=false then 13 else if a=b then 1 else 0
def uDS (n : Nar) (s : Sp) : Int:=if twoE n.roles s.frm s.dst≠0 then twoE n.roles s.frm s.dst else uCw n.roles (uB9 n) s.msg
def uDH (n : Nar) (g : Gl) : Int:=if n.roles.contains g.role=false then 13 else if uBo g.kind=true∧twoE n.roles g.role g.wth≠0 then twoE n.roles g.role g.wth else errs (uCw n.roles (uB9 n)) g.data
def lnE {α : Type} (f ln : α→Int) : List α→Int × Int
 | []=>(0,0)
 | x :: r=>if f x≠0 then (ln x,f x) else lnE f ln r
def useE (n : Nar) : Int × Int:=if (lnE (uDS n) Sp.line n.steps).2≠0 then lnE (uDS n) Sp.line n.steps else lnE (uDH n) Gl.line n.goals
def chkE (nm : NmB) (n : Nar) : Int × Int:=if narE nm n≠0 then (0,narE nm n) else if decE n≠0 then (0,decE n) else useE n
theorem lnE_zero {α : Type} {f ln : α→Int} : ∀ {l : List α},(lnE f ln l).2=0 ↔ ∀ x ∈ l,f x=0
 | []=>by simp [lnE]
 | x :: r=>by
  rw[lnE]
  split
  ·rename_i h; simp [h]
  ·rename_i h; rw[lnE_zero (l:=r)]; simp at h ⊢; exact fun _=>h
theorem uLO {α : Type} {f ln : α→Int} : ∀ {l : List α},(lnE f ln l).2=0→lnE f ln l=(0,0)
 | [],_=>rfl
 | x :: r,h=>by
  rw[lnE] at h ⊢
  split at h
  ·rename_i q; exact absurd h q
  ·rename_i q; rw[if_neg q]; exact uLO h
theorem uMf {α : Type} {f ln : α→Int} {d : α} {l : List α} {k : Nat} (hk : k < l.length) (h : ∀ j,j < k→f (l.getD j d)=0) (hx : f (l.getD k d)≠0) : lnE f ln l=(ln (l.getD k d),f (l.getD k d)):=by
 induction l generalizing k with
 | nil=>simp at hk
 | cons x r ih =>
  cases k with
  | zero=>rw[lnE,if_pos (by simpa using hx)]; rfl
  | succ k =>
   have h0:=h 0 (by omega)
   rw[lnE,if_neg (by simpa using h0),ih (k:=k) (by simpa using hk) (fun j hj=>by simpa using h (j + 1) (by omega)) (by simpa using hx)]
   rfl
theorem uJg {α : Type} {f ln : α→Int} {d : α} {l : List α} (h : ∀ j,j < l.length→f (l.getD j d)=0) : lnE f ln l=(0,0):=by
 refine uLO (lnE_zero.2 fun x hx=>?_)
 obtain ⟨j,hj,rfl⟩:=List.mem_iff_getElem.1 hx
 have := h j hj
 rwa [List.getD_eq_getElem?_getD,List.getElem?_eq_getElem hj] at this
def iv (k : Int) : Value:=.int .i64 k
def mapL (l : List (List UInt8 × Int)) : List (List UInt8 × Value):=l.foldl (fun es x=>mput es x.1 (iv x.2)) []
theorem uJI (k : List UInt8) (v : Value) (j : List UInt8) : ∀ es : List (List UInt8 × Value),mget (mput es k v) j=if k=j then some v else mget es j
 | []=>by simp [mput,mget]
 | (a,u) :: r=>by
  rw[mput]
  split
  ·rename_i h; subst h
   rw[mget,mget]
   split <;> rfl
  ·rename_i h
   rw[mget,mget,uJI k v j r]
   by_cases h1 : a=j
   ·subst h1
    rw[if_pos rfl,if_pos rfl,if_neg (fun q=>h q.symm)]
   ·rw[if_neg h1,if_neg h1]
theorem uEI (l : List (List UInt8 × Int)) (x : List UInt8 × Int) : mapL (l++[x])=mput (mapL l) x.1 (iv x.2):=by simp [mapL]
theorem uJF {α : Type} {P : List α→Prop} (h0 : P []) (h1 : ∀ l x,P l→P (l++[x])) (l : List α) : P l:=by
 suffices h : ∀ m : List α,P m.reverse by simpa using h l.reverse
 intro m
 induction m with
 | nil=>exact h0
 | cons x m ih=>rw[List.reverse_cons]; exact h1 _ _ ih
theorem uJp (l : List (List UInt8 × Int)) (k : List UInt8) : mget (mapL l) k=((l.reverse.find? fun x=>decide (x.1=k)).map fun x=>iv x.2):=by
 refine uJF (P:=fun l=>mget (mapL l) k=((l.reverse.find? fun x=>decide (x.1=k)).map fun x=>iv x.2)) rfl (fun l x ih=>?_) l
 rw[uEI,uJI,ih,List.reverse_append]
 simp only [List.reverse_cons,List.reverse_nil,List.nil_append,List.singleton_append,List.find?_cons]
 by_cases h : x.1=k
 ·simp [h]
 ·simp [h]
theorem uEK (l : List (List UInt8 × Int)) (k : List UInt8) : (mget (mapL l) k).isSome=(l.map (·.1)).contains k:=by
 rw[uJp,Option.isSome_map,Bool.eq_iff_iff]
 simp only [List.find?_isSome,List.mem_reverse,decide_eq_true_eq,List.contains_iff_mem,List.mem_map]
theorem T.len_sizes : ∀ l : List T,l.length≤T.sizes l
 | []=>by simp [T.sizes]
 | t :: l=>by have h1:=T.len_sizes l; have h2:=t.size_pos; simp only [T.sizes,List.length_cons]; omega
theorem uLv : ∀ (n : Nat) (t : T),t.size≤n→n≤2000000→Ctr sys 113 [xm t] [] (xi t.size) none []:=by
 intro n
 induction n with
 | zero=>intro t h; have := t.size_pos; omega
 | succ n ih =>
  intro t ht hn
  have hse:=t.size_eq
  have hrl:=T.rows_len t.kids
  have hls:=T.len_sizes t.kids
  refine uAA Tryz.func113 rfl rfl rfl rfl rfl rfl ?_;refine uAd (uAb ?_);refine uAq rfl (uAK rfl rfl rfl rfl) ?_;refine uAa rfl rfl rfl (uAe rfl gU) ?_;refine uAf ?_;refine uAd (uAb ?_);refine uAa rfl rfl rfl (uAe rfl gU) ?_;refine uAf ?_;refine uAd ?_;refine uAd (uAb ?_);refine uAa rfl rfl rfl (uAg rfl gU rfl rfl) ?_;refine uAa rfl rfl rfl (uAh rfl gU rfl rfl rfl rfl) ?_;refine uAI rfl rfl rfl rfl rfl gU rfl rfl ?_ (fun hh=>by simp at hh); intro hlen;refine uAa rfl rfl rfl (uAc rfl gU) ?_;refine uAf ?_;refine uAk (s:=⟨[(3,_,_),(7,_,_),(8,_,_),(9,_,_)],[],[],[]⟩) (uAi (⟨sx rfl,sx rfl,sx rfl,sx rfl,trivial⟩) trivial trivial) ?_;refine uAr ?_;refine uAW (ι:=Nat) { t:=[(7,_,_),(8,_,_)],bx:=[],ow:=[] } (fun k=>[(9,true,xi (k : Int)),(3,true,xi (1 + T.sizes (t.kids.take k) : Nat))]) (fun k=>[]) (fun k=>k≤t.kids.length) (fun k=>t.kids.length - k) (0) (by simp) (uAi (⟨sx rfl,sx rfl,sx rfl,sx rfl,trivial⟩) trivial trivial) ?_
  intro k hok
  dsimp only [List.cons_append,List.nil_append]
  refine uAd (uAb ?_);refine uAa rfl rfl rfl (uAm rfl rfl gU gU rfl) ?_;refine uAf ?_;refine uAd ?_;refine uAn rfl (fun hc=>?_) (fun hc=>?_)
  ·try simp only [nn,T.rows_len,uAj] at hc
   have hlt : k < t.kids.length:=by omega
   have h1:=T.sizes_take _ _ _ (T.getD_some hlt)
   have h2:=T.getD_size hlt
   refine uAo ?_;refine uAd ?_;refine uAr ?_;refine uAd (uAb ?_);refine uAa rfl rfl rfl (uAv rfl rfl gU gU rfl rfl rfl (fun hh=>T.rows_at (by first|omega|(simp at hh; omega)))) ?_;refine uAa rfl rfl rfl (uAE rfl gU rfl rfl rfl rfl) ?_;refine uAq rfl (uAG rfl rfl rfl) ?_;refine uAq rfl (uAy rfl rfl rfl rfl rfl rfl rfl) ?_;refine uAf ?_;refine uAb ?_;refine uAa rfl rfl rfl (uAc rfl gU) ?_;refine uAa rfl rfl rfl (uAl rfl gU rfl rfl rfl rfl rfl) ?_;refine uAu rfl rfl rfl rfl rfl rfl gU gU (ih (t.kids.getD k default) (by omega) (by omega)) rfl ?_;refine uAa rfl rfl rfl (uAz rfl rfl gU gU rfl (IntWalk.i64_in _ (by omega))) ?_;refine uAa rfl rfl rfl (uAe rfl gU) ?_;refine uAf ?_;refine uAk (s:=⟨[(3,_,_),(7,_,_),(8,_,_),(9,_,_)],[],[],[]⟩) (uAi (⟨sx rfl,sx rfl,sx rfl,sx rfl,trivial⟩) trivial trivial) ?_;refine uAb ?_;refine uAa rfl rfl rfl (uAz rfl rfl gU gU rfl (IntWalk.i64_in _ (by omega))) ?_;refine uAa rfl rfl rfl (uAc rfl gU) ?_;refine uAf ?_;refine ⟨k + 1,?_,?_,uAi (⟨⟨_,rfl,?_⟩,⟨⟨_,rfl,?_⟩,⟨sx rfl,sx rfl,trivial⟩⟩⟩) trivial trivial⟩
   all_goals first|rfl|omega|exact tx (uBa (by rw[h1]; push_cast; omega))
  ·try simp only [nn,T.rows_len,uAj] at hc
   have : k=t.kids.length:=by omega
   subst this
   rw[List.take_length]
   refine uAJ ?_
   repeat(first|refine uAC ?_|refine uAD ?_|refine uAB rfl ?_)
   refine uAd (uAb ?_);refine uAa rfl rfl rfl (uAc rfl gU) ?_;refine uAa rfl rfl rfl (uAe rfl gU) ?_;refine uAf ?_;refine uAp ?_
   repeat(first|refine tR ?_|refine bR ?_)
   refine uAt rfl ?_ trivial;exact uBa (by omega)
end Go.Proofs.YteidahabkfgfjaaGreat
namespace Go.Proofs.YteidahabkfgfjaaGreat
open Go Go.Proofs Go.Shelf
def uLe : Go.Shelf.Ren:=⟨fun | 99=>157 | 206=>167 | n=>n,fun | 9=>9 | 4=>4 | 3=>3 | n=>n,fun | n=>n⟩
theorem uQx : Go.Proofs.Lays.n99 Tryz.prog uLe:={
 mixed:=by kernel_rfl
 f99:=Tryz.func157.trans (congrArg some (by kernel_rfl))
 f206:=Tryz.func167.trans (congrArg some (by kernel_rfl))
 t3:=Tryz.underlying3
 a3:=Tryz.isAgg3
 z3:=Tryz.sizeOf3
 v3:=Tryz.zeroValue3
 t4:=Tryz.underlying4
 a4:=Tryz.isAgg4
 z4:=Tryz.sizeOf4
 v4:=Tryz.zeroValue4
 t9:=Tryz.underlying9
 a9:=Tryz.isAgg9
 z9:=Tryz.sizeOf9
 v9:=Tryz.zeroValue9 }
def uJr : Go.Shelf.Ren:=⟨fun | 144=>76 | 143=>115 | 219=>141 | 217=>159 | 225=>160 | 224=>161 | 267=>162 | 266=>169 | 314=>170 | n=>n,fun | 9=>9 | 4=>4 | 3=>3 | 5=>5 | 46=>162 | 146=>169 | 51=>168 | n=>n,fun | 1=>0 | n=>n⟩
theorem uPQ : Go.Proofs.Lays.n144 Tryz.prog uJr:={
 mixed:=by kernel_rfl
 f143:=Tryz.func115.trans (congrArg some (by kernel_rfl))
 f144:=Tryz.func76.trans (congrArg some (by kernel_rfl))
 f217:=Tryz.func159.trans (congrArg some (by kernel_rfl))
 f219:=Tryz.func141.trans (congrArg some (by kernel_rfl))
 f224:=Tryz.func161.trans (congrArg some (by kernel_rfl))
 f225:=Tryz.func160.trans (congrArg some (by kernel_rfl))
 f266:=Tryz.func169.trans (congrArg some (by kernel_rfl))
 f267:=Tryz.func162.trans (congrArg some (by kernel_rfl))
 f314:=Tryz.func170.trans (congrArg some (by kernel_rfl))
 t3:=Tryz.underlying3
 a3:=Tryz.isAgg3
 z3:=Tryz.sizeOf3
 v3:=Tryz.zeroValue3
 t4:=Tryz.underlying4
 a4:=Tryz.isAgg4
 z4:=Tryz.sizeOf4
 v4:=Tryz.zeroValue4
 t5:=Tryz.underlying5
 a5:=Tryz.isAgg5
 z5:=Tryz.sizeOf5
 v5:=Tryz.zeroValue5
 t9:=Tryz.underlying9
 a9:=Tryz.isAgg9
 z9:=Tryz.sizeOf9
 v9:=Tryz.zeroValue9
 t46:=Tryz.underlying162
 a46:=Tryz.isAgg162
 z46:=Tryz.sizeOf162
 v46:=Tryz.zeroValue162
 t51:=Tryz.underlying168
 a51:=Tryz.isAgg168
 z51:=Tryz.sizeOf168
 v51:=Tryz.zeroValue168
 t146:=Tryz.underlying169
 a146:=Tryz.isAgg169
 z146:=Tryz.sizeOf169
 v146:=Tryz.zeroValue169
 g1:=by kernel_rfl }
end Go.Proofs.YteidahabkfgfjaaGreat
namespace Go.Proofs.YteidahabkfgfjaaGreat
open Go Go.Abs
open Go.RowKit (Below)
theorem uGS (s p : List UInt8) : Ctr sys 157 [xs s,xs p] [] (xb (p.isPrefixOf s)) none []:=by
 refine uJf [.string ⟨s.toArray⟩, .string ⟨p.toArray⟩] ⟨_,Tryz.func157,by kernel_rfl,by kernel_rfl⟩ (fun w G vs h=>?_) (fun w=>Any.strings_HasPrefix uQx ⟨s.toArray⟩ ⟨p.toArray⟩ w) (fun w G=>CRep.b _)
 match vs,h with
 | [u,v],⟨h1,h2,_⟩=>rw[XRep.str h1,XRep.str h2]
end Go.Proofs.YteidahabkfgfjaaGreat
namespace Go.Proofs.YteidahabkfgfjaaGreat
open Go Go.Proofs Go.RowKit
open Go.Abs (uFq BdSys)
end Go.Proofs.YteidahabkfgfjaaGreat
namespace Go.Proofs.YteidahabkfgfjaaGreat
open Go Go.Abs
theorem uFw (n : Int) : Ctr sys 137 [xu n] [] (xb (uBg n)) none []:=by
 refine uAA Tryz.func137 rfl rfl rfl rfl rfl rfl ?_;refine uAd (uAb ?_);refine uAa rfl rfl rfl (uAe rfl gU) ?_;refine uAf ?_;refine uAd (uAb ?_);refine uAa rfl rfl rfl (uAc rfl gU) ?_;refine uAa rfl rfl rfl (uAm rfl rfl gU gU rfl) ?_;refine uAa rfl rfl rfl (uAc rfl gU) ?_;refine uAa rfl rfl rfl (uAc rfl gU) ?_;refine uAa rfl rfl rfl (uAm rfl rfl (fun hh=>hh) gU rfl) ?_;refine uAa rfl rfl rfl (uAP rfl rfl gU (fun _ hi=>gP rfl hi)) ?_;refine uAa rfl rfl rfl (uAc rfl gU) ?_;refine uAa rfl rfl rfl (uAc rfl gU) ?_;refine uAa rfl rfl rfl (uAm rfl rfl (fun hh=>hh) gU rfl) ?_;refine uAa rfl rfl rfl (uAc rfl (fun hh=>hh)) ?_;refine uAa rfl rfl rfl (uAc rfl gU) ?_;refine uAa rfl rfl rfl (uAm rfl rfl (fun hh=>hh) gU rfl) ?_;refine uAa rfl rfl rfl (uAP rfl rfl (fun hh=>hh) (fun hh hi=>gP hh hi)) ?_;refine uAa rfl rfl rfl (uAL rfl rfl gU (fun _ hi=>gP rfl hi)) ?_;refine uAa rfl rfl rfl (uAe rfl gU) ?_;refine uAf ?_;refine uAp ?_
 repeat(first|refine tR ?_|refine bR ?_)
 refine uAt rfl ?_ trivial
 rfl
theorem uKh (n : Int) : Ctr sys 156 [xu n] [] (xb (uBD n)) none []:=by
 refine uAA Tryz.func156 rfl rfl rfl rfl rfl rfl ?_;refine uAd (uAb ?_);refine uAa rfl rfl rfl (uAe rfl gU) ?_;refine uAf ?_;refine uAd (uAb ?_);refine uAa rfl rfl rfl (uAc rfl gU) ?_;refine uAa rfl rfl rfl (uAm rfl rfl gU gU rfl) ?_;refine uAa rfl rfl rfl (uAc rfl gU) ?_;refine uAa rfl rfl rfl (uAc rfl gU) ?_;refine uAa rfl rfl rfl (uAm rfl rfl (fun hh=>hh) gU rfl) ?_;refine uAa rfl rfl rfl (uAP rfl rfl gU (fun _ hi=>gP rfl hi)) ?_;refine uAa rfl rfl rfl (uAe rfl gU) ?_;refine uAf ?_;refine uAp ?_
 repeat(first|refine tR ?_|refine bR ?_)
 refine uAt rfl ?_ trivial
 rfl
theorem pre2 (b : UInt8) (l : List UInt8) : ([35,35] : List UInt8).isPrefixOf (b :: l)=(decide (b.toNat=35) && decide ((l.getD 0 0).toNat=35)):=by
 have hb : ∀ x : UInt8,((35 : UInt8) == x)=decide (x.toNat=35):=by
  intro x
  rw[Bool.eq_iff_iff]
  simp only [beq_iff_eq,decide_eq_true_eq]
  exact ⟨fun h=>by subst h; rfl,fun h=>UInt8.toNat_inj.1 (by rw[h]; rfl)⟩
 cases l with
 | nil=>simp [List.isPrefixOf,hb]
 | cons c r=>simp [List.isPrefixOf,hb]
theorem uGh (s : List UInt8) (hs : s.length≤9223372036854775807) : Ctr sys 138 [xs s] [] (xi (nlE s : Nat)) none []:=by
 refine uAA Tryz.func138 rfl rfl rfl rfl rfl rfl ?_;refine uAd (uAb ?_);refine uAa rfl rfl rfl (uAe rfl gU) ?_;refine uAf ?_;refine uAd (uAb ?_);refine uAa rfl rfl rfl (uAe rfl gU) ?_;refine uAf ?_;refine uAd ?_;refine uAr ?_;refine uAW (ι:=Nat) { t:=[(0,_,_)],bx:=[],ow:=[] } (fun k=>[(3,true,xi (k : Int))]) (fun k=>[]) (fun k=>1≤k∧(k≤s.length∨k=1)∧nmP (s.drop k) + k=nlE s) (fun k=>s.length - k) (1) (⟨by omega,by omega,by unfold nlE; omega⟩) (uAi (⟨sx rfl,sx rfl,trivial⟩) trivial trivial) ?_
 intro k hok
 dsimp only [List.cons_append,List.nil_append]
 obtain ⟨hk1,hk,hi⟩:=hok
 refine uAd ?_;refine uAd (uAb ?_);refine uAa rfl rfl rfl (uAc rfl gU) ?_;refine uAa rfl rfl rfl (uAc rfl gU) ?_;refine uBU rfl rfl rfl rfl rfl gU (Tryz.underlying9) ?_ (fun hh=>by simp at hh); intro hlen;refine uAa rfl rfl rfl (uAm rfl rfl gU gU rfl) ?_;refine uAa rfl rfl rfl (uAc rfl gU) ?_;refine uAa rfl rfl rfl (uAc rfl gU) ?_;refine uAa rfl rfl rfl (uAc rfl gU) ?_;refine uAa rfl rfl rfl (uAO (j:=k) rfl rfl (fun hh=>hh) (fun hh=>hh) Tryz.underlying9 (by first|omega|(simp at hh ⊢; omega)) (fun hh=>by first|omega|(simp at hh ⊢; omega))) ?_;refine uAu rfl rfl rfl rfl rfl rfl gU (fun hh=>gA ((fun hh=>hh) hh) (rfl)) (uFw _) rfl ?_;refine uAa rfl rfl rfl (uAc rfl (fun hh=>hh)) ?_;refine uAa rfl rfl rfl (uAc rfl gU) ?_;refine uAa rfl rfl rfl (uAc rfl gU) ?_;refine uBc (s:=⟨[(0,_,_),(3,_,_),(8,_,_),(13,_,_),(14,_,_),(15,_,_)],[],[],[]⟩) (uAi (⟨sx rfl,sx rfl,sx rfl,sx rfl,sx rfl,sx rfl,trivial⟩) trivial trivial) ?_;refine uAa rfl rfl rfl (uAO (j:=k) rfl rfl (fun hh=>hh) (fun hh=>hh) Tryz.underlying9 (by first|omega|(simp at hh ⊢; omega)) (fun hh=>by first|omega|(simp at hh ⊢; omega))) ?_;refine uAu rfl rfl rfl rfl rfl rfl gU (fun hh=>gA ((fun hh=>hh) hh) (rfl)) (uKh _) rfl ?_;refine uAa rfl rfl rfl (uAL rfl rfl (fun hh=>hh) (fun hh hi=>gP hh hi)) ?_
 refine uAa rfl rfl rfl (uAc rfl (fun hh=>hh)) ?_;refine uAa rfl rfl rfl (uAc rfl gU) ?_;refine uAa rfl rfl rfl (uAc rfl gU) ?_;refine uAa rfl rfl rfl (uAO (j:=k) rfl rfl (fun hh=>hh) (fun hh=>hh) Tryz.underlying9 (by first|omega|(simp at hh ⊢; omega)) (fun hh=>by first|omega|(simp at hh ⊢; omega))) ?_;refine uAa rfl rfl rfl (uAm rfl rfl (fun hh=>hh) gU rfl) ?_;refine uAa rfl rfl rfl (uAL rfl rfl (fun hh=>hh) (fun hh hi=>gP hh hi)) ?_;refine uAa rfl rfl rfl (uAc rfl (fun hh=>hh)) ?_;refine uAa rfl rfl rfl (uAc rfl gU) ?_;refine uAa rfl rfl rfl (uAc rfl gU) ?_;refine uBc (s:=⟨[(0,_,_),(3,_,_),(8,_,_),(25,_,_),(26,_,_),(27,_,_)],[],[],[]⟩) (uAi (⟨sx rfl,sx rfl,sx rfl,sx rfl,sx rfl,sx rfl,trivial⟩) trivial trivial) ?_;refine uAa rfl rfl rfl (uAO (j:=k) rfl rfl (fun hh=>hh) (fun hh=>hh) Tryz.underlying9 (by first|omega|(simp at hh ⊢; omega)) (fun hh=>by first|omega|(simp at hh ⊢; omega))) ?_;refine uAa rfl rfl rfl (uAm rfl rfl (fun hh=>hh) gU rfl) ?_;refine uAa rfl rfl rfl (uAL rfl rfl (fun hh=>hh) (fun hh hi=>gP hh hi)) ?_;refine uAa rfl rfl rfl (uAP rfl rfl gU (fun _ hi=>gP rfl hi)) ?_;refine uAf ?_;refine uAn rfl (fun hc=>?_) (fun hc=>?_)
 ·try simp only [nn] at hc
  rw[uBf (by omega),nmP] at hi
  refine uAo ?_;refine uAr ?_;refine uAd ?_;refine uAd (uAb ?_);refine uAa rfl rfl rfl (uAc rfl gU) ?_;refine uAa rfl rfl rfl (uAc rfl gU) ?_;refine uAa rfl rfl rfl (uBG (l:=k) rfl gU Tryz.underlying9 (fun _=>⟨_,_,_,rfl,gU,by first|omega|(simp at hh ⊢; omega)⟩) (fun _=>rfl) (fun hh=>by first|omega|(simp at hh ⊢; omega)) (fun hh=>by first|omega|(simp at hh ⊢; omega))) ?_;refine uAu rfl rfl rfl rfl rfl rfl gU gU (uGS _ _) rfl ?_;refine uAf ?_;refine uAk (s:=⟨[(0,_,_),(3,_,_),(35,_,_)],[],[],[]⟩) (uAi (⟨sx rfl,sx rfl,sx rfl,trivial⟩) trivial trivial) ?_;refine uAn rfl (fun hc2=>?_) (fun hc2=>?_)
  ·try simp only [nn] at hc2
   rw[List.take_length,uBf (by omega),pre2] at hc2
   refine uAJ ?_
   repeat(first|refine uAC ?_|refine uAD ?_|refine uAB rfl ?_)
   refine uAd (uAb ?_);refine uAa rfl rfl rfl (uAc rfl gU) ?_;refine uAa rfl rfl rfl (uAe rfl gU) ?_;refine uAf ?_;refine uAp ?_
   repeat(first|refine tR ?_|refine bR ?_)
   refine uAt rfl ?_ trivial
   (have hn:=hi; rw[if_neg (by intro q; simp only [Bool.and_eq_true,decide_eq_true_eq] at hc2; exact q.2 hc2)] at hn; exact uBa (by omega))
  ·try simp only [nn] at hc2
   rw[List.take_length,uBf (by omega),pre2] at hc2
   have hn:=hi
   rw[if_pos ⟨by simp only [uB0]; grind,by simpa using hc2⟩] at hn
   refine uAo ?_;refine uAb ?_;refine uAa rfl rfl rfl (uAc rfl gU) ?_;refine uAa rfl rfl rfl (uAz rfl rfl gU gU rfl (IntWalk.i64_in _ (by omega))) ?_;refine uAa rfl rfl rfl (uAe rfl gU) ?_;refine uAf ?_;refine ⟨k + 1,?_,?_,uAi (⟨⟨_,rfl,?_⟩,⟨sx rfl,trivial⟩⟩) trivial trivial⟩
   all_goals (first|rfl|omega|exact ⟨by omega,by omega,by omega⟩)
 ·try simp only [nn] at hc
  refine uAJ ?_
  repeat(first|refine uAC ?_|refine uAD ?_|refine uAB rfl ?_)
  refine uAd (uAb ?_);refine uAa rfl rfl rfl (uAc rfl gU) ?_;refine uAa rfl rfl rfl (uAe rfl gU) ?_;refine uAf ?_;refine uAp ?_
  repeat(first|refine tR ?_|refine bR ?_)
  refine uAt rfl ?_ trivial
  (have hn : nmP (s.drop k)=0:=by { by_cases hlt : k < s.length; { rw[uBf hlt,nmP,if_neg (by simp only [uB0]; grind)] }; { rw[List.drop_of_length_le (by omega)]; rfl } }; exact uBa (by omega))
theorem uGk {c : UInt8} (h : hexB c=true) : 0≤hexV c∧hexV c≤15:=by
 simp [hexB] at h
 unfold hexV
 split <;> omega
theorem uQt {x : Int} {n : Nat} (h : x=n) (hn : n < 256) : x=((UInt8.ofNat n).toNat : Int):=by
 rw[h,UInt8.toNat_ofNat']; omega
theorem uOg {n i : Nat} {l out : List UInt8} (h : l=[]) : litA n l i out=([],0):=by subst h; cases n <;> rfl
theorem uP1 {s : List UInt8} {k : Nat} (h : k < s.length) : escE (s.drop k)=if (s.getD k 0).toNat=110 then (10,1) else if (s.getD k 0).toNat=116 then (9,1) else if (s.getD k 0).toNat=34∨(s.getD k 0).toNat=92 then (s.getD k 0,1)
  else if (s.getD k 0).toNat=120∧k + 2 < s.length∧hexB (s.getD (k + 1) 0)=true∧hexB (s.getD (k + 2) 0)=true then (UInt8.ofNat (16 * hexV (s.getD (k + 1) 0) + hexV (s.getD (k + 2) 0)).toNat,3) else (0,0):=by
 have e : (2≤s.length - (k + 1))=(k + 2 < s.length):=propext (by omega)
 rw[uBf h,escE,uIk,uIk,List.length_drop]
 simp only [e,Nat.add_zero]
theorem uNm {s out : List UInt8} {n k : Nat} (h : k < s.length) : litA (n + 1) (s.drop k) k out=if (s.getD k 0).toNat=34 then (out,k + 1)
  else if (s.getD k 0).toNat=92 then (if (escE (s.drop (k + 1))).2=0 then ([],0) else litA n (s.drop (k + 1 + (escE (s.drop (k + 1))).2)) (k + 1 + (escE (s.drop (k + 1))).2) (out++[(escE (s.drop (k + 1))).1]))
  else if (s.getD k 0).toNat < 32∨126 < (s.getD k 0).toNat then ([],0) else litA n (s.drop (k + 1)) (k + 1) (out++[s.getD k 0]):=by
 rw[uBf h,litA,List.drop_drop]
theorem uMM {n : Int} (h : uBD n=true) : 48≤n∧n≤57:=by simpa [uBD] using h
theorem uDs (c : UInt8) (n : Int) (h : n=(c.toNat : Int)) : Ctr sys 129 [xu n] [] (xi (clsE c)) none []:=by
 subst h
 have hu:=c.toNat_lt
 have h18 : syms.length=18:=rfl
 refine uAA Tryz.func129 rfl rfl rfl rfl rfl rfl ?_;refine uAd (uAb ?_);refine uAa rfl rfl rfl (uAe rfl gU) ?_;refine uAf ?_;refine uAd ?_;refine uAr ?_;refine uAd (uAb ?_);refine uAa rfl rfl rfl (uAc rfl gU) ?_;refine uAa rfl rfl rfl (uAm rfl rfl gU gU rfl) ?_;refine uAa rfl rfl rfl (uAc rfl gU) ?_;refine uAa rfl rfl rfl (uAc rfl gU) ?_;refine uAa rfl rfl rfl (uAm rfl rfl (fun hh=>hh) gU rfl) ?_;refine uAa rfl rfl rfl (uAL rfl rfl gU (fun _ hi=>gP rfl hi)) ?_;refine uAa rfl rfl rfl (uAc rfl gU) ?_;refine uAa rfl rfl rfl (uAc rfl gU) ?_;refine uAa rfl rfl rfl (uAm rfl rfl (fun hh=>hh) gU rfl) ?_;refine uAa rfl rfl rfl (uAL rfl rfl gU (fun _ hi=>gP rfl hi)) ?_;refine uAa rfl rfl rfl (uAc rfl gU) ?_;refine uBc (s:=⟨[(0,_,_),(16,_,_)],[],[],[]⟩) (uAi (⟨sx rfl,sx rfl,trivial⟩) trivial trivial) ?_;refine uAa rfl rfl rfl (uAc rfl gU) ?_;refine uAa rfl rfl rfl (uAm rfl rfl (fun hh=>hh) gU rfl) ?_;refine uAa rfl rfl rfl (uAL rfl rfl gU (fun _ hi=>gP rfl hi)) ?_;refine uAa rfl rfl rfl (uAe rfl gU) ?_;refine uAf ?_;refine uAn rfl (fun hc=>?_) (fun hc=>?_)
 ·try simp only [nn] at hc
  refine uAd (uAb ?_);refine uAa rfl rfl rfl (uAe rfl gU) ?_;refine uAf ?_;refine uAp ?_
  repeat(first|refine tR ?_|refine bR ?_)
  refine uAt rfl ?_ trivial;exact uBa (by rw[clsE,if_pos (by simp [uCs]; omega)])
 ·try simp only [nn] at hc
  have hw : ¬uCs c=true:=by simp [uCs]; omega
  refine uAd (uAb ?_);refine uAa rfl rfl rfl (uAc rfl gU) ?_;refine uAa rfl rfl rfl (uAm rfl rfl gU gU rfl) ?_;refine uAa rfl rfl rfl (uAc rfl gU) ?_;refine uAa rfl rfl rfl (uAc rfl gU) ?_;refine uAa rfl rfl rfl (uAm rfl rfl (fun hh=>hh) gU rfl) ?_;refine uAa rfl rfl rfl (uAP rfl rfl gU (fun _ hi=>gP rfl hi)) ?_;refine uAa rfl rfl rfl (uAc rfl gU) ?_;refine uAa rfl rfl rfl (uAc rfl gU) ?_;refine uBc (s:=⟨[(0,_,_),(27,_,_),(28,_,_)],[],[],[]⟩) (uAi (⟨sx rfl,sx rfl,sx rfl,trivial⟩) trivial trivial) ?_;refine uAa rfl rfl rfl (uAm rfl rfl (fun hh=>hh) gU rfl) ?_;refine uAa rfl rfl rfl (uAc rfl (fun hh=>hh)) ?_;refine uAa rfl rfl rfl (uAc rfl gU) ?_;refine uAa rfl rfl rfl (uAm rfl rfl (fun hh=>hh) gU rfl) ?_;refine uAa rfl rfl rfl (uAP rfl rfl (fun hh=>hh) (fun hh hi=>gP hh hi)) ?_;refine uAa rfl rfl rfl (uAL rfl rfl gU (fun _ hi=>gP rfl hi)) ?_;refine uAa rfl rfl rfl (uAe rfl gU) ?_;refine uAf ?_;refine uAk (s:=⟨[(0,_,_),(20,_,_)],[],[],[]⟩) (uAi (⟨sx rfl,sx rfl,trivial⟩) trivial trivial) ?_;refine uAn rfl (fun hc2=>?_) (fun hc2=>?_)
  ·try simp only [nn] at hc2
   refine uAd (uAb ?_);refine uAa rfl rfl rfl (uAe rfl gU) ?_;refine uAf ?_;refine uAp ?_
   repeat(first|refine tR ?_|refine bR ?_)
   refine uAt rfl ?_ trivial;exact uBa (by rw[clsE,if_neg hw,if_pos (by simp [uBg]; omega)])
  ·try simp only [nn] at hc2
   have hl : ¬uBg (c.toNat : Int)=true:=by simp [uBg]; omega
   refine uAd (uAb ?_);refine uAa rfl rfl rfl (uAc rfl gU) ?_;refine uAa rfl rfl rfl (uAm rfl rfl gU gU rfl) ?_;refine uAa rfl rfl rfl (uAc rfl gU) ?_;refine uAa rfl rfl rfl (uAc rfl gU) ?_;refine uAa rfl rfl rfl (uAm rfl rfl (fun hh=>hh) gU rfl) ?_;refine uAa rfl rfl rfl (uAP rfl rfl gU (fun _ hi=>gP rfl hi)) ?_;refine uAa rfl rfl rfl (uAe rfl gU) ?_;refine uAf ?_;refine uAk (s:=⟨[(0,_,_),(35,_,_)],[],[],[]⟩) (uAi (⟨sx rfl,sx rfl,trivial⟩) trivial trivial) ?_;refine uAn rfl (fun hc3=>?_) (fun hc3=>?_)
   ·try simp only [nn] at hc3
    refine uAd (uAb ?_);refine uAa rfl rfl rfl (uAe rfl gU) ?_;refine uAf ?_;refine uAp ?_
    repeat(first|refine tR ?_|refine bR ?_)
    refine uAt rfl ?_ trivial;exact uBa (by rw[clsE,if_neg hw,if_neg hl,if_pos (by simp [uBD]; omega)])
   ·try simp only [nn] at hc3
    have hd : ¬uBD (c.toNat : Int)=true:=by simp [uBD]; omega
    refine uAd (uAb ?_);refine uAa rfl rfl rfl (uAc rfl gU) ?_;refine uAa rfl rfl rfl (uAm rfl rfl gU gU rfl) ?_;refine uAa rfl rfl rfl (uAe rfl gU) ?_;refine uAf ?_;refine uAn rfl (fun hc4=>?_) (fun hc4=>?_)
    ·try simp only [nn] at hc4
     refine uAd (uAb ?_);refine uAa rfl rfl rfl (uAe rfl gU) ?_;refine uAf ?_;refine uAp ?_
     repeat(first|refine tR ?_|refine bR ?_)
     refine uAt rfl ?_ trivial;exact uBa (by rw[clsE,if_neg hw,if_neg hl,if_neg hd,if_pos (by omega)])
    ·try simp only [nn] at hc4
     have hx : clsE c=if symB c=true then 4 else 0:=by rw[clsE,if_neg hw,if_neg hl,if_neg hd,if_neg (by omega)]
     rw[hx]
     refine uAo ?_;refine uAd (uAb ?_);refine uAa rfl rfl rfl (uAe rfl gU) ?_;refine uAf ?_;refine uAd ?_;refine uAd (uAb ?_);refine uAa rfl rfl rfl (uAe rfl gU) ?_;refine uAf ?_;refine uAk (s:=⟨[(0,_,_),(3,_,_),(4,_,_)],[],[],[]⟩) (uAi (⟨sx rfl,sx rfl,sx rfl,trivial⟩) trivial trivial) ?_;refine uAr ?_;refine uAW (ι:=Nat) { t:=[(0,_,_),(3,_,_)],bx:=[],ow:=[] } (fun k=>[(4,true,xi (k : Int))]) (fun k=>[]) (fun k=>k≤18∧(syms.drop k).contains c=symB c) (fun k=>18 - k) (0) (⟨by omega,rfl⟩) (uAi (⟨sx rfl,sx rfl,sx rfl,trivial⟩) trivial trivial) ?_
     intro k hok
     dsimp only [List.cons_append,List.nil_append]
     obtain ⟨hk,hi⟩:=hok
     refine uAd ?_;refine uAd (uAb ?_);refine uAa rfl rfl rfl (uAc rfl gU) ?_;refine uAa rfl rfl rfl (uAc rfl gU) ?_;refine uBU rfl rfl rfl rfl rfl gU (Tryz.underlying9) ?_ (fun hh=>by simp at hh); intro hlen;refine uAa rfl rfl rfl (uAm rfl rfl gU gU rfl) ?_;refine uAf ?_;refine uAn rfl (fun hc5=>?_) (fun hc5=>?_)
     ·try simp only [nn] at hc5
      have hk2 : k < syms.length:=by rw[h18]; simp at hc5; omega
      rw[uBf hk2,List.contains_cons] at hi
      refine uAo ?_;refine uAd ?_;refine uAr ?_;refine uAd (uAb ?_);refine uAa rfl rfl rfl (uAc rfl gU) ?_;refine uAa rfl rfl rfl (uAc rfl gU) ?_;refine uAa rfl rfl rfl (uAO (j:=k) rfl rfl gU gU Tryz.underlying9 (by first|omega|(show _ < 18; omega)|(simp at hh ⊢; omega)) (fun hh=>by first|omega|(show _ < 18; omega)|(simp at hh ⊢; omega))) ?_;refine uAa rfl rfl rfl (uAc rfl gU) ?_;refine uAa rfl rfl rfl (uAm rfl rfl gU gU rfl) ?_;refine uAf ?_;refine uAk (s:=⟨[(0,_,_),(3,_,_),(4,_,_),(55,_,_)],[],[],[]⟩) (uAi (⟨sx rfl,sx rfl,sx rfl,sx rfl,trivial⟩) trivial trivial) ?_;refine uAn rfl (fun hc6=>?_) (fun hc6=>?_)
      ·try simp only [nn] at hc6
       have he : c=syms.getD k 0:=UInt8.toNat_inj.1 (by have : ((syms.getD k 0).toNat : Int)=(c.toNat : Int):=hc6; omega)
       refine uAd (uAb ?_);refine uAa rfl rfl rfl (uAe rfl gU) ?_;refine uAf ?_;refine uAp ?_
       repeat(first|refine tR ?_|refine bR ?_)
       refine uAt rfl ?_ trivial;exact uBa (by rw[← hi,he]; simp)
      ·try simp only [nn] at hc6
       have he : (c == syms.getD k 0)=false:=by
        rw[beq_eq_false_iff_ne]
        intro q
        exact hc6 (by show ((syms.getD k 0).toNat : Int)=(c.toNat : Int); rw[q])
       rw[he,Bool.false_or] at hi
       refine uAo ?_;refine uAb ?_;refine uAa rfl rfl rfl (uAc rfl gU) ?_;refine uAa rfl rfl rfl (uAz rfl rfl gU gU rfl (IntWalk.i64_in _ (by omega))) ?_;refine uAa rfl rfl rfl (uAe rfl gU) ?_;refine uAf ?_;refine ⟨k + 1,?_,?_,uAi (⟨⟨_,rfl,?_⟩,⟨sx rfl,sx rfl,trivial⟩⟩) trivial trivial⟩
       all_goals (first|rfl|omega|exact ⟨by omega,hi⟩)
     ·try simp only [nn] at hc5
      have hk2 : k=18:=by simp at hc5; omega
      rw[List.drop_of_length_le (by rw[h18]; omega)] at hi
      refine uAJ ?_
      repeat(first|refine uAC ?_|refine uAD ?_|refine uAB rfl ?_)
      refine uAd (uAb ?_);refine uAa rfl rfl rfl (uAe rfl gU) ?_;refine uAf ?_;refine uAp ?_
      repeat(first|refine tR ?_|refine bR ?_)
      refine uAt rfl ?_ trivial;exact uBa (by rw[← hi]; rfl)
theorem uEb (c : UInt8) : (clsE c=2 ↔ uBg (c.toNat : Int)=true)∧(clsE c=3 ↔ uBD (c.toNat : Int)=true)∧(clsE c=1 ↔ uCs c=true):=by
 unfold clsE
 have h1 : uCs c=true→uBg (c.toNat : Int)≠true∧uBD (c.toNat : Int)≠true:=by simp [uCs,uBg,uBD]; omega
 have h2 : uBg (c.toNat : Int)=true→uBD (c.toNat : Int)≠true:=by simp [uBg,uBD]; omega
 refine ⟨?_,?_,?_⟩
 all_goals (repeat' split)
 all_goals simp_all
theorem uJL (c : UInt8) : uB0 (c.toNat : Int)=true ↔ ((clsE c=2∨clsE c=3)∨c.toNat=95)∨c.toNat=35:=by
 rw[(uEb c).1,(uEb c).2.1]
 have e1 : ((c.toNat : Int)=95)=(c.toNat=95):=propext (by omega)
 have e2 : ((c.toNat : Int)=35)=(c.toNat=35):=propext (by omega)
 simp only [uB0,Bool.or_eq_true,beq_iff_eq,e1,e2]
theorem uNu (s : List UInt8) (hs : s.length≤2000000) : Ctr sys 149 [xs s] [] (xs (s.take (wdN s))) none []:=by
 refine uAA Tryz.func149 rfl rfl rfl rfl rfl rfl ?_;refine uAd (uAb ?_);refine uAa rfl rfl rfl (uAe rfl gU) ?_;refine uAf ?_;refine uAd (uAb ?_);refine uAa rfl rfl rfl (uAe rfl gU) ?_;refine uAf ?_;refine uAd ?_;refine uAr ?_;refine uAW (ι:=Nat) { t:=[(0,_,_)],bx:=[],ow:=[] } (fun k=>[(3,true,xi (k : Int))]) (fun k=>[]) (fun k=>k≤s.length∧wdN (s.drop k) + k=wdN s) (fun k=>s.length - k) (0) (⟨by omega,rfl⟩) (uAi (⟨sx rfl,sx rfl,trivial⟩) trivial trivial) ?_
 intro k hok
 dsimp only [List.cons_append,List.nil_append]
 obtain ⟨hk,hi⟩:=hok
 refine uAd ?_;refine uAd (uAb ?_);refine uAa rfl rfl rfl (uAc rfl gU) ?_;refine uAa rfl rfl rfl (uAc rfl gU) ?_;refine uBU rfl rfl rfl rfl rfl gU (Tryz.underlying9) ?_ (fun hh=>by simp at hh); intro hlen;refine uAa rfl rfl rfl (uAm rfl rfl gU gU rfl) ?_;refine uAa rfl rfl rfl (uAc rfl gU) ?_;refine uAa rfl rfl rfl (uAc rfl gU) ?_;refine uAa rfl rfl rfl (uAc rfl gU) ?_;refine uAa rfl rfl rfl (uAO (j:=k) rfl rfl (fun hh=>hh) (fun hh=>hh) Tryz.underlying9 (by first|omega|(simp at hh ⊢; omega)) (fun hh=>by first|omega|(simp at hh ⊢; omega))) ?_;refine uAu rfl rfl rfl rfl rfl rfl gU (fun hh=>gA ((fun hh=>hh) hh) (rfl)) (uDs _ _ rfl) rfl ?_;refine uAa rfl rfl rfl (uAm rfl rfl (fun hh=>hh) gU rfl) ?_;refine uAa rfl rfl rfl (uAc rfl (fun hh=>hh)) ?_;refine uAa rfl rfl rfl (uAc rfl gU) ?_;refine uBc (s:=⟨[(0,_,_),(3,_,_),(8,_,_),(14,_,_),(15,_,_)],[],[],[]⟩) (uAi (⟨sx rfl,sx rfl,sx rfl,sx rfl,sx rfl,trivial⟩) trivial trivial) ?_;refine uAa rfl rfl rfl (uAc rfl gU) ?_;refine uAa rfl rfl rfl (uAO (j:=k) rfl rfl (fun hh=>hh) (fun hh=>hh) Tryz.underlying9 (by first|omega|(simp at hh ⊢; omega)) (fun hh=>by first|omega|(simp at hh ⊢; omega))) ?_;refine uAu rfl rfl rfl rfl rfl rfl gU (fun hh=>gA ((fun hh=>hh) hh) (rfl)) (uDs _ _ rfl) rfl ?_
 refine uAa rfl rfl rfl (uAm rfl rfl (fun hh=>hh) gU rfl) ?_;refine uAa rfl rfl rfl (uAL rfl rfl (fun hh=>hh) (fun hh hi=>gP hh hi)) ?_;refine uAa rfl rfl rfl (uAc rfl (fun hh=>hh)) ?_;refine uAa rfl rfl rfl (uAc rfl gU) ?_;refine uAa rfl rfl rfl (uAc rfl gU) ?_;refine uAa rfl rfl rfl (uAO (j:=k) rfl rfl (fun hh=>hh) (fun hh=>hh) Tryz.underlying9 (by first|omega|(simp at hh ⊢; omega)) (fun hh=>by first|omega|(simp at hh ⊢; omega))) ?_;refine uAa rfl rfl rfl (uAm rfl rfl (fun hh=>hh) gU rfl) ?_;refine uAa rfl rfl rfl (uAL rfl rfl (fun hh=>hh) (fun hh hi=>gP hh hi)) ?_;refine uAa rfl rfl rfl (uAc rfl (fun hh=>hh)) ?_;refine uBc (s:=⟨[(0,_,_),(3,_,_),(8,_,_),(27,_,_)],[],[],[]⟩) (uAi (⟨sx rfl,sx rfl,sx rfl,sx rfl,trivial⟩) trivial trivial) ?_;refine uAa rfl rfl rfl (uAc rfl gU) ?_;refine uAa rfl rfl rfl (uAc rfl gU) ?_;refine uAa rfl rfl rfl (uAO (j:=k) rfl rfl (fun hh=>hh) (fun hh=>hh) Tryz.underlying9 (by first|omega|(simp at hh ⊢; omega)) (fun hh=>by first|omega|(simp at hh ⊢; omega))) ?_;refine uAa rfl rfl rfl (uAm rfl rfl (fun hh=>hh) gU rfl) ?_;refine uAa rfl rfl rfl (uAL rfl rfl (fun hh=>hh) (fun hh hi=>gP hh hi)) ?_;refine uAa rfl rfl rfl (uAP rfl rfl gU (fun _ hi=>gP rfl hi)) ?_;refine uAf ?_;refine uAk (s:=⟨[(0,_,_),(3,_,_),(33,_,_)],[],[],[]⟩) (uAi (⟨sx rfl,sx rfl,sx rfl,trivial⟩) trivial trivial) ?_
 refine uAn rfl (fun hc=>?_) (fun hc=>?_)
 ·try simp only [nn] at hc
  rw[uBf (by omega),wdN,if_pos ((uJL _).2 (by omega))] at hi
  refine uAo ?_;refine uAr ?_;refine uAb ?_;refine uAa rfl rfl rfl (uAc rfl gU) ?_;refine uAa rfl rfl rfl (uAz rfl rfl gU gU rfl (IntWalk.i64_in _ (by omega))) ?_;refine uAa rfl rfl rfl (uAe rfl gU) ?_;refine uAf ?_;refine ⟨k + 1,?_,?_,uAi (⟨⟨_,rfl,?_⟩,⟨sx rfl,trivial⟩⟩) trivial trivial⟩
  all_goals (first|rfl|omega)
 ·try simp only [nn] at hc
  have hn : wdN (s.drop k)=0:=by
   by_cases hlt : k < s.length
   ·rw[uBf hlt,wdN,if_neg (fun q=>by have := (uJL _).1 q; omega)]
   ·rw[List.drop_of_length_le (by omega)]; rfl
  have hn2 : wdN s=k:=by omega
  rw[hn2]
  refine uAJ ?_
  repeat(first|refine uAC ?_|refine uAD ?_|refine uAB rfl ?_)
  refine uAd (uAb ?_);refine uAa rfl rfl rfl (uAc rfl gU) ?_;refine uAa rfl rfl rfl (uAc rfl gU) ?_;refine uAa rfl rfl rfl (uBG (h':=k) rfl gU Tryz.underlying9 (fun _=>rfl) (fun _=>⟨_,_,_,rfl,gU,by first|omega|(simp at hh ⊢; omega)⟩) (fun hh=>by first|omega|(simp at hh ⊢; omega)) (fun hh=>by first|omega|(simp at hh ⊢; omega))) ?_;refine uAa rfl rfl rfl (uAe rfl gU) ?_;refine uAf ?_;refine uAp ?_
  repeat(first|refine tR ?_|refine bR ?_)
  refine uAt rfl ?_ trivial
  rfl
theorem uNQ (s : List UInt8) (hs : s.length≤2000000) : Ctr sys 128 [xs s] [] (xs (uBb s)) none []:=by
 refine uAA Tryz.func128 rfl rfl rfl rfl rfl rfl ?_;refine uAd (uAb ?_);refine uAa rfl rfl rfl (uAe rfl gU) ?_;refine uAf ?_;refine uAd (uAb ?_);refine uAa rfl rfl rfl (uAe rfl gU) ?_;refine uAf ?_;refine uAd ?_;refine uAd (uAb ?_);refine uAa rfl rfl rfl (uAe rfl gU) ?_;refine uAf ?_;refine uAr ?_;refine uAW (ι:=Nat × Bool) { t:=[(0,_,_)],bx:=[],ow:=[] } (fun p=>[(4,true,xi (p.1 : Int)),(3,true,xb p.2)]) (fun p=>[]) (fun p=>p.1≤s.length + 1∧s.take (uCh p.2 (s.drop p.1) + p.1)=uBb s) (fun p=>s.length + 1 - p.1) ((0,false)) (⟨by simp,rfl⟩) (uAi (⟨sx rfl,sx rfl,sx rfl,trivial⟩) trivial trivial) ?_
 intro p hok
 dsimp only [List.cons_append,List.nil_append] at *
 obtain ⟨k,ins⟩:=p
 dsimp only at hok ⊢
 obtain ⟨hk,hi⟩:=hok
 refine uAd ?_;refine uAd (uAb ?_);refine uAa rfl rfl rfl (uAc rfl gU) ?_;refine uAa rfl rfl rfl (uAc rfl gU) ?_;refine uBU rfl rfl rfl rfl rfl gU (Tryz.underlying9) ?_ (fun hh=>by simp at hh); intro hlen;refine uAa rfl rfl rfl (uAm rfl rfl gU gU rfl) ?_;refine uAf ?_;refine uAn rfl (fun hc=>?_) (fun hc=>?_)
 ·try simp only [nn] at hc
  have hd : s.drop k=s.getD k 0 :: s.drop (k + 1):=uBf (by omega)
  refine uAo ?_;refine uAd ?_;refine uAr ?_;refine uAd ?_;refine uAd (uAb ?_);refine uAa rfl rfl rfl (uAc rfl gU) ?_;refine uAa rfl rfl rfl (uAc rfl gU) ?_;refine uAa rfl rfl rfl (uAc rfl gU) ?_;refine uAa rfl rfl rfl (uAc rfl gU) ?_;refine uAa rfl rfl rfl (uAO (j:=k) rfl rfl (fun hh=>hh) (fun hh=>hh) Tryz.underlying9 (by first|omega|(simp at hh ⊢; omega)) (fun hh=>by first|omega|(simp at hh ⊢; omega))) ?_;refine uAa rfl rfl rfl (uAm rfl rfl (fun hh=>hh) gU rfl) ?_;refine uAa rfl rfl rfl (uAP rfl rfl gU (fun _ hi=>gP rfl hi)) ?_;refine uAf ?_;refine uAk (s:=⟨[(0,_,_),(3,_,_),(4,_,_),(17,_,_)],[],[],[]⟩) (uAi (⟨sx rfl,sx rfl,sx rfl,sx rfl,trivial⟩) trivial trivial) ?_;refine uAn rfl (fun hc2=>?_) (fun hc2=>?_)
  ·try simp only [nn] at hc2
   have hq : ins=true∧(s.getD k 0).toNat=92:=⟨hc2.1,by omega⟩
   have hi2 : s.take (uCh true (s.drop (k + 2)) + (k + 2))=uBb s:=by
    rw[← hi,hd]
    by_cases hlt : k + 1 < s.length
    ·rw[uBf hlt,uCh,if_pos hq,show k + 1 + 1=k + 2 from rfl]
     congr 1; omega
    ·rw[List.drop_of_length_le (by omega),List.drop_of_length_le (by omega),uCh,uCh,List.take_of_length_le (by omega),List.take_of_length_le (by omega)]
   refine uAd (uAb ?_);refine uAa rfl rfl rfl (uAc rfl gU) ?_;refine uAa rfl rfl rfl (uAz rfl rfl gU gU rfl (IntWalk.i64_in _ (by omega))) ?_;refine uAa rfl rfl rfl (uAe rfl gU) ?_;refine uAf ?_;refine uAJ ?_
   repeat(first|refine uAC ?_|refine uAD ?_|refine uAB rfl ?_)
   refine uAb ?_;refine uAa rfl rfl rfl (uAc rfl gU) ?_;refine uAa rfl rfl rfl (uAz rfl rfl gU gU rfl (IntWalk.i64_in _ (by omega))) ?_;refine uAa rfl rfl rfl (uAe rfl gU) ?_;refine uAf ?_;refine ⟨(k + 2,true),?_,?_,uAi (⟨⟨_,rfl,?_⟩,⟨⟨_,rfl,?_⟩,⟨sx rfl,trivial⟩⟩⟩) trivial trivial⟩
   all_goals (first|rfl|omega|exact ⟨by omega,hi2⟩|exact tx (uCf hq.1))
  ·try simp only [nn] at hc2
   have hq : ¬(ins=true∧(s.getD k 0).toNat=92):=by
    rintro ⟨q1,q2⟩
    rcases hc2 with z | z
    ·rw[q1] at z; simp at z
    ·omega
   have hlast : k + 1=s.length → ∀ i2 : Bool,s.take (uCh i2 (s.drop (k + 1)) + (k + 1))=uBb s:=by
    intro e i2
    rw[← hi,hd,List.drop_of_length_le (by omega),List.take_of_length_le (by omega),uCh,List.take_of_length_le (by omega)]
   have hcut : k + 1 < s.length→(if (s.getD k 0).toNat=34 then !ins else ins)=false∧(s.getD k 0).toNat=35∧(s.getD (k + 1) 0).toNat=35→s.take k=uBb s:=by
    intro e q
    rw[← hi,hd,uBf e,uCh,if_neg hq,if_pos q,Nat.zero_add]
   have hnext : k + 1 < s.length → ¬((if (s.getD k 0).toNat=34 then !ins else ins)=false∧(s.getD k 0).toNat=35∧(s.getD (k + 1) 0).toNat=35)→s.take (uCh (if (s.getD k 0).toNat=34 then !ins else ins) (s.drop (k + 1)) + (k + 1))=uBb s:=by
    intro e q
    rw[← hi,hd,uBf e,uCh,if_neg hq,if_neg q]
    congr 1; omega
   have h35 : k + 1 < s.length→((s.take (k + 2)).drop k=[35,35] ↔ (s.getD k 0).toNat=35∧(s.getD (k + 1) 0).toNat=35):=by
    intro e
    have e1 : (s.take (k + 2)).drop k=[s.getD k 0,s.getD (k + 1) 0]:=by
     rw[uBf (by simp; omega),uBf (by simp; omega),List.drop_of_length_le (by simp; omega),uFT _ _ (by omega),uFT _ _ (by omega)]
    rw[e1]
    constructor
    ·intro q; simp only [List.cons.injEq,and_true] at q; rw[q.1,q.2]; exact ⟨rfl,rfl⟩
    ·rintro ⟨q1,q2⟩
     rw[UInt8.toNat_inj.1 (show (s.getD k 0).toNat=(35 : UInt8).toNat from q1),UInt8.toNat_inj.1 (show (s.getD (k + 1) 0).toNat=(35 : UInt8).toNat from q2)]
   refine uAo ?_;refine uAd ?_;refine uAd (uAb ?_);refine uAa rfl rfl rfl (uAc rfl gU) ?_;refine uAa rfl rfl rfl (uAc rfl gU) ?_;refine uAa rfl rfl rfl (uAO (j:=k) rfl rfl gU gU Tryz.underlying9 (by first|omega|(simp at hh ⊢; omega)) (fun hh=>by first|omega|(simp at hh ⊢; omega))) ?_;refine uAa rfl rfl rfl (uAm rfl rfl gU gU rfl) ?_;refine uAf ?_;refine uAn rfl (fun hc3=>?_) (fun hc3=>?_)
   ·try simp only [nn] at hc3
    rw[if_pos (by omega)] at hcut hnext
    refine uAb ?_;refine uAa rfl rfl rfl (uAc rfl gU) ?_;refine uAa rfl rfl rfl (uA0 rfl gU) ?_;refine uAa rfl rfl rfl (uAe rfl gU) ?_;refine uAf ?_;refine uAk (s:=⟨[(0,_,_),(3,_,_),(4,_,_)],[],[],[]⟩) (uAi (⟨sx rfl,sx rfl,sx rfl,trivial⟩) trivial trivial) ?_;refine uAd (uAb ?_);refine uAa rfl rfl rfl (uAc rfl gU) ?_;refine uAa rfl rfl rfl (uA0 rfl gU) ?_;refine uAa rfl rfl rfl (uAc rfl gU) ?_;refine uAa rfl rfl rfl (uAc rfl gU) ?_;refine uAa rfl rfl rfl (uAz rfl rfl (fun hh=>hh) gU rfl (IntWalk.i64_in _ (by omega))) ?_;refine uAa rfl rfl rfl (uAc rfl gU) ?_;refine uAa rfl rfl rfl (uCk rfl (fun hh=>hh) (Tryz.underlying9)) ?_;refine uAa rfl rfl rfl (uAm rfl rfl (fun hh=>hh) (fun hh=>hh) rfl) ?_;refine uAa rfl rfl rfl (uAP rfl rfl gU (fun _ hi=>gP rfl hi)) ?_;refine uAa rfl rfl rfl (uAc rfl gU) ?_;refine uAa rfl rfl rfl (uAc rfl gU) ?_;refine uAa rfl rfl rfl (uAc rfl gU) ?_;refine uBc (s:=⟨[(0,_,_),(3,_,_),(4,_,_),(35,_,_),(36,_,_),(37,_,_)],[],[],[]⟩) (uAi (⟨sx rfl,sx rfl,sx rfl,sx rfl,sx rfl,sx rfl,trivial⟩) trivial trivial) ?_;refine uAa rfl rfl rfl (uAc rfl gU) ?_;refine uAa rfl rfl rfl (uAz rfl rfl (fun hh=>hh) gU rfl (IntWalk.i64_in _ (by omega))) ?_;refine uAa rfl rfl rfl (uBG (l:=k) (h':=(k + 2)) rfl (fun hh=>hh) Tryz.underlying9 (fun _=>⟨_,_,_,rfl,(fun hh=>hh),by first|omega|(simp at hh ⊢; omega)⟩) (fun _=>⟨_,_,_,rfl,(fun hh=>hh),by first|omega|(simp at hh ⊢; omega)⟩) (fun hh=>by first|omega|(simp at hh ⊢; omega)) (fun hh=>by first|omega|(simp at hh ⊢; omega))) ?_
    refine uAa rfl rfl rfl (uA7 rfl rfl (fun hh=>hh) gU rfl) ?_;refine uAa rfl rfl rfl (uAP rfl rfl gU (fun _ hi=>gP rfl hi)) ?_;refine uAf ?_;refine uAk (s:=⟨[(0,_,_),(3,_,_),(4,_,_),(42,_,_)],[],[],[]⟩) (uAi (⟨sx rfl,sx rfl,sx rfl,sx rfl,trivial⟩) trivial trivial) ?_;refine uAn rfl (fun hc4=>?_) (fun hc4=>?_)
    ·try simp only [nn] at hc4
     exfalso
     have := (h35 (by omega)).1 hc4.2
     omega
    ·try simp only [nn] at hc4
     have hfin : s.take (uCh (!ins) (s.drop (k + 1)) + (k + 1))=uBb s:=by
      by_cases hlt : k + 1 < s.length
      ·exact hnext hlt (by omega)
      ·exact hlast (by omega) _
     refine uAo ?_;refine uAb ?_;refine uAa rfl rfl rfl (uAc rfl gU) ?_;refine uAa rfl rfl rfl (uAz rfl rfl gU gU rfl (IntWalk.i64_in _ (by omega))) ?_;refine uAa rfl rfl rfl (uAe rfl gU) ?_;refine uAf ?_;refine ⟨(k + 1,!ins),?_,?_,uAi (⟨⟨_,rfl,?_⟩,⟨⟨_,rfl,?_⟩,⟨sx rfl,trivial⟩⟩⟩) trivial trivial⟩
     all_goals (first|rfl|omega|exact ⟨by omega,hfin⟩)
   ·try simp only [nn] at hc3
    rw[if_neg (by omega)] at hcut hnext
    refine uAo ?_;refine uAd (uAb ?_);refine uAa rfl rfl rfl (uAc rfl gU) ?_;refine uAa rfl rfl rfl (uA0 rfl gU) ?_;refine uAa rfl rfl rfl (uAc rfl gU) ?_;refine uAa rfl rfl rfl (uAc rfl gU) ?_;refine uAa rfl rfl rfl (uAz rfl rfl (fun hh=>hh) gU rfl (IntWalk.i64_in _ (by omega))) ?_;refine uAa rfl rfl rfl (uAc rfl gU) ?_;refine uAa rfl rfl rfl (uCk rfl (fun hh=>hh) (Tryz.underlying9)) ?_;refine uAa rfl rfl rfl (uAm rfl rfl (fun hh=>hh) (fun hh=>hh) rfl) ?_;refine uBc (s:=⟨[(0,_,_),(3,_,_),(4,_,_),(28,_,_),(33,_,_)],[],[],[]⟩) (uAi (⟨sx rfl,sx rfl,sx rfl,sx rfl,sx rfl,trivial⟩) trivial trivial) ?_;refine uAa rfl rfl rfl (uAP rfl rfl gU (fun _ hi=>gP rfl hi)) ?_;refine uAa rfl rfl rfl (uAc rfl gU) ?_;refine uAa rfl rfl rfl (uAc rfl gU) ?_;refine uAa rfl rfl rfl (uAc rfl gU) ?_;refine uAa rfl rfl rfl (uAc rfl gU) ?_;refine uAa rfl rfl rfl (uAz rfl rfl (fun hh=>hh) gU rfl (IntWalk.i64_in _ (by omega))) ?_;refine uAa rfl rfl rfl (uBG (l:=k) (h':=(k + 2)) rfl (fun hh=>hh) Tryz.underlying9 (fun _=>⟨_,_,_,rfl,(fun hh=>hh),by first|omega|(simp at hh ⊢; omega)⟩) (fun _=>⟨_,_,_,rfl,(fun hh=>hh),by first|omega|(simp at hh ⊢; omega)⟩) (fun hh=>by first|omega|(simp at hh ⊢; omega)) (fun hh=>by first|omega|(simp at hh ⊢; omega))) ?_
    refine uAa rfl rfl rfl (uA7 rfl rfl (fun hh=>hh) gU rfl) ?_;refine uAa rfl rfl rfl (uAP rfl rfl gU (fun _ hi=>gP rfl hi)) ?_;refine uAf ?_;refine uAk (s:=⟨[(0,_,_),(3,_,_),(4,_,_),(42,_,_)],[],[],[]⟩) (uAi (⟨sx rfl,sx rfl,sx rfl,sx rfl,trivial⟩) trivial trivial) ?_;refine uAn rfl (fun hc4=>?_) (fun hc4=>?_)
    ·try simp only [nn] at hc4
     have := (h35 (by omega)).1 hc4.2
     have hfin:=hcut (by omega) ⟨hc4.1.1,this⟩
     refine uAd (uAb ?_);refine uAa rfl rfl rfl (uAc rfl gU) ?_;refine uAa rfl rfl rfl (uAc rfl gU) ?_;refine uAa rfl rfl rfl (uBG (h':=k) rfl gU Tryz.underlying9 (fun _=>rfl) (fun _=>⟨_,_,_,rfl,gU,by first|omega|(simp at hh ⊢; omega)⟩) (fun hh=>by first|omega|(simp at hh ⊢; omega)) (fun hh=>by first|omega|(simp at hh ⊢; omega))) ?_;refine uAa rfl rfl rfl (uAe rfl gU) ?_;refine uAf ?_;refine uAp ?_
     repeat(first|refine tR ?_|refine bR ?_)
     refine uAt rfl ?_ trivial
     (rw[← hfin]; rfl)
    ·try simp only [nn] at hc4
     have hfin : s.take (uCh ins (s.drop (k + 1)) + (k + 1))=uBb s:=by
      by_cases hlt : k + 1 < s.length
      ·refine hnext hlt ?_
       rintro ⟨q1,q2⟩
       have q3:=(h35 hlt).2 q2
       rcases hc4 with z | z
       ·rcases z with z | z
        ·rw[q1] at z; simp at z
        ·omega
       ·exact z q3
      ·exact hlast (by omega) _
     refine uAo ?_;refine uAb ?_;refine uAa rfl rfl rfl (uAc rfl gU) ?_;refine uAa rfl rfl rfl (uAz rfl rfl gU gU rfl (IntWalk.i64_in _ (by omega))) ?_;refine uAa rfl rfl rfl (uAe rfl gU) ?_;refine uAf ?_;refine ⟨(k + 1,ins),?_,?_,uAi (⟨⟨_,rfl,?_⟩,⟨⟨_,rfl,?_⟩,⟨sx rfl,trivial⟩⟩⟩) trivial trivial⟩
     all_goals (first|rfl|omega|exact ⟨by omega,hfin⟩)
 ·try simp only [nn] at hc
  rw[List.take_of_length_le (by omega)] at hi
  refine uAJ ?_
  repeat(first|refine uAC ?_|refine uAD ?_|refine uAB rfl ?_)
  refine uAd (uAb ?_);refine uAa rfl rfl rfl (uAc rfl gU) ?_;refine uAa rfl rfl rfl (uAe rfl gU) ?_;refine uAf ?_;refine uAp ?_
  repeat(first|refine tR ?_|refine bR ?_)
  refine uAt rfl ?_ trivial
  (rw[← hi]; rfl)
def uFu : List UInt8→Nat→UInt8→Int→Int
 | [],_,_,r=>r
 | b :: l,k,c,r=>uFu l (k + 1) c (if c.toNat=b.toNat then (k : Int) else r)
theorem uQR : ∀ n : Fin 256,uFu hexs 0 (UInt8.ofNat n.val) (-1)=if hexB (UInt8.ofNat n.val)=true then hexV (UInt8.ofNat n.val) else -1:=by decide +kernel
theorem uLq (c : UInt8) : uFu hexs 0 c (-1)=if hexB c=true then hexV c else -1:=by
 have := uQR ⟨c.toNat,c.toNat_lt⟩
 rwa [show UInt8.ofNat c.toNat=c from UInt8.ofNat_toNat] at this
def forms : List UInt8:=[110,10,116,9,34,34,92,92]
def uH0 : List UInt8→UInt8→Option UInt8
 | a :: b :: l,c=>if c.toNat=a.toNat then some b else uH0 l c
 | _,_=>none
theorem uPJ {a b : Int} {n m : Int} (h : a=b) (hn : n=m) : X.tup [.c (.i .u8 a), .c (.i .i64 n)]=X.tup [.c (.i .u8 b), .c (.i .i64 m)]:=by rw[h,hn]
theorem uKj (s : List UInt8) (hs : s.length≤2000000) : Ctr sys 164 [xs s] [] (.tup [.c (.i .u8 ((escE s).1.toNat : Int)), .c (.i .i64 ((escE s).2 : Int))]) none []:=by
 have h8 : forms.length=8:=rfl
 have h16 : hexs.length=16:=rfl
 refine uAA Tryz.func164 rfl rfl rfl rfl rfl rfl ?_;refine uAd (uAb ?_);refine uAa rfl rfl rfl (uAe rfl gU) ?_;refine uAa rfl rfl rfl (uAe rfl gU) ?_;refine uAf ?_;refine uAd ?_;refine uAd (uAb ?_);refine uAa rfl rfl rfl (uAc rfl gU) ?_;refine uBU rfl rfl rfl rfl rfl gU (Tryz.underlying9) ?_ (fun hh=>by simp at hh); intro hlen;refine uAa rfl rfl rfl (uAm rfl rfl gU gU rfl) ?_;refine uAf ?_;refine uAk (s:=⟨[(0,_,_),(12,_,_)],[],[],[]⟩) (uAi (⟨sx rfl,sx rfl,trivial⟩) trivial trivial) ?_;refine uAn rfl (fun hc=>?_) (fun hc=>?_)
 ·try simp only [nn] at hc
  have : s=[]:=by cases s; rfl; simp at hc; omega
  subst this
  refine uAd (uAb ?_);refine uAa rfl rfl rfl (uAe rfl gU) ?_;refine uAa rfl rfl rfl (uAe rfl gU) ?_;refine uAf ?_;refine uAp ?_
  repeat(first|refine tR ?_|refine bR ?_)
  refine uAt rfl ?_ trivial
  rfl
 ·try simp only [nn] at hc
  have he:=uP1 (s:=s) (k:=0) (by omega)
  rw[List.drop_zero,Nat.zero_add,Nat.zero_add] at he
  have hu:=(s.getD 0 0).toNat_lt
  refine uAo ?_;refine uAd (uAb ?_);refine uAa rfl rfl rfl (uAe rfl gU) ?_;refine uAf ?_;refine uAd ?_;refine uAd (uAb ?_);refine uAa rfl rfl rfl (uAe rfl gU) ?_;refine uAf ?_;refine uAr ?_;refine uAW (ι:=Nat) { t:=[(0,_,_),(4,_,_)],bx:=[],ow:=[] } (fun k=>[(5,true,xi (k : Int))]) (fun k=>[]) (fun k=>k≤8∧k % 2=0∧uH0 (forms.drop k) (s.getD 0 0)=uH0 forms (s.getD 0 0)) (fun k=>8 - k) (0) (⟨by omega,by omega,rfl⟩) (uAi (⟨sx rfl,sx rfl,sx rfl,trivial⟩) trivial trivial) ?_
  intro k hok
  dsimp only [List.cons_append,List.nil_append]
  obtain ⟨hk,hk2,hi⟩:=hok
  refine uAd ?_;refine uAd (uAb ?_);refine uAa rfl rfl rfl (uAc rfl gU) ?_;refine uAa rfl rfl rfl (uAc rfl gU) ?_;refine uBU rfl rfl rfl rfl rfl gU (Tryz.underlying9) ?_ (fun hh=>by simp at hh); intro hlen;refine uAa rfl rfl rfl (uAm rfl rfl gU gU rfl) ?_;refine uAf ?_;refine uAn rfl (fun hc2=>?_) (fun hc2=>?_)
  ·try simp only [nn] at hc2
   have hk3 : k < 7:=by simp at hc2; omega
   rw[uBf (by omega),uBf (by omega),uH0] at hi
   refine uAo ?_;refine uAd ?_;refine uAr ?_;refine uAd ?_;refine awp_drawn' (by kernel_rfl) ?_;refine uAw rfl rfl rfl rfl (uAc rfl gU) ?_;refine uAw rfl rfl rfl rfl (uAO (j:=0) rfl rfl gU gU Tryz.underlying9 (by first|omega|(show _ < 8; omega)|(simp at hh ⊢; omega)) (fun hh=>by first|omega|(show _ < 8; omega)|(simp at hh ⊢; omega))) ?_;refine uAw rfl rfl rfl rfl (uAc rfl gU) ?_;refine uAw rfl rfl rfl rfl (uAc rfl gU) ?_;refine uAw rfl rfl rfl rfl (uAO (j:=k) rfl rfl gU gU Tryz.underlying9 (by first|omega|(show _ < 8; omega)|(simp at hh ⊢; omega)) (fun hh=>by first|omega|(show _ < 8; omega)|(simp at hh ⊢; omega))) ?_;refine uAw rfl rfl rfl rfl (uAm rfl rfl gU gU rfl) ?_;refine uA5 (by kernel_rfl) ?_;refine uAk (s:=⟨[(0,_,_),(4,_,_),(5,_,_),(24,_,_)],[],[],[]⟩) (uAi (⟨sx rfl,sx rfl,sx rfl,sx rfl,trivial⟩) trivial trivial) ?_;refine uAn rfl (fun hc3=>?_) (fun hc3=>?_)
   ·try simp only [nn] at hc3
    have hq : (s.getD 0 0).toNat=(forms.getD k 0).toNat:=by have : ((s.getD 0 0).toNat : Int)=((forms.getD k 0).toNat : Int):=hc3; omega
    rw[if_pos hq] at hi
    have hesc : escE s=(forms.getD (k + 1) 0,1):=by
     have hks : k=0∨k=2∨k=4∨k=6:=by omega
     rw[he]
     rcases hks with rfl | rfl | rfl | rfl
     ·rw[if_pos (by rw[hq]; rfl)]; rfl
     ·rw[if_neg (by rw[hq]; decide),if_pos (by rw[hq]; rfl)]; rfl
     ·rw[if_neg (by rw[hq]; decide),if_neg (by rw[hq]; decide),if_pos (by rw[hq]; decide),UInt8.toNat_inj.1 hq]; rfl
     ·rw[if_neg (by rw[hq]; decide),if_neg (by rw[hq]; decide),if_pos (by rw[hq]; decide),UInt8.toNat_inj.1 hq]; rfl
    rw[hesc]
    refine uAd (uAb ?_);refine uAa rfl rfl rfl (uAc rfl gU) ?_;refine uAa rfl rfl rfl (uAc rfl gU) ?_;refine uAa rfl rfl rfl (uAz rfl rfl gU gU rfl (IntWalk.i64_in _ (by omega))) ?_;refine uAa rfl rfl rfl (uAO (j:=k + 1) rfl rfl gU gU Tryz.underlying9 (by first|omega|(show _ < 8; omega)|(simp at hh ⊢; omega)) (fun hh=>by first|omega|(show _ < 8; omega)|(simp at hh ⊢; omega))) ?_;refine uAa rfl rfl rfl (uAe rfl gU) ?_;refine uAa rfl rfl rfl (uAe rfl gU) ?_;refine uAf ?_;refine uAp ?_
    repeat(first|refine tR ?_|refine bR ?_)
    refine uAt rfl ?_ trivial
    rfl
   ·try simp only [nn] at hc3
    have hq : ¬(s.getD 0 0).toNat=(forms.getD k 0).toNat:=by intro q; exact hc3 (by show ((s.getD 0 0).toNat : Int)=((forms.getD k 0).toNat : Int); rw[q])
    rw[if_neg hq] at hi
    refine uAo ?_;refine uAb ?_;refine uAa rfl rfl rfl (uAc rfl gU) ?_;refine uAa rfl rfl rfl (uAz rfl rfl gU gU rfl (IntWalk.i64_in _ (by omega))) ?_;refine uAa rfl rfl rfl (uAe rfl gU) ?_;refine uAf ?_;refine ⟨k + 2,?_,?_,uAi (⟨⟨_,rfl,?_⟩,⟨sx rfl,sx rfl,trivial⟩⟩) trivial trivial⟩
    all_goals (first|rfl|omega|exact ⟨by omega,by omega,hi⟩)
  ·try simp only [nn] at hc2
   have hk3 : k=8:=by simp at hc2; omega
   rw[List.drop_of_length_le (by omega),show uH0 [] (s.getD 0 0)=none from rfl] at hi
   have hno : (s.getD 0 0).toNat≠110∧(s.getD 0 0).toNat≠116∧(s.getD 0 0).toNat≠34∧(s.getD 0 0).toNat≠92:=by
    have hf : ∀ c : UInt8,uH0 forms c=if c.toNat=110 then some 10 else if c.toNat=116 then some 9 else if c.toNat=34 then some 34 else if c.toNat=92 then some 92 else none:=fun c=>rfl
    rw[hf] at hi
    refine ⟨fun q=>?_,fun q=>?_,fun q=>?_,fun q=>?_⟩
    ·rw[if_pos q] at hi; cases hi
    ·rw[if_neg (by omega),if_pos q] at hi; cases hi
    ·rw[if_neg (by omega),if_neg (by omega),if_pos q] at hi; cases hi
    ·rw[if_neg (by omega),if_neg (by omega),if_neg (by omega),if_pos q] at hi; cases hi
   rw[if_neg hno.1,if_neg hno.2.1,if_neg (by omega)] at he
   refine uAJ ?_
   repeat(first|refine uAC ?_|refine uAD ?_|refine uAB rfl ?_)
   refine uAd (uAb ?_);refine uAa rfl rfl rfl (uAe rfl gU) ?_;refine uAf ?_;refine uAk (s:=⟨[(0,_,_),(6,_,_)],[],[],[]⟩) (uAi (⟨sx rfl,sx rfl,trivial⟩) trivial trivial) ?_;refine uAd ?_;refine uAd (uAb ?_);refine uAa rfl rfl rfl (uAc rfl gU) ?_;refine uAa rfl rfl rfl (uAO (j:=0) rfl rfl gU gU Tryz.underlying9 (by first|omega|(show _ < 16; omega)|(simp at hh ⊢; omega)) (fun hh=>by first|omega|(show _ < 16; omega)|(simp at hh ⊢; omega))) ?_;refine uAa rfl rfl rfl (uAm rfl rfl gU gU rfl) ?_;refine uAa rfl rfl rfl (uAc rfl gU) ?_;refine uAa rfl rfl rfl (uAc rfl gU) ?_;refine uAa rfl rfl rfl (uCk rfl (fun hh=>hh) (Tryz.underlying9)) ?_;refine uAa rfl rfl rfl (uAm rfl rfl (fun hh=>hh) gU rfl) ?_;refine uAa rfl rfl rfl (uAL rfl rfl gU (fun _ hi=>gP rfl hi)) ?_;refine uAf ?_;refine uAk (s:=⟨[(0,_,_),(6,_,_),(36,_,_)],[],[],[]⟩) (uAi (⟨sx rfl,sx rfl,sx rfl,trivial⟩) trivial trivial) ?_;refine uAn rfl (fun hc3=>?_) (fun hc3=>?_)
   ·try simp only [nn] at hc3
    rw[if_neg (by omega)] at he
    rw[he]
    refine uAd (uAb ?_);refine uAa rfl rfl rfl (uAe rfl gU) ?_;refine uAa rfl rfl rfl (uAe rfl gU) ?_;refine uAf ?_;refine uAp ?_
    repeat(first|refine tR ?_|refine bR ?_)
    refine uAt rfl ?_ trivial
    rfl
   ·try simp only [nn] at hc3
    refine uAo ?_;refine uAd (uAb ?_);refine uAa rfl rfl rfl (uAe rfl gU) ?_;refine uAa rfl rfl rfl (uAe rfl gU) ?_;refine uAf ?_;refine uAd ?_;refine uAd (uAb ?_);refine uAa rfl rfl rfl (uAe rfl gU) ?_;refine uAf ?_;refine uAr ?_;refine uAW (ι:=Nat × Int × Int) { t:=[(0,_,_),(6,_,_)],bx:=[],ow:=[] } (fun q=>[(9,true,xi (q.1 : Int)),(7,true,xi q.2.1),(8,true,xi q.2.2)]) (fun q=>[]) (fun q=>q.1≤16 ∧ -1≤q.2.1∧q.2.1≤16 ∧ -1≤q.2.2∧q.2.2≤16∧uFu (hexs.drop q.1) q.1 (s.getD 1 0) q.2.1=uFu hexs 0 (s.getD 1 0) (-1)∧uFu (hexs.drop q.1) q.1 (s.getD 2 0) q.2.2=uFu hexs 0 (s.getD 2 0) (-1)) (fun q=>16 - q.1) ((0,-1,-1)) (⟨by simp,by simp,by simp,by simp,by simp,rfl,rfl⟩) (uAi (⟨sx rfl,sx rfl,sx rfl,sx rfl,sx rfl,trivial⟩) trivial trivial) ?_
    intro q hok
    dsimp only [List.cons_append,List.nil_append] at *
    obtain ⟨j,a,b⟩:=q
    dsimp only at hok ⊢
    obtain ⟨hj,ha0,ha1,hb0,hb1,hi1,hi2⟩:=hok
    refine uAd ?_;refine uAd (uAb ?_);refine uAa rfl rfl rfl (uAc rfl gU) ?_;refine uAa rfl rfl rfl (uAc rfl gU) ?_;refine uBU rfl rfl rfl rfl rfl gU (Tryz.underlying9) ?_ (fun hh=>by simp at hh); intro hlen;refine uAa rfl rfl rfl (uAm rfl rfl gU gU rfl) ?_;refine uAf ?_;refine uAn rfl (fun hc4=>?_) (fun hc4=>?_)
    ·try simp only [nn] at hc4
     have hj2 : j < 16:=by simp at hc4; omega
     rw[uBf (by omega),uFu] at hi1 hi2
     refine uAo ?_;refine uAd ?_;refine uAr ?_;refine uAd ?_;refine uAd ?_;refine awp_drawn' (by kernel_rfl) ?_;refine uAw rfl rfl rfl rfl (uAc rfl gU) ?_;refine uAw rfl rfl rfl rfl (uAO (j:=1) rfl rfl gU gU Tryz.underlying9 (by first|omega|(show _ < 16; omega)|(simp at hh ⊢; omega)) (fun hh=>by first|omega|(show _ < 16; omega)|(simp at hh ⊢; omega))) ?_;refine uAw rfl rfl rfl rfl (uAc rfl gU) ?_;refine uAw rfl rfl rfl rfl (uAc rfl gU) ?_;refine uAw rfl rfl rfl rfl (uAO (j:=j) rfl rfl gU gU Tryz.underlying9 (by first|omega|(show _ < 16; omega)|(simp at hh ⊢; omega)) (fun hh=>by first|omega|(show _ < 16; omega)|(simp at hh ⊢; omega))) ?_;refine uAw rfl rfl rfl rfl (uAm rfl rfl gU gU rfl) ?_;refine uA5 (by kernel_rfl) ?_;refine uAk (s:=⟨[(0,_,_),(6,_,_),(7,_,_),(8,_,_),(9,_,_),(48,_,_)],[],[],[]⟩) (uAi (⟨sx rfl,sx rfl,sx rfl,sx rfl,sx rfl,sx rfl,trivial⟩) trivial trivial) ?_;refine uAn rfl (fun hc5=>?_) (fun hc5=>?_)
     ·try simp only [nn] at hc5
      rw[if_pos (by have : ((s.getD 1 0).toNat : Int)=((hexs.getD j 0).toNat : Int):=hc5; omega)] at hi1
      refine uAb ?_;refine uAa rfl rfl rfl (uAc rfl gU) ?_;refine uAa rfl rfl rfl (uAe rfl gU) ?_;refine uAf ?_;refine uAd ?_;refine awp_drawn' (by kernel_rfl) ?_;refine uAw rfl rfl rfl rfl (uAc rfl gU) ?_;refine uAw rfl rfl rfl rfl (uAO (j:=2) rfl rfl gU gU Tryz.underlying9 (by first|omega|(show _ < 16; omega)|(simp at hh ⊢; omega)) (fun hh=>by first|omega|(show _ < 16; omega)|(simp at hh ⊢; omega))) ?_;refine uAw rfl rfl rfl rfl (uAc rfl gU) ?_;refine uAw rfl rfl rfl rfl (uAc rfl gU) ?_;refine uAw rfl rfl rfl rfl (uAO (j:=j) rfl rfl gU gU Tryz.underlying9 (by first|omega|(show _ < 16; omega)|(simp at hh ⊢; omega)) (fun hh=>by first|omega|(show _ < 16; omega)|(simp at hh ⊢; omega))) ?_;refine uAw rfl rfl rfl rfl (uAm rfl rfl gU gU rfl) ?_;refine uA5 (by kernel_rfl) ?_;refine uAk (s:=⟨[(0,_,_),(6,_,_),(7,_,_),(8,_,_),(9,_,_),(55,_,_)],[],[],[]⟩) (uAi (⟨sx rfl,sx rfl,sx rfl,sx rfl,sx rfl,sx rfl,trivial⟩) trivial trivial) ?_;refine uAn rfl (fun hc6=>?_) (fun hc6=>?_)
      ·try simp only [nn] at hc6
       rw[if_pos (by have : ((s.getD 2 0).toNat : Int)=((hexs.getD j 0).toNat : Int):=hc6; omega)] at hi2
       refine uAb ?_;refine uAa rfl rfl rfl (uAc rfl gU) ?_;refine uAa rfl rfl rfl (uAe rfl gU) ?_;refine uAf ?_;refine uAb ?_;refine uAa rfl rfl rfl (uAc rfl gU) ?_;refine uAa rfl rfl rfl (uAz rfl rfl gU gU rfl (IntWalk.i64_in _ (by omega))) ?_;refine uAa rfl rfl rfl (uAe rfl gU) ?_;refine uAf ?_;refine ⟨(j + 1,(j : Int),(j : Int)),?_,?_,uAi (⟨⟨_,rfl,?_⟩,⟨⟨_,rfl,?_⟩,⟨⟨_,rfl,?_⟩,⟨sx rfl,sx rfl,trivial⟩⟩⟩⟩) trivial trivial⟩
       all_goals (first|rfl|omega|(refine ⟨?_,?_,?_,?_,?_,hi1,hi2⟩ <;> (dsimp only; omega)))
      ·try simp only [nn] at hc6
       rw[if_neg (by intro q; exact hc6 (by show ((s.getD 2 0).toNat : Int)=((hexs.getD j 0).toNat : Int); rw[q]))] at hi2
       refine uAo ?_;refine uAb ?_;refine uAa rfl rfl rfl (uAc rfl gU) ?_;refine uAa rfl rfl rfl (uAz rfl rfl gU gU rfl (IntWalk.i64_in _ (by omega))) ?_;refine uAa rfl rfl rfl (uAe rfl gU) ?_;refine uAf ?_;refine ⟨(j + 1,(j : Int),b),?_,?_,uAi (⟨⟨_,rfl,?_⟩,⟨⟨_,rfl,?_⟩,⟨⟨_,rfl,?_⟩,⟨sx rfl,sx rfl,trivial⟩⟩⟩⟩) trivial trivial⟩
       all_goals (first|rfl|omega|(refine ⟨?_,?_,?_,?_,?_,hi1,hi2⟩ <;> (dsimp only; omega)))
     ·try simp only [nn] at hc5
      rw[if_neg (by intro q; exact hc5 (by show ((s.getD 1 0).toNat : Int)=((hexs.getD j 0).toNat : Int); rw[q]))] at hi1
      refine uAo ?_;refine uAd ?_;refine awp_drawn' (by kernel_rfl) ?_;refine uAw rfl rfl rfl rfl (uAc rfl gU) ?_;refine uAw rfl rfl rfl rfl (uAO (j:=2) rfl rfl gU gU Tryz.underlying9 (by first|omega|(show _ < 16; omega)|(simp at hh ⊢; omega)) (fun hh=>by first|omega|(show _ < 16; omega)|(simp at hh ⊢; omega))) ?_;refine uAw rfl rfl rfl rfl (uAc rfl gU) ?_;refine uAw rfl rfl rfl rfl (uAc rfl gU) ?_;refine uAw rfl rfl rfl rfl (uAO (j:=j) rfl rfl gU gU Tryz.underlying9 (by first|omega|(show _ < 16; omega)|(simp at hh ⊢; omega)) (fun hh=>by first|omega|(show _ < 16; omega)|(simp at hh ⊢; omega))) ?_;refine uAw rfl rfl rfl rfl (uAm rfl rfl gU gU rfl) ?_;refine uA5 (by kernel_rfl) ?_;refine uAk (s:=⟨[(0,_,_),(6,_,_),(7,_,_),(8,_,_),(9,_,_),(55,_,_)],[],[],[]⟩) (uAi (⟨sx rfl,sx rfl,sx rfl,sx rfl,sx rfl,sx rfl,trivial⟩) trivial trivial) ?_;refine uAn rfl (fun hc6=>?_) (fun hc6=>?_)
      ·try simp only [nn] at hc6
       rw[if_pos (by have : ((s.getD 2 0).toNat : Int)=((hexs.getD j 0).toNat : Int):=hc6; omega)] at hi2
       refine uAb ?_;refine uAa rfl rfl rfl (uAc rfl gU) ?_;refine uAa rfl rfl rfl (uAe rfl gU) ?_;refine uAf ?_;refine uAb ?_;refine uAa rfl rfl rfl (uAc rfl gU) ?_;refine uAa rfl rfl rfl (uAz rfl rfl gU gU rfl (IntWalk.i64_in _ (by omega))) ?_;refine uAa rfl rfl rfl (uAe rfl gU) ?_;refine uAf ?_;refine ⟨(j + 1,a,(j : Int)),?_,?_,uAi (⟨⟨_,rfl,?_⟩,⟨⟨_,rfl,?_⟩,⟨⟨_,rfl,?_⟩,⟨sx rfl,sx rfl,trivial⟩⟩⟩⟩) trivial trivial⟩
       all_goals (first|rfl|omega|(refine ⟨?_,?_,?_,?_,?_,hi1,hi2⟩ <;> (dsimp only; omega)))
      ·try simp only [nn] at hc6
       rw[if_neg (by intro q; exact hc6 (by show ((s.getD 2 0).toNat : Int)=((hexs.getD j 0).toNat : Int); rw[q]))] at hi2
       refine uAo ?_;refine uAb ?_;refine uAa rfl rfl rfl (uAc rfl gU) ?_;refine uAa rfl rfl rfl (uAz rfl rfl gU gU rfl (IntWalk.i64_in _ (by omega))) ?_;refine uAa rfl rfl rfl (uAe rfl gU) ?_;refine uAf ?_;refine ⟨(j + 1,a,b),?_,?_,uAi (⟨⟨_,rfl,?_⟩,⟨⟨_,rfl,?_⟩,⟨⟨_,rfl,?_⟩,⟨sx rfl,sx rfl,trivial⟩⟩⟩⟩) trivial trivial⟩
       all_goals (first|rfl|omega|(refine ⟨?_,?_,?_,?_,?_,hi1,hi2⟩ <;> (dsimp only; omega)))
    ·try simp only [nn] at hc4
     have hj2 : j=16:=by simp at hc4; omega
     rw[List.drop_of_length_le (by omega),uFu,uLq] at hi1 hi2
     refine uAJ ?_
     repeat(first|refine uAC ?_|refine uAD ?_|refine uAB rfl ?_)
     refine uAd ?_;refine uAd (uAb ?_);refine uAa rfl rfl rfl (uAc rfl gU) ?_;refine uAa rfl rfl rfl (uAm rfl rfl gU gU rfl) ?_;refine uAa rfl rfl rfl (uAc rfl gU) ?_;refine uAa rfl rfl rfl (uAc rfl gU) ?_;refine uAa rfl rfl rfl (uAm rfl rfl (fun hh=>hh) gU rfl) ?_;refine uAa rfl rfl rfl (uAL rfl rfl gU (fun _ hi=>gP rfl hi)) ?_;refine uAf ?_;refine uAk (s:=⟨[(7,_,_),(8,_,_),(62,_,_)],[],[],[]⟩) (uAi (⟨sx rfl,sx rfl,sx rfl,trivial⟩) trivial trivial) ?_;refine uAn rfl (fun hc5=>?_) (fun hc5=>?_)
     ·try simp only [nn] at hc5
      rw[if_neg (by
       rintro ⟨-, -, q1,q2⟩
       have := uGk q1
       have := uGk q2
       rw[if_pos q1] at hi1
       rw[if_pos q2] at hi2
       omega)] at he
      rw[he]
      refine uAd (uAb ?_);refine uAa rfl rfl rfl (uAe rfl gU) ?_;refine uAa rfl rfl rfl (uAe rfl gU) ?_;refine uAf ?_;refine uAp ?_
      repeat(first|refine tR ?_|refine bR ?_)
      refine uAt rfl ?_ trivial
      rfl
     ·try simp only [nn] at hc5
      have x1 : hexB (s.getD 1 0)=true:=by
       by_cases q : hexB (s.getD 1 0)=true
       ·exact q
       ·rw[if_neg q] at hi1; omega
      have x2 : hexB (s.getD 2 0)=true:=by
       by_cases q : hexB (s.getD 2 0)=true
       ·exact q
       ·rw[if_neg q] at hi2; omega
      have x3:=uGk x1
      have x4:=uGk x2
      rw[if_pos x1] at hi1
      rw[if_pos x2] at hi2
      rw[if_pos ⟨by omega,by omega,x1,x2⟩] at he
      rw[he]
      refine uAo ?_;refine uAd (uAb ?_);refine uAa rfl rfl rfl (uAc rfl gU) ?_;refine uAa rfl rfl rfl (uAz rfl rfl gU gU rfl (IntWalk.i64_in _ (by omega))) ?_;refine uAa rfl rfl rfl (uAc rfl gU) ?_;refine uAa rfl rfl rfl (uAz rfl rfl gU gU rfl (IntWalk.i64_in _ (by omega))) ?_;refine uAa rfl rfl rfl (uFH rfl gU ⟨_,Tryz.underlying3⟩ (Tryz.underlying5) (IntWalk.u8_in _ (by omega))) ?_;refine uAa rfl rfl rfl (uAe rfl gU) ?_;refine uAa rfl rfl rfl (uAe rfl gU) ?_;refine uAf ?_;refine uAp ?_
      repeat(first|refine tR ?_|refine bR ?_)
      refine uAt rfl ?_ trivial
      (refine uPJ ?_ rfl; exact uQt (by omega) (by omega))
theorem uMR (s : List UInt8) (k : Nat) (hs : s.length≤2000000) : Ctr sys 164 [xs ((s.take s.length).drop k)] [] (.tup [.c (.i .u8 ((escE (s.drop k)).1.toNat : Int)), .c (.i .i64 ((escE (s.drop k)).2 : Int))]) none []:=by
 rw[List.take_length]
 exact uKj _ (by simp; omega)
theorem uMS (s : List UInt8) (h : 0 < s.length) (hs : s.length≤2000000) : Ctr sys 151 [xs s] [] (xsn (litE s)) none []:=by
 refine uAA Tryz.func151 rfl rfl rfl rfl rfl rfl ?_;refine uAd (uAb ?_);refine uAa rfl rfl rfl (uAe rfl gU) ?_;refine uAa rfl rfl rfl (uAe rfl gU) ?_;refine uAf ?_;refine uAd (uAb ?_);refine uAq rfl (uBd (.inr rfl) rfl rfl) ?_;refine uAf ?_;refine uAd ?_;refine uAd (uAb ?_);refine uAa rfl rfl rfl (uAe rfl gU) ?_;refine uAf ?_;refine uAr ?_;refine uAW (ι:=Nat × List UInt8) { t:=[(0,_,_)],bx:=[],ow:=[(.t 4,_)] } (fun p=>[(5,true,xi (p.1 : Int)),(4,true,xbs p.2)]) (fun p=>[]) (fun p=>p.1≤s.length∧p.2.length≤p.1 ∧ ∃ n,s.length < n + p.1∧litA n (s.drop p.1) p.1 p.2=litE s) (fun p=>s.length - p.1) ((1,[])) (⟨by dsimp only; omega,by simp,s.length + 1,by dsimp only; omega,rfl⟩) (uAi (⟨sx rfl,sx rfl,sx rfl,trivial⟩) trivial (⟨rfl,trivial⟩)) ?_
 intro p hok
 dsimp only [List.cons_append,List.nil_append] at *
 obtain ⟨k,out⟩:=p
 dsimp only at hok ⊢
 obtain ⟨hk,ho,n,hn,hi⟩:=hok
 obtain ⟨n,rfl⟩ : ∃ m,n=m + 1:=⟨n - 1,by omega⟩
 have hu:=(s.getD k 0).toNat_lt
 refine uAd ?_;refine uAd (uAb ?_);refine uAa rfl rfl rfl (uAc rfl gU) ?_;refine uAa rfl rfl rfl (uAc rfl gU) ?_;refine uBU rfl rfl rfl rfl rfl gU (Tryz.underlying9) ?_ (fun hh=>by simp at hh); intro hlen;refine uAa rfl rfl rfl (uAm rfl rfl gU gU rfl) ?_;refine uAf ?_;refine uAn rfl (fun hc=>?_) (fun hc=>?_)
 ·try simp only [nn] at hc
  rw[uNm (by omega)] at hi
  have hle:=uIM (s.drop (k + 1))
  rw[List.length_drop] at hle
  refine uAo ?_;refine uAd ?_;refine uAr ?_;refine uAr ?_;refine uAd (uAb ?_);refine uAa rfl rfl rfl (uAc rfl gU) ?_;refine uAa rfl rfl rfl (uAc rfl gU) ?_;refine uAa rfl rfl rfl (uAO (j:=k) rfl rfl gU gU Tryz.underlying9 (by first|omega|(simp at hh ⊢; omega)) (fun hh=>by first|omega|(simp at hh ⊢; omega))) ?_;refine uAa rfl rfl rfl (uAm rfl rfl gU gU rfl) ?_;refine uAa rfl rfl rfl (uAe rfl gU) ?_;refine uAf ?_;refine uAk (s:=⟨[(0,_,_),(4,_,_),(5,_,_),(20,_,_)],[],[(.t 4,_)],[]⟩) (uAi (⟨sx rfl,sx rfl,sx rfl,sx rfl,trivial⟩) trivial (⟨rfl,trivial⟩)) ?_;refine uAn rfl (fun hc2=>?_) (fun hc2=>?_)
  ·try simp only [nn] at hc2
   rw[if_pos (by omega)] at hi
   refine uAd (uAb ?_);refine uAa rfl rfl rfl (uAc rfl gU) ?_;refine uAa rfl rfl rfl (uHM (l:=out) rfl (by rfl) gU Tryz.underlying163 Tryz.underlying5 Tryz.underlying9) ?_;refine uAa rfl rfl rfl (uAc rfl gU) ?_;refine uAa rfl rfl rfl (uAz rfl rfl gU gU rfl (IntWalk.i64_in _ (by omega))) ?_;refine uAa rfl rfl rfl (uAe rfl gU) ?_;refine uAa rfl rfl rfl (uAe rfl gU) ?_;refine uAf ?_;refine uAp ?_
   repeat(first|refine tR ?_|refine bR ?_)
   refine uAt rfl ?_ trivial
   (rw[← hi]; rfl)
  ·try simp only [nn] at hc2
   rw[if_neg (by omega)] at hi
   refine uAd (uAb ?_);refine uAa rfl rfl rfl (uAc rfl gU) ?_;refine uAa rfl rfl rfl (uAc rfl gU) ?_;refine uAa rfl rfl rfl (uAO (j:=k) rfl rfl gU gU Tryz.underlying9 (by first|omega|(simp at hh ⊢; omega)) (fun hh=>by first|omega|(simp at hh ⊢; omega))) ?_;refine uAa rfl rfl rfl (uAm rfl rfl gU gU rfl) ?_;refine uAa rfl rfl rfl (uAe rfl gU) ?_;refine uAf ?_;refine uAk (s:=⟨[(0,_,_),(4,_,_),(5,_,_),(29,_,_)],[],[(.t 4,_)],[]⟩) (uAi (⟨sx rfl,sx rfl,sx rfl,sx rfl,trivial⟩) trivial (⟨rfl,trivial⟩)) ?_;refine uAn rfl (fun hc3=>?_) (fun hc3=>?_)
   ·try simp only [nn] at hc3
    rw[if_pos (by omega)] at hi
    refine uAd (uAb ?_);refine uAa rfl rfl rfl (uAc rfl gU) ?_;refine uAa rfl rfl rfl (uAc rfl gU) ?_;refine uAa rfl rfl rfl (uAz rfl rfl gU gU rfl (IntWalk.i64_in _ (by omega))) ?_;refine uAa rfl rfl rfl (uBG (l:=(k + 1)) rfl gU Tryz.underlying9 (fun _=>⟨_,_,_,rfl,gU,by first|omega|(simp at hh ⊢; omega)⟩) (fun _=>rfl) (fun hh=>by first|omega|(simp at hh ⊢; omega)) (fun hh=>by first|omega|(simp at hh ⊢; omega))) ?_;refine uAu rfl rfl rfl rfl rfl rfl gU gU (uMR s (k + 1) (by omega)) rfl ?_;refine uAa rfl rfl rfl (uAc rfl gU) ?_;refine uAa rfl rfl rfl (uAs rfl gU rfl) ?_;refine uAa rfl rfl rfl (uAs rfl gU rfl) ?_;refine uAa rfl rfl rfl (uAe rfl gU) ?_;refine uAa rfl rfl rfl (uAe rfl gU) ?_;refine uAf ?_;refine uAk (s:=⟨[(0,_,_),(4,_,_),(5,_,_),(6,_,_),(7,_,_)],[],[(.t 4,_)],[]⟩) (uAi (⟨sx rfl,sx rfl,sx rfl,sx rfl,sx rfl,trivial⟩) trivial (⟨rfl,trivial⟩)) ?_;refine uAd ?_;refine uAd (uAb ?_);refine uAa rfl rfl rfl (uAc rfl gU) ?_;refine uAa rfl rfl rfl (uAm rfl rfl gU gU rfl) ?_;refine uAf ?_;refine uAn rfl (fun hc4=>?_) (fun hc4=>?_)
    ·try simp only [nn] at hc4
     rw[if_pos (by omega)] at hi
     refine uAd (uAb ?_);refine uAa rfl rfl rfl (uAe rfl gU) ?_;refine uAa rfl rfl rfl (uAe rfl gU) ?_;refine uAf ?_;refine uAp ?_
     repeat(first|refine tR ?_|refine bR ?_)
     refine uAt rfl ?_ trivial
     (rw[← hi]; rfl)
    ·try simp only [nn] at hc4
     rw[if_neg (by omega)] at hi
     refine uAo ?_;refine uAd (uAb ?_);refine uAq rfl (uAM (.inl rfl) rfl rfl rfl) ?_;refine uAa rfl rfl rfl (uAc rfl gU) ?_;refine uAN (xs:=[_]) rfl rfl rfl rfl rfl rfl rfl rfl rfl gU rfl ?_;refine uAq rfl (uAX rfl rfl rfl rfl rfl rfl rfl (by first|omega|(simp only [List.length_append,List.length_singleton,uCS,uAj]; omega)) (by first|omega|(simp only [List.length_append,List.length_singleton,uCS,uAj]; omega))) ?_;refine uAq rfl (uAM (.inr rfl) rfl rfl rfl) ?_;refine uAf ?_;refine uAk (s:=⟨[(0,_,_),(4,_,_),(5,_,_),(7,_,_)],[],[(.t 4,_)],[]⟩) (uAi (⟨sx rfl,sx rfl,sx rfl,sx rfl,trivial⟩) trivial (⟨rfl,trivial⟩)) ?_;refine uAb ?_;refine uAa rfl rfl rfl (uAc rfl gU) ?_;refine uAa rfl rfl rfl (uAc rfl gU) ?_;refine uAa rfl rfl rfl (uAz rfl rfl gU gU rfl (IntWalk.i64_in _ (by omega))) ?_;refine uAa rfl rfl rfl (uAe rfl gU) ?_;refine uAf ?_;refine uAb ?_;refine uAa rfl rfl rfl (uAc rfl gU) ?_;refine uAa rfl rfl rfl (uAz rfl rfl gU gU rfl (IntWalk.i64_in _ (by omega))) ?_;refine uAa rfl rfl rfl (uAe rfl gU) ?_;refine uAf ?_;refine ⟨(k + 1 + (escE (s.drop (k + 1))).2,out++[(escE (s.drop (k + 1))).1]),?_,?_,uAi (⟨⟨_,rfl,?_⟩,⟨⟨_,rfl,?_⟩,⟨sx rfl,trivial⟩⟩⟩) trivial (⟨rfl,trivial⟩)⟩
     all_goals (first|rfl|omega|exact tx (uKv out (escE (s.drop (k + 1))).1 _ rfl)|exact tx (uBa (by omega))|(refine ⟨?_,?_,n,?_,hi⟩ <;> (simp only [List.length_append,List.length_singleton]; omega)))
   ·try simp only [nn] at hc3
    rw[if_neg (by omega)] at hi
    refine uAd (uAb ?_);refine uAa rfl rfl rfl (uAc rfl gU) ?_;refine uAa rfl rfl rfl (uAc rfl gU) ?_;refine uAa rfl rfl rfl (uAO (j:=k) rfl rfl gU gU Tryz.underlying9 (by first|omega|(simp at hh ⊢; omega)) (fun hh=>by first|omega|(simp at hh ⊢; omega))) ?_;refine uAa rfl rfl rfl (uAm rfl rfl gU gU rfl) ?_;refine uAa rfl rfl rfl (uAc rfl gU) ?_;refine uAa rfl rfl rfl (uAc rfl gU) ?_;refine uAa rfl rfl rfl (uAc rfl gU) ?_;refine uAa rfl rfl rfl (uAO (j:=k) rfl rfl (fun hh=>hh) (fun hh=>hh) Tryz.underlying9 (by first|omega|(simp at hh ⊢; omega)) (fun hh=>by first|omega|(simp at hh ⊢; omega))) ?_;refine uAa rfl rfl rfl (uAm rfl rfl (fun hh=>hh) gU rfl) ?_;refine uAa rfl rfl rfl (uAL rfl rfl gU (fun _ hi=>gP rfl hi)) ?_;refine uAa rfl rfl rfl (uAe rfl gU) ?_;refine uAf ?_;refine uAk (s:=⟨[(0,_,_),(4,_,_),(5,_,_),(51,_,_)],[],[(.t 4,_)],[]⟩) (uAi (⟨sx rfl,sx rfl,sx rfl,sx rfl,trivial⟩) trivial (⟨rfl,trivial⟩)) ?_;refine uAn rfl (fun hc4=>?_) (fun hc4=>?_)
    ·try simp only [nn] at hc4
     rw[if_pos (by omega)] at hi
     refine uAd (uAb ?_);refine uAa rfl rfl rfl (uAe rfl gU) ?_;refine uAa rfl rfl rfl (uAe rfl gU) ?_;refine uAf ?_;refine uAp ?_
     repeat(first|refine tR ?_|refine bR ?_)
     refine uAt rfl ?_ trivial
     (rw[← hi]; rfl)
    ·try simp only [nn] at hc4
     rw[if_neg (by omega)] at hi
     refine uAb ?_;refine uAq rfl (uAM (.inl rfl) rfl rfl rfl) ?_;refine uAa rfl rfl rfl (uAc rfl gU) ?_;refine uAa rfl rfl rfl (uAc rfl gU) ?_;refine uAa rfl rfl rfl (uAO (j:=k) rfl rfl gU gU Tryz.underlying9 (by first|omega|(simp at hh ⊢; omega)) (fun hh=>by first|omega|(simp at hh ⊢; omega))) ?_;refine uAN (xs:=[_]) rfl rfl rfl rfl rfl rfl rfl rfl rfl gU rfl ?_;refine uAq rfl (uAX rfl rfl rfl rfl rfl rfl rfl (by first|omega|(simp only [List.length_append,List.length_singleton,uCS,uAj]; omega)) (by first|omega|(simp only [List.length_append,List.length_singleton,uCS,uAj]; omega))) ?_;refine uAq rfl (uAM (.inr rfl) rfl rfl rfl) ?_;refine uAf ?_;refine uAk (s:=⟨[(0,_,_),(4,_,_),(5,_,_)],[],[(.t 4,_)],[]⟩) (uAi (⟨sx rfl,sx rfl,sx rfl,trivial⟩) trivial (⟨rfl,trivial⟩)) ?_;refine uAb ?_;refine uAa rfl rfl rfl (uAc rfl gU) ?_;refine uAa rfl rfl rfl (uAz rfl rfl gU gU rfl (IntWalk.i64_in _ (by omega))) ?_;refine uAa rfl rfl rfl (uAe rfl gU) ?_;refine uAf ?_;refine ⟨(k + 1,out++[s.getD k 0]),?_,?_,uAi (⟨⟨_,rfl,?_⟩,⟨⟨_,rfl,?_⟩,⟨sx rfl,trivial⟩⟩⟩) trivial (⟨rfl,trivial⟩)⟩
     all_goals (first|rfl|omega|exact tx (uKv out (s.getD k 0) _ rfl)|(refine ⟨?_,?_,n,?_,hi⟩ <;> (simp only [List.length_append,List.length_singleton]; omega)))
 ·try simp only [nn] at hc
  rw[uOg (List.drop_of_length_le (by omega))] at hi
  refine uAJ ?_
  repeat(first|refine uAC ?_|refine uAD ?_|refine uAB rfl ?_)
  refine uAd (uAb ?_);refine uAa rfl rfl rfl (uAe rfl gU) ?_;refine uAa rfl rfl rfl (uAe rfl gU) ?_;refine uAf ?_;refine uAp ?_
  repeat(first|refine tR ?_|refine bR ?_)
  refine uAt rfl ?_ trivial
  (rw[← hi]; rfl)
abbrev xnum (s : List UInt8) (r : Bool × Nat × Int) : X:=.tup [.c (.s (s.take r.2.1)), .c (.i .i64 r.2.2), .c (.b r.1)]
theorem uIS (s : List UInt8) (hs : s.length≤2000000) : Ctr sys 150 [xs s] [] (xnum s (numA s 0 0)) none []:=by
 refine uAA Tryz.func150 rfl rfl rfl rfl rfl rfl ?_;refine uAd (uAb ?_);refine uAa rfl rfl rfl (uAe rfl gU) ?_;refine uAa rfl rfl rfl (uAe rfl gU) ?_;refine uAa rfl rfl rfl (uAe rfl gU) ?_;refine uAf ?_;refine uAd (uAb ?_);refine uAa rfl rfl rfl (uAe rfl gU) ?_;refine uAa rfl rfl rfl (uAe rfl gU) ?_;refine uAf ?_;refine uAk (s:=⟨[(0,_,_),(5,_,_),(6,_,_)],[],[],[]⟩) (uAi (⟨sx rfl,sx rfl,sx rfl,trivial⟩) trivial trivial) ?_;refine uAd ?_;refine uAr ?_;refine uAW (ι:=Nat × Int) { t:=[(0,_,_)],bx:=[],ow:=[] } (fun p=>[(5,true,xi (p.1 : Int)),(6,true,xi p.2)]) (fun p=>[]) (fun p=>p.1≤s.length∧0≤p.2∧p.2≤9223372036854775807∧numA (s.drop p.1) p.1 p.2=numA s 0 0) (fun p=>s.length - p.1) ((0,0)) (⟨by simp,by simp,by simp,rfl⟩) (uAi (⟨sx rfl,sx rfl,sx rfl,trivial⟩) trivial trivial) ?_
 intro p hok
 dsimp only [List.cons_append,List.nil_append] at *
 obtain ⟨k,v⟩:=p
 dsimp only at hok ⊢
 obtain ⟨hk,hv0,hv1,hi⟩:=hok
 refine uAd ?_;refine uAd (uAb ?_);refine uAa rfl rfl rfl (uAc rfl gU) ?_;refine uAa rfl rfl rfl (uAc rfl gU) ?_;refine uBU rfl rfl rfl rfl rfl gU (Tryz.underlying9) ?_ (fun hh=>by simp at hh); intro hlen;refine uAa rfl rfl rfl (uAm rfl rfl gU gU rfl) ?_;refine uAa rfl rfl rfl (uAc rfl gU) ?_;refine uAa rfl rfl rfl (uAc rfl gU) ?_;refine uAa rfl rfl rfl (uAc rfl gU) ?_;refine uAa rfl rfl rfl (uAO (j:=k) rfl rfl (fun hh=>hh) (fun hh=>hh) Tryz.underlying9 (by first|omega|(simp at hh ⊢; omega)) (fun hh=>by first|omega|(simp at hh ⊢; omega))) ?_;refine uAu rfl rfl rfl rfl rfl rfl gU (fun hh=>gA ((fun hh=>hh) hh) (rfl)) (uDs _ _ rfl) rfl ?_;refine uAa rfl rfl rfl (uAm rfl rfl (fun hh=>hh) gU rfl) ?_;refine uAa rfl rfl rfl (uAP rfl rfl gU (fun _ hi=>gP rfl hi)) ?_;refine uAf ?_;refine uAk (s:=⟨[(0,_,_),(5,_,_),(6,_,_),(18,_,_)],[],[],[]⟩) (uAi (⟨sx rfl,sx rfl,sx rfl,sx rfl,trivial⟩) trivial trivial) ?_;refine uAn rfl (fun hc=>?_) (fun hc=>?_)
 ·try simp only [nn,uAj,Tk.rows_len] at hc
  have hd:=(uEb (s.getD k 0)).2.1.1 hc.2
  have hd2:=uMM hd
  rw[uBf (by omega),numA,if_pos hd] at hi
  refine uAo ?_;refine uAr ?_;refine uAd (uAb ?_);refine uAa rfl rfl rfl (uAc rfl gU) ?_;refine uAa rfl rfl rfl (uAc rfl gU) ?_;refine uAa rfl rfl rfl (uAO (j:=k) rfl rfl gU gU Tryz.underlying9 (by first|omega|(simp at hh ⊢; omega)) (fun hh=>by first|omega|(simp at hh ⊢; omega))) ?_;refine uAa rfl rfl rfl (uAz rfl rfl gU gU rfl (IntWalk.u8_in _ (by omega))) ?_;refine uAa rfl rfl rfl (uFH rfl gU ⟨_,Tryz.underlying5⟩ (Tryz.underlying2) (IntWalk.i64_in _ (by omega))) ?_;refine uAa rfl rfl rfl (uAe rfl gU) ?_;refine uAf ?_;refine uAk (s:=⟨[(0,_,_),(5,_,_),(6,_,_),(7,_,_)],[],[],[]⟩) (uAi (⟨sx rfl,sx rfl,sx rfl,sx rfl,trivial⟩) trivial trivial) ?_;refine uAd ?_;refine uAd (uAb ?_);refine uAa rfl rfl rfl (uAc rfl gU) ?_;refine uAa rfl rfl rfl (uAc rfl gU) ?_;refine uAa rfl rfl rfl (uAz rfl rfl gU gU rfl (IntWalk.i64_in _ (by omega))) ?_;refine uAa rfl rfl rfl (uNe rfl rfl gU gU (fun hh=>by first|omega|(simp at hh ⊢; omega)) (fun hh=>(congrArg IntKind.i64.wrap (Int.tdiv_eq_ediv_of_nonneg (by first|omega|(simp at hh ⊢; omega)))).trans (IntWalk.i64_in _ (by omega)))) ?_;refine uAa rfl rfl rfl (uAm rfl rfl gU gU rfl) ?_;refine uAf ?_;refine uAk (s:=⟨[(0,_,_),(5,_,_),(6,_,_),(7,_,_),(28,_,_)],[],[],[]⟩) (uAi (⟨sx rfl,sx rfl,sx rfl,sx rfl,sx rfl,trivial⟩) trivial trivial) ?_
  refine uAn rfl (fun hc2=>?_) (fun hc2=>?_)
  ·try simp only [nn,uAj,Tk.rows_len] at hc2
   rw[if_pos (by omega)] at hi
   refine uAd (uAb ?_);refine uAa rfl rfl rfl (uAe rfl gU) ?_;refine uAa rfl rfl rfl (uAe rfl gU) ?_;refine uAa rfl rfl rfl (uAe rfl gU) ?_;refine uAf ?_;refine uAp ?_
   repeat(first|refine tR ?_|refine bR ?_)
   refine uAt rfl ?_ trivial
   (rw[← hi]; rfl)
  ·try simp only [nn,uAj,Tk.rows_len] at hc2
   rw[if_neg (by omega)] at hi
   refine uAo ?_;refine uAd (uAb ?_);refine uAa rfl rfl rfl (uAc rfl gU) ?_;refine uAa rfl rfl rfl (uAz rfl rfl gU gU rfl (IntWalk.i64_in _ (by omega))) ?_;refine uAa rfl rfl rfl (uAc rfl gU) ?_;refine uAa rfl rfl rfl (uAz rfl rfl gU gU rfl (IntWalk.i64_in _ (by omega))) ?_;refine uAa rfl rfl rfl (uAe rfl gU) ?_;refine uAf ?_;refine uAk (s:=⟨[(0,_,_),(5,_,_),(6,_,_)],[],[],[]⟩) (uAi (⟨sx rfl,sx rfl,sx rfl,trivial⟩) trivial trivial) ?_;refine uAb ?_;refine uAa rfl rfl rfl (uAc rfl gU) ?_;refine uAa rfl rfl rfl (uAz rfl rfl gU gU rfl (IntWalk.i64_in _ (by omega))) ?_;refine uAa rfl rfl rfl (uAe rfl gU) ?_;refine uAf ?_;refine ⟨(k + 1,10 * v + (((s.getD k 0).toNat : Int) - 48)),?_,?_,uAi (⟨⟨_,rfl,?_⟩,⟨⟨_,rfl,?_⟩,⟨sx rfl,trivial⟩⟩⟩) trivial trivial⟩
   all_goals (first|rfl|omega|exact ⟨by omega,by omega,by omega,hi⟩)
 ·try simp only [nn,uAj,Tk.rows_len] at hc
  have hn : numA (s.drop k) k v=(true,k,v):=by
   by_cases hlt : k < s.length
   ·rw[uBf hlt,numA,if_neg]
    intro q
    have := (uEb (s.getD k 0)).2.1.2 q
    omega
   ·rw[List.drop_of_length_le (by omega)]; rfl
  rw[hn] at hi
  refine uAJ ?_
  repeat(first|refine uAC ?_|refine uAD ?_|refine uAB rfl ?_)
  refine uAd (uAb ?_);refine uAa rfl rfl rfl (uAc rfl gU) ?_;refine uAa rfl rfl rfl (uAc rfl gU) ?_;refine uAa rfl rfl rfl (uBG (h':=k) rfl gU Tryz.underlying9 (fun _=>rfl) (fun _=>⟨_,_,_,rfl,gU,by first|omega|(simp at hh ⊢; omega)⟩) (fun hh=>by first|omega|(simp at hh ⊢; omega)) (fun hh=>by first|omega|(simp at hh ⊢; omega))) ?_;refine uAa rfl rfl rfl (uAc rfl gU) ?_;refine uAa rfl rfl rfl (uAe rfl gU) ?_;refine uAa rfl rfl rfl (uAe rfl gU) ?_;refine uAa rfl rfl rfl (uAe rfl gU) ?_;refine uAf ?_;refine uAp ?_
  repeat(first|refine tR ?_|refine bR ?_)
  refine uAt rfl ?_ trivial
  (rw[← hi]; rfl)
theorem uP4 (c : UInt8) : (uBg (c.toNat : Int)=true→clsE c=2)∧(uBD (c.toNat : Int)=true→clsE c=3)∧(c.toNat=34→clsE c=5)∧(uBg (c.toNat : Int)≠true→uBD (c.toNat : Int)≠true→c.toNat≠34→(symB c=true→clsE c=4∨clsE c=1)∧(symB c≠true→clsE c=0∨clsE c=1)):=by
 refine ⟨(uEb c).1.2,(uEb c).2.1.2,fun h=>?_,fun h1 h2 h3=>⟨fun h4=>?_,fun h4=>?_⟩⟩
 ·unfold clsE
  rw[if_neg (by simp [uCs]; omega),if_neg (by simp [uBg]; omega),if_neg (by simp [uBD]; omega),if_pos h]
 ·unfold clsE
  rw[if_neg h1,if_neg h2,if_neg h3,if_pos h4]
  split <;> simp
 ·unfold clsE
  rw[if_neg h1,if_neg h2,if_neg h3,if_neg h4]
  split <;> simp
theorem uQa {t u : Tk} {a b e : Int} (h : t=u) (h2 : a=b) : X.tup [.agg t.cells, .c (.i .i64 a), .c (.i .i64 e)]=X.tup [.agg u.cells, .c (.i .i64 b), .c (.i .i64 e)]:=by rw[h,h2]
theorem uLn (s : List UInt8) (k ki : Int) (h : 0 < s.length) (hs : s.length≤2000000) (hk : ki=k) (hw : clsE (s.getD 0 0)≠1) : Ctr sys 130 [xs s,xi ki] [] (xnx (uBF s k)) none []:=by
 subst hk
 have h1:=uLy s
 have h2 : (s.take (wdN s)).length=wdN s:=by rw[List.length_take]; omega
 have h3:=uMy s h
 have h4:=uGv s 0 0 (by omega)
 have h5 : (s.take (numA s 0 0).2.1).length=(numA s 0 0).2.1:=by rw[List.length_take]; omega
 obtain ⟨c1,c2,c3,c4⟩:=uP4 (s.getD 0 0)
 obtain ⟨d1,d2,-⟩:=uEb (s.getD 0 0)
 refine uAA Tryz.func130 rfl rfl rfl rfl rfl rfl ?_;refine uAd (uAb ?_);refine uAq rfl (uAG rfl rfl rfl) ?_;refine uAa rfl rfl rfl (uAe rfl gU) ?_;refine uAa rfl rfl rfl (uAe rfl gU) ?_;refine uAf ?_;refine uAd ?_;refine uAd (uAb ?_);refine uAa rfl rfl rfl (uAc rfl gU) ?_;refine uAa rfl rfl rfl (uAO (j:=0) rfl rfl gU gU Tryz.underlying9 (by first|omega|(simp at hh ⊢; omega)) (fun hh=>by first|omega|(simp at hh ⊢; omega))) ?_;refine uAu rfl rfl rfl rfl rfl rfl gU gU (uDs _ _ rfl) rfl ?_;refine uAf ?_;refine uAk (s:=⟨[(0,_,_),(1,_,_),(4,_,_),(15,_,_)],[(.l 4,_)],[],[]⟩) (uAi (⟨sx rfl,sx rfl,sx rfl,sx rfl,trivial⟩) (⟨sx rfl,trivial⟩) trivial) ?_;refine uAr ?_;refine uAd (uAb ?_);refine uAa rfl rfl rfl (uAm rfl rfl gU gU rfl) ?_;refine uAa rfl rfl rfl (uAe rfl gU) ?_;refine uAf ?_;refine uAn rfl (fun hc=>?_) (fun hc=>?_)
 ·try simp only [nn,uAj,Tk.rows_len] at hc
  rw[uBF,if_pos (d1.1 hc)]
  refine uAd (uAb ?_);refine uAa rfl rfl rfl (uAc rfl gU) ?_;refine uAu rfl rfl rfl rfl rfl rfl gU gU (uNu _ (by omega)) rfl ?_;refine uAa rfl rfl rfl (uAe rfl gU) ?_;refine uAf ?_;refine uAk (s:=⟨[(1,_,_),(4,_,_),(7,_,_)],[(.l 4,_)],[],[]⟩) (uAi (⟨sx rfl,sx rfl,sx rfl,trivial⟩) (⟨sx rfl,trivial⟩) trivial) ?_;refine uAd ?_;refine uAd (uAb ?_);refine uAa rfl rfl rfl (uAc rfl gU) ?_;refine uBU rfl rfl rfl rfl rfl gU (Tryz.underlying9) ?_ (fun hh=>by simp at hh); intro hlen;refine uAa rfl rfl rfl (uAm rfl rfl gU gU rfl) ?_;refine uAf ?_;refine uAn rfl (fun hc2=>?_) (fun hc2=>?_)
  ·try simp only [nn,uAj,Tk.rows_len] at hc2
   refine uAd (uAb ?_);refine uAa rfl rfl rfl (uAS rfl Tryz.underlying134 rfl gU) ?_;refine uAq rfl (uAy rfl rfl rfl rfl rfl rfl rfl) ?_;refine uAa rfl rfl rfl (uAe rfl gU) ?_;refine uAa rfl rfl rfl (uAe rfl gU) ?_;refine uAf ?_;refine uAp ?_
   repeat(first|refine tR ?_|refine bR ?_)
   refine uAt rfl ?_ trivial
   (rw[if_pos (by omega)]; rfl)
  ·try simp only [nn,uAj,Tk.rows_len] at hc2
   refine uAo ?_;refine uAd (uAb ?_);refine uAa rfl rfl rfl (uAc rfl gU) ?_;refine uAa rfl rfl rfl (uAc rfl gU) ?_;refine uAa rfl rfl rfl (uAS rfl Tryz.underlying134 rfl gU) ?_;refine uAa rfl rfl rfl (uAc rfl gU) ?_;refine uBU rfl rfl rfl rfl rfl gU (Tryz.underlying9) ?_ (fun hh=>by simp at hh); intro hlen;refine uAq rfl (uAy rfl rfl rfl rfl rfl rfl rfl) ?_;refine uAa rfl rfl rfl (uAe rfl gU) ?_;refine uAa rfl rfl rfl (uAe rfl gU) ?_;refine uAf ?_;refine uAp ?_
   repeat(first|refine tR ?_|refine bR ?_)
   refine uAt rfl ?_ trivial
   (rw[if_neg (by omega)]; exact uQa (t:=⟨1,s.take (wdN s),0,[],ki⟩) (u:=⟨1,s.take (wdN s),0,[],ki⟩) rfl (by dsimp only; omega))
 ·try simp only [nn,uAj,Tk.rows_len] at hc
  have e1 : ¬uBg ((s.getD 0 0).toNat : Int)=true:=fun q=>hc (c1 q)
  rw[uBF,if_neg e1]
  refine uAd (uAb ?_);refine uAa rfl rfl rfl (uAm rfl rfl gU gU rfl) ?_;refine uAa rfl rfl rfl (uAe rfl gU) ?_;refine uAf ?_;refine uAn rfl (fun hc2=>?_) (fun hc2=>?_)
  ·try simp only [nn,uAj,Tk.rows_len] at hc2
   rw[if_pos (d2.1 hc2)]
   refine uAd (uAb ?_);refine uAa rfl rfl rfl (uAc rfl gU) ?_;refine uAu rfl rfl rfl rfl rfl rfl gU gU (uIS _ (by omega)) rfl ?_;refine uAa rfl rfl rfl (uAc rfl gU) ?_;refine uAa rfl rfl rfl (uAs rfl gU rfl) ?_;refine uAa rfl rfl rfl (uAs rfl gU rfl) ?_;refine uAa rfl rfl rfl (uAs rfl gU rfl) ?_;refine uAa rfl rfl rfl (uAe rfl gU) ?_;refine uAa rfl rfl rfl (uAe rfl gU) ?_;refine uBc (s:=⟨[(1,_,_),(4,_,_),(8,_,_),(9,_,_),(36,_,_)],[(.l 4,_)],[],[]⟩) (uAi (⟨sx rfl,sx rfl,sx rfl,sx rfl,sx rfl,trivial⟩) (⟨sx rfl,trivial⟩) trivial) ?_;refine uAa rfl rfl rfl (uAe rfl gU) ?_;refine uAf ?_;refine uAd ?_;refine uAd (uAb ?_);refine uAa rfl rfl rfl (uAc rfl gU) ?_;refine uAa rfl rfl rfl (uA0 rfl gU) ?_;refine uAf ?_;refine uAn rfl (fun hc3=>?_) (fun hc3=>?_)
   ·try simp only [nn,uAj,Tk.rows_len] at hc3
    refine uAd (uAb ?_);refine uAa rfl rfl rfl (uAS rfl Tryz.underlying134 rfl gU) ?_;refine uAq rfl (uAy rfl rfl rfl rfl rfl rfl rfl) ?_;refine uAa rfl rfl rfl (uAe rfl gU) ?_;refine uAa rfl rfl rfl (uAe rfl gU) ?_;refine uAf ?_;refine uAp ?_
    repeat(first|refine tR ?_|refine bR ?_)
    refine uAt rfl ?_ trivial
    (rw[if_neg (by rw[hc3]; exact Bool.false_ne_true)]; rfl)
   ·try simp only [nn,uAj,Tk.rows_len] at hc3
    refine uAo ?_;refine uAd (uAb ?_);refine uAa rfl rfl rfl (uAc rfl gU) ?_;refine uAa rfl rfl rfl (uAc rfl gU) ?_;refine uAa rfl rfl rfl (uAS rfl Tryz.underlying134 rfl gU) ?_;refine uAa rfl rfl rfl (uAc rfl gU) ?_;refine uBU rfl rfl rfl rfl rfl gU (Tryz.underlying9) ?_ (fun hh=>by simp at hh); intro hlen;refine uAq rfl (uAy rfl rfl rfl rfl rfl rfl rfl) ?_;refine uAa rfl rfl rfl (uAe rfl gU) ?_;refine uAa rfl rfl rfl (uAe rfl gU) ?_;refine uAf ?_;refine uAp ?_
    repeat(first|refine tR ?_|refine bR ?_)
    refine uAt rfl ?_ trivial
    (rw[if_pos hc3]; exact uQa (t:=⟨2,[],(numA s 0 0).2.2,[],ki⟩) (u:=⟨2,[],(numA s 0 0).2.2,[],ki⟩) rfl (by dsimp only; omega))
  ·try simp only [nn,uAj,Tk.rows_len] at hc2
   have e2 : ¬uBD ((s.getD 0 0).toNat : Int)=true:=fun q=>hc2 (c2 q)
   rw[if_neg e2]
   refine uAd (uAb ?_);refine uAa rfl rfl rfl (uAm rfl rfl gU gU rfl) ?_;refine uAa rfl rfl rfl (uAe rfl gU) ?_;refine uAf ?_;refine uAk (s:=⟨[(0,_,_),(1,_,_),(4,_,_),(15,_,_),(45,_,_)],[(.l 4,_)],[],[]⟩) (uAi (⟨sx rfl,sx rfl,sx rfl,sx rfl,sx rfl,trivial⟩) (⟨sx rfl,trivial⟩) trivial) ?_;refine uAn rfl (fun hc3=>?_) (fun hc3=>?_)
   ·try simp only [nn,uAj,Tk.rows_len] at hc3
    have e3 : (s.getD 0 0).toNat=34:=by
     by_cases q : (s.getD 0 0).toNat=34
     ·exact q
     ·have := c4 e1 e2 q
      by_cases q2 : symB (s.getD 0 0)=true
      ·have := this.1 q2; omega
      ·have := this.2 q2; omega
    rw[if_pos e3]
    refine uAd (uAb ?_);refine uAa rfl rfl rfl (uAc rfl gU) ?_;refine uAu rfl rfl rfl rfl rfl rfl gU gU (uMS _ (by omega) (by omega)) rfl ?_;refine uAa rfl rfl rfl (uAc rfl gU) ?_;refine uAa rfl rfl rfl (uAs rfl gU rfl) ?_;refine uAa rfl rfl rfl (uAs rfl gU rfl) ?_;refine uAa rfl rfl rfl (uAe rfl gU) ?_;refine uAa rfl rfl rfl (uAe rfl gU) ?_;refine uAf ?_;refine uAk (s:=⟨[(1,_,_),(4,_,_),(11,_,_),(12,_,_)],[(.l 4,_)],[],[]⟩) (uAi (⟨sx rfl,sx rfl,sx rfl,sx rfl,trivial⟩) (⟨sx rfl,trivial⟩) trivial) ?_;refine uAd (uAb ?_);refine uAa rfl rfl rfl (uAc rfl gU) ?_;refine uAa rfl rfl rfl (uAm rfl rfl gU gU rfl) ?_;refine uAf ?_;refine uAn rfl (fun hc4=>?_) (fun hc4=>?_)
    ·try simp only [nn,uAj,Tk.rows_len] at hc4
     refine uAd (uAb ?_);refine uAa rfl rfl rfl (uAc rfl gU) ?_;refine uAa rfl rfl rfl (uAc rfl gU) ?_;refine uAa rfl rfl rfl (uAS rfl Tryz.underlying134 rfl gU) ?_;refine uAa rfl rfl rfl (uAc rfl gU) ?_;refine uAq rfl (uAy rfl rfl rfl rfl rfl rfl rfl) ?_;refine uAa rfl rfl rfl (uAe rfl gU) ?_;refine uAa rfl rfl rfl (uAe rfl gU) ?_;refine uAf ?_;refine uAp ?_
     repeat(first|refine tR ?_|refine bR ?_)
     refine uAt rfl ?_ trivial
     (rw[if_neg (by omega)]; rfl)
    ·try simp only [nn,uAj,Tk.rows_len] at hc4
     refine uAo ?_;refine uAd (uAb ?_);refine uAa rfl rfl rfl (uAS rfl Tryz.underlying134 rfl gU) ?_;refine uAq rfl (uAy rfl rfl rfl rfl rfl rfl rfl) ?_;refine uAa rfl rfl rfl (uAe rfl gU) ?_;refine uAa rfl rfl rfl (uAe rfl gU) ?_;refine uAf ?_;refine uAp ?_
     repeat(first|refine tR ?_|refine bR ?_)
     refine uAt rfl ?_ trivial
     (rw[if_pos (by omega)]; rfl)
   ·try simp only [nn,uAj,Tk.rows_len] at hc3
    have e3 : ¬(s.getD 0 0).toNat=34:=fun q=>hc3 (c3 q)
    rw[if_neg e3]
    refine uAd (uAb ?_);refine uAa rfl rfl rfl (uAm rfl rfl gU gU rfl) ?_;refine uAa rfl rfl rfl (uAe rfl gU) ?_;refine uAf ?_;refine uAn rfl (fun hc4=>?_) (fun hc4=>?_)
    ·try simp only [nn,uAj,Tk.rows_len] at hc4
     have e4 : symB (s.getD 0 0)=true:=by
      by_cases q2 : symB (s.getD 0 0)=true
      ·exact q2
      ·have := (c4 e1 e2 e3).2 q2; omega
     refine uAd (uAb ?_);refine uAa rfl rfl rfl (uAc rfl gU) ?_;refine uAa rfl rfl rfl (uBG (h':=1) rfl gU Tryz.underlying9 (fun _=>rfl) (fun _=>⟨_,_,_,rfl,gU,by first|omega|(simp at hh ⊢; omega)⟩) (fun hh=>by first|omega|(simp at hh ⊢; omega)) (fun hh=>by first|omega|(simp at hh ⊢; omega))) ?_;refine uAa rfl rfl rfl (uAc rfl gU) ?_;refine uAa rfl rfl rfl (uAS rfl Tryz.underlying134 rfl gU) ?_;refine uAq rfl (uAy rfl rfl rfl rfl rfl rfl rfl) ?_;refine uAa rfl rfl rfl (uAe rfl gU) ?_;refine uAa rfl rfl rfl (uAe rfl gU) ?_;refine uAf ?_;refine uAp ?_
     repeat(first|refine tR ?_|refine bR ?_)
     refine uAt rfl ?_ trivial
     (rw[if_pos e4]; rfl)
    ·try simp only [nn,uAj,Tk.rows_len] at hc4
     have e4 : ¬symB (s.getD 0 0)=true:=by
      intro q2
      have := (c4 e1 e2 e3).1 q2
      omega
     refine uAo ?_;refine uAd (uAb ?_);refine uAa rfl rfl rfl (uAS rfl Tryz.underlying134 rfl gU) ?_;refine uAq rfl (uAy rfl rfl rfl rfl rfl rfl rfl) ?_;refine uAa rfl rfl rfl (uAe rfl gU) ?_;refine uAa rfl rfl rfl (uAe rfl gU) ?_;refine uAf ?_;refine uAp ?_
     repeat(first|refine tR ?_|refine bR ?_)
     refine uAt rfl ?_ trivial
     (rw[if_neg e4]; rfl)
theorem uJG (s : List UInt8) (hs : s.length≤2000000) : Ctr sys 127 [xs s] [] (xss (lnsR s)) none []:=by
 refine uAA Tryz.func127 rfl rfl rfl rfl rfl rfl ?_;refine uAd (uAb ?_);refine uAq rfl (uBd (.inr rfl) rfl rfl) ?_;refine uAf ?_;refine uAd (uAb ?_);refine uAq rfl (uBd (.inr rfl) rfl rfl) ?_;refine uAf ?_;refine uAd (uAb ?_);refine uAa rfl rfl rfl (uAe rfl gU) ?_;refine uAf ?_;refine uAd ?_;refine uAd (uAb ?_);refine uAa rfl rfl rfl (uAe rfl gU) ?_;refine uAf ?_;refine uAr ?_;refine uAW (ι:=Nat × List UInt8 × List (List UInt8)) { t:=[(0,_,_)],bx:=[],ow:=[(.t 3,_)] } (fun p=>[(5,true,xi (p.1 : Int)),(4,true,xs p.2.1),(3,true,xss p.2.2)]) (fun p=>[]) (fun p=>p.1≤s.length∧p.2.1.length≤p.1∧p.2.2.length≤p.1∧lnsA (s.drop p.1) p.2.1 p.2.2=lnsR s) (fun p=>s.length - p.1) ((0,[],[])) (⟨by simp,by simp,by simp,rfl⟩) (uAi (⟨sx rfl,sx rfl,sx rfl,sx rfl,trivial⟩) trivial (⟨rfl,trivial⟩)) ?_
 intro p hok
 dsimp only [List.cons_append,List.nil_append] at *
 obtain ⟨k,line,out⟩:=p
 dsimp only at hok ⊢
 obtain ⟨hk,hl,ho,hi⟩:=hok
 refine uAd ?_;refine uAd (uAb ?_);refine uAa rfl rfl rfl (uAc rfl gU) ?_;refine uAa rfl rfl rfl (uAc rfl gU) ?_;refine uBU rfl rfl rfl rfl rfl gU (Tryz.underlying9) ?_ (fun hh=>by simp at hh); intro hlen;refine uAa rfl rfl rfl (uAm rfl rfl gU gU rfl) ?_;refine uAf ?_;refine uAn rfl (fun hc=>?_) (fun hc=>?_)
 ·try simp only [nn,uAj,Tk.rows_len] at hc
  rw[uBf (by omega),lnsA] at hi
  refine uAo ?_;refine uAd ?_;refine uAr ?_;refine uAd ?_;refine uAd (uAb ?_);refine uAa rfl rfl rfl (uAc rfl gU) ?_;refine uAa rfl rfl rfl (uAc rfl gU) ?_;refine uAa rfl rfl rfl (uAO (j:=k) rfl rfl gU gU Tryz.underlying9 (by first|omega|(simp at hh ⊢; omega)) (fun hh=>by first|omega|(simp at hh ⊢; omega))) ?_;refine uAa rfl rfl rfl (uAm rfl rfl gU gU rfl) ?_;refine uAf ?_;refine uAk (s:=⟨[(0,_,_),(3,_,_),(4,_,_),(5,_,_),(15,_,_)],[],[(.t 3,_)],[]⟩) (uAi (⟨sx rfl,sx rfl,sx rfl,sx rfl,sx rfl,trivial⟩) trivial (⟨rfl,trivial⟩)) ?_;refine uAn rfl (fun hc2=>?_) (fun hc2=>?_)
  ·try simp only [nn,uAj,Tk.rows_len] at hc2
   rw[if_pos (by omega)] at hi
   refine uAd (uAb ?_);refine uAq rfl (uAM (.inl rfl) rfl rfl rfl) ?_;refine uAa rfl rfl rfl (uAc rfl gU) ?_;refine uAN (xs:=[_]) rfl rfl rfl rfl rfl rfl rfl rfl rfl gU rfl ?_;refine uAq rfl (uAX rfl rfl rfl rfl rfl rfl rfl (by first|omega|(simp only [List.length_append,List.length_singleton,Tk.rows_len,uAj]; omega)) (by first|omega|(simp only [List.length_append,List.length_singleton,Tk.rows_len,uAj]; omega))) ?_;refine uAq rfl (uAM (.inr rfl) rfl rfl rfl) ?_;refine uAf ?_;refine uAk (s:=⟨[(0,_,_),(3,_,_),(5,_,_)],[],[(.t 3,_)],[]⟩) (uAi (⟨sx rfl,sx rfl,sx rfl,trivial⟩) trivial (⟨rfl,trivial⟩)) ?_;refine uAd (uAb ?_);refine uAa rfl rfl rfl (uAe rfl gU) ?_;refine uAf ?_;refine uAJ ?_
   repeat(first|refine uAC ?_|refine uAD ?_|refine uAB rfl ?_)
   refine uAb ?_;refine uAa rfl rfl rfl (uAc rfl gU) ?_;refine uAa rfl rfl rfl (uAz rfl rfl gU gU rfl (IntWalk.i64_in _ (by omega))) ?_;refine uAa rfl rfl rfl (uAe rfl gU) ?_;refine uAf ?_;refine ⟨(k + 1,[],out++[line]),?_,?_,uAi (⟨⟨_,rfl,?_⟩,⟨⟨_,rfl,?_⟩,⟨⟨_,rfl,?_⟩,⟨sx rfl,trivial⟩⟩⟩⟩) trivial (⟨rfl,trivial⟩)⟩
   all_goals (first|rfl|omega|exact tx (uGC out line)|(refine ⟨?_,?_,?_,hi⟩ <;> (simp <;> omega)))
  ·try simp only [nn,uAj,Tk.rows_len] at hc2
   rw[if_neg (by omega)] at hi
   have e1 : (s.take (k + 1)).drop k=[s.getD k 0]:=by
    rw[uBf (by simp; omega),List.drop_of_length_le (by simp; omega),uFT _ _ (by omega)]
   refine uAo ?_;refine uAb ?_;refine uAa rfl rfl rfl (uAc rfl gU) ?_;refine uAa rfl rfl rfl (uAc rfl gU) ?_;refine uAa rfl rfl rfl (uAc rfl gU) ?_;refine uAa rfl rfl rfl (uAc rfl gU) ?_;refine uAa rfl rfl rfl (uAz rfl rfl gU gU rfl (IntWalk.i64_in _ (by omega))) ?_;refine uAa rfl rfl rfl (uBG (l:=k) (h':=(k + 1)) rfl gU Tryz.underlying9 (fun _=>⟨_,_,_,rfl,gU,by first|omega|(simp at hh ⊢; omega)⟩) (fun _=>⟨_,_,_,rfl,gU,by first|omega|(simp at hh ⊢; omega)⟩) (fun hh=>by first|omega|(simp at hh ⊢; omega)) (fun hh=>by first|omega|(simp at hh ⊢; omega))) ?_;refine uAa rfl rfl rfl (uEB rfl rfl gU gU (by first|omega|(simp only [List.length_append,List.length_drop,List.length_take]; omega))) ?_;refine uAa rfl rfl rfl (uAe rfl gU) ?_;refine uAf ?_;refine uAk (s:=⟨[(0,_,_),(3,_,_),(4,_,_),(5,_,_)],[],[(.t 3,_)],[]⟩) (uAi (⟨sx rfl,sx rfl,sx rfl,sx rfl,trivial⟩) trivial (⟨rfl,trivial⟩)) ?_;refine uAb ?_;refine uAa rfl rfl rfl (uAc rfl gU) ?_;refine uAa rfl rfl rfl (uAz rfl rfl gU gU rfl (IntWalk.i64_in _ (by omega))) ?_;refine uAa rfl rfl rfl (uAe rfl gU) ?_;refine uAf ?_;refine ⟨(k + 1,line++[s.getD k 0],out),?_,?_,uAi (⟨⟨_,rfl,?_⟩,⟨⟨_,rfl,?_⟩,⟨⟨_,rfl,?_⟩,⟨sx rfl,trivial⟩⟩⟩⟩) trivial (⟨rfl,trivial⟩)⟩
   all_goals (first|rfl|omega|exact tx (congrArg xs (by rw[e1]))|(refine ⟨?_,?_,?_,hi⟩ <;> (simp <;> omega)))
 ·try simp only [nn,uAj,Tk.rows_len] at hc
  rw[List.drop_of_length_le (by omega),lnsA] at hi
  refine uAJ ?_
  repeat(first|refine uAC ?_|refine uAD ?_|refine uAB rfl ?_)
  refine uAd ?_;refine uAd (uAb ?_);refine uAa rfl rfl rfl (uAc rfl gU) ?_;refine uAa rfl rfl rfl (uA7 rfl rfl gU gU rfl) ?_;refine uAf ?_;refine uAk (s:=⟨[(3,_,_),(4,_,_),(28,_,_)],[],[(.t 3,_)],[]⟩) (uAi (⟨sx rfl,sx rfl,sx rfl,trivial⟩) trivial (⟨rfl,trivial⟩)) ?_;refine uAn rfl (fun hc2=>?_) (fun hc2=>?_)
  ·try simp only [nn,uAj,Tk.rows_len] at hc2
   rw[if_neg hc2] at hi
   refine uAb ?_;refine uAq rfl (uAM (.inl rfl) rfl rfl rfl) ?_;refine uAa rfl rfl rfl (uAc rfl gU) ?_;refine uAN (xs:=[_]) rfl rfl rfl rfl rfl rfl rfl rfl rfl gU rfl ?_;refine uAq rfl (uAX rfl rfl rfl rfl rfl rfl rfl (by first|omega|(simp only [List.length_append,List.length_singleton,Tk.rows_len,uAj]; omega)) (by first|omega|(simp only [List.length_append,List.length_singleton,Tk.rows_len,uAj]; omega))) ?_;refine uAq rfl (uAM (.inr rfl) rfl rfl rfl) ?_;refine uAf ?_;refine uAk (s:=⟨[(3,_,_)],[],[(.t 3,_)],[]⟩) (uAi (⟨sx rfl,trivial⟩) trivial (⟨rfl,trivial⟩)) ?_;refine uAd (uAb ?_);refine uAq rfl (uAM (.inl rfl) rfl rfl rfl) ?_;refine uAq rfl (uAM (.inr rfl) rfl rfl rfl) ?_;refine uAf ?_;refine uAp ?_
   repeat(first|refine tR ?_|refine bR ?_)
   refine uAt rfl ?_ trivial
   (rw[← hi]; exact uGC out line)
  ·try simp only [nn,uAj,Tk.rows_len] at hc2
   rw[if_pos hc2] at hi
   refine uAo ?_;refine uAd (uAb ?_);refine uAq rfl (uAM (.inl rfl) rfl rfl rfl) ?_;refine uAq rfl (uAM (.inr rfl) rfl rfl rfl) ?_;refine uAf ?_;refine uAp ?_
   repeat(first|refine tR ?_|refine bR ?_)
   refine uAt rfl ?_ trivial
   (rw[← hi]; rfl)
theorem uMU (s : List UInt8) : (uBb s).length≤s.length:=by unfold uBb; rw[List.length_take]; omega
theorem uFy (s : List UInt8) (hs : s.length≤9223372036854775807) : Ctr sys 103 [xs s] [] (uQc (tokR s)) none []:=by
 have hsl:=uOv s
 refine uAA Tryz.func103 rfl rfl rfl rfl rfl rfl ?_;refine uAd (uAb ?_);refine uAq rfl (uBd (.inr rfl) rfl rfl) ?_;refine uAa rfl rfl rfl (uAe rfl gU) ?_;refine uAa rfl rfl rfl (uAe rfl gU) ?_;refine uAf ?_;refine uAd ?_;refine uAd (uAb ?_);refine uAa rfl rfl rfl (uAc rfl gU) ?_;refine uBU rfl rfl rfl rfl rfl gU (Tryz.underlying9) ?_ (fun hh=>by simp at hh); intro hlen;refine uAa rfl rfl rfl (uAm rfl rfl gU gU rfl) ?_;refine uAf ?_;refine uAk (s:=⟨[(0,_,_),(14,_,_)],[],[],[]⟩) (uAi (⟨sx rfl,sx rfl,trivial⟩) trivial trivial) ?_;refine uAn rfl (fun hc=>?_) (fun hc=>?_)
 ·try simp only [nn,uAj,Tk.rows_len] at hc
  refine uAd (uAb ?_);refine uAq rfl (uBd (.inr rfl) rfl rfl) ?_;refine uAa rfl rfl rfl (uAe rfl gU) ?_;refine uAa rfl rfl rfl (uAe rfl gU) ?_;refine uAf ?_;refine uAp ?_
  repeat(first|refine tR ?_|refine bR ?_)
  refine uAt rfl ?_ trivial
  (rw[tokR,if_pos (by omega)]; rfl)
 ·try simp only [nn,uAj,Tk.rows_len] at hc
  rw[tokR,if_neg (by omega)]
  refine uAo ?_;refine uAd (uAb ?_);refine uAq rfl (uBd (.inr rfl) rfl rfl) ?_;refine uAf ?_;refine uAd (uAb ?_);refine uAa rfl rfl rfl (uAc rfl gU) ?_;refine uAu rfl rfl rfl rfl rfl rfl gU gU (uJG _ (by omega)) rfl ?_;refine uAa rfl rfl rfl (uAe rfl gU) ?_;refine uAf ?_;refine uAd ?_;refine uAd (uAb ?_);refine uAa rfl rfl rfl (uAe rfl gU) ?_;refine uAf ?_;refine uAk (s:=⟨[(5,_,_),(6,_,_),(7,_,_)],[],[(.t 5,_)],[]⟩) (uAi (⟨sx rfl,sx rfl,sx rfl,trivial⟩) trivial (⟨rfl,trivial⟩)) ?_;refine uAr ?_;refine uAW (ι:=Nat × List Tk) { t:=[(6,_,_)],bx:=[],ow:=[(.t 5,_)] } (fun p=>[(7,true,xi (p.1 : Int)),(5,true,xts p.2)]) (fun p=>[]) (fun p=>p.1≤(lnsR s).length∧p.2.length≤70000 * p.1∧uFl ((lnsR s).drop p.1) (p.1 + 1) p.2=uFl (lnsR s) 1 []) (fun p=>(lnsR s).length - p.1) ((0,[])) (⟨by simp,by simp,rfl⟩) (uAi (⟨sx rfl,sx rfl,sx rfl,trivial⟩) trivial (⟨rfl,trivial⟩)) ?_
  intro p hok
  dsimp only [List.cons_append,List.nil_append] at *
  obtain ⟨k,out⟩:=p
  dsimp only at hok ⊢
  obtain ⟨hk,ho,hi⟩:=hok
  have hL:=uOS s k
  have hB:=uMU ((lnsR s).getD k [])
  refine uAd ?_;refine uAd (uAb ?_);refine uAa rfl rfl rfl (uAc rfl gU) ?_;refine uAa rfl rfl rfl (uAc rfl gU) ?_;refine uAI rfl rfl rfl rfl rfl gU rfl rfl ?_ (fun hh=>by simp at hh); intro hlen;refine uAa rfl rfl rfl (uAm rfl rfl gU gU rfl) ?_;refine uAf ?_;refine uAn rfl (fun hc2=>?_) (fun hc2=>?_)
  ·try simp only [nn,uAj,Tk.rows_len] at hc2
   rw[uIz (d:=[]) (by omega),uFl] at hi
   refine uAo ?_;refine uAd ?_;refine uAr ?_;refine uAd (uAb ?_);refine uAa rfl rfl rfl (uAc rfl gU) ?_;refine uAa rfl rfl rfl (uAc rfl gU) ?_;refine uAa rfl rfl rfl (uAv rfl rfl gU gU rfl rfl rfl (fun hh=>uDi (by first|omega|(simp at hh ⊢; omega)))) ?_;refine uAa rfl rfl rfl (uAU rfl gU rfl rfl rfl) ?_;refine uAu rfl rfl rfl rfl rfl rfl gU gU (uNQ _ (by omega)) rfl ?_;refine uAa rfl rfl rfl (uAe rfl gU) ?_;refine uAf ?_;refine uAk (s:=⟨[(5,_,_),(6,_,_),(7,_,_),(8,_,_)],[],[(.t 5,_)],[]⟩) (uAi (⟨sx rfl,sx rfl,sx rfl,sx rfl,trivial⟩) trivial (⟨rfl,trivial⟩)) ?_;refine uAr ?_;refine uAW (ι:=List UInt8 × List Tk) { t:=[(6,_,_),(7,_,_)],bx:=[],ow:=[(.t 5,_)] } (fun q=>[(8,true,xs q.1),(5,true,xts q.2)]) (fun q=>[]) (fun q=>q.1.length≤(uBb ((lnsR s).getD k [])).length∧q.2.length + q.1.length≤out.length + (uBb ((lnsR s).getD k [])).length ∧ ∃ n,q.1.length < n∧uCI n q.1 ((k + 1 : Nat) : Int) q.2=uCI ((uBb ((lnsR s).getD k [])).length + 1) (uBb ((lnsR s).getD k [])) ((k + 1 : Nat) : Int) out) (fun q=>q.1.length) ((uBb ((lnsR s).getD k []),out)) (⟨by simp,by simp,_,by dsimp only; omega,rfl⟩) (uAi (⟨sx rfl,sx rfl,sx rfl,sx rfl,trivial⟩) trivial (⟨rfl,trivial⟩)) ?_
   intro q hokq
   dsimp only [List.cons_append,List.nil_append] at *
   obtain ⟨l,o2⟩:=q
   dsimp only at hokq ⊢
   obtain ⟨hl,ho2,n,hn,hi2⟩:=hokq
   obtain ⟨n,rfl⟩ : ∃ m,n=m + 1:=⟨n - 1,by omega⟩
   refine uAd ?_;refine uAd (uAb ?_);refine uAa rfl rfl rfl (uAc rfl gU) ?_;refine uBU rfl rfl rfl rfl rfl gU (Tryz.underlying9) ?_ (fun hh=>by simp at hh); intro hlen;refine uAa rfl rfl rfl (uAm rfl rfl gU gU rfl) ?_;refine uAf ?_;refine uAn rfl (fun hc3=>?_) (fun hc3=>?_)
   ·try simp only [nn,uAj,Tk.rows_len] at hc3
    have hne : 0 < l.length:=by omega
    have hcons : l=l.getD 0 0 :: l.drop 1 := by have := uBf hne; rwa [List.drop_zero] at this
    have hx : uCI (n + 1) l ((k + 1 : Nat) : Int) o2=if uCs (l.getD 0 0)=true then uCI n (l.drop 1) ((k + 1 : Nat) : Int) o2 else if (uBF l ((k + 1 : Nat) : Int)).2.2≠0 then ([],(uBF l ((k + 1 : Nat) : Int)).2.2)
      else uCI n (l.drop (uBF l ((k + 1 : Nat) : Int)).2.1) ((k + 1 : Nat) : Int) (o2++[(uBF l ((k + 1 : Nat) : Int)).1]):=by
     generalize hg : l.getD 0 0=c at hcons ⊢
     generalize hg2 : l.drop 1=r at hcons ⊢
     subst hcons
     rw[uCI]
    rw[hx] at hi2
    refine uAo ?_;refine uAr ?_;refine uAd ?_;refine uAd (uAb ?_);refine uAa rfl rfl rfl (uAc rfl gU) ?_;refine uAa rfl rfl rfl (uAO (j:=0) rfl rfl gU gU Tryz.underlying9 (by first|omega|(simp at hh ⊢; omega)) (fun hh=>by first|omega|(simp at hh ⊢; omega))) ?_;refine uAu rfl rfl rfl rfl rfl rfl gU gU (uDs _ _ rfl) rfl ?_;refine uAa rfl rfl rfl (uAm rfl rfl gU gU rfl) ?_;refine uAf ?_;refine uAk (s:=⟨[(5,_,_),(6,_,_),(7,_,_),(8,_,_),(34,_,_)],[],[(.t 5,_)],[]⟩) (uAi (⟨sx rfl,sx rfl,sx rfl,sx rfl,sx rfl,trivial⟩) trivial (⟨rfl,trivial⟩)) ?_;refine uAn rfl (fun hc4=>?_) (fun hc4=>?_)
    ·try simp only [nn,uAj,Tk.rows_len] at hc4
     rw[if_pos ((uEb _).2.2.1 hc4)] at hi2
     refine uAd (uAb ?_);refine uAa rfl rfl rfl (uAc rfl gU) ?_;refine uAa rfl rfl rfl (uBG (l:=1) rfl gU Tryz.underlying9 (fun _=>⟨_,_,_,rfl,gU,by first|omega|(simp at hh ⊢; omega)⟩) (fun _=>rfl) (fun hh=>by first|omega|(simp at hh ⊢; omega)) (fun hh=>by first|omega|(simp at hh ⊢; omega))) ?_;refine uAa rfl rfl rfl (uAe rfl gU) ?_;refine uAf ?_;refine uAJ ?_
     repeat(first|refine uAC ?_|refine uAD ?_|refine uAB rfl ?_)
     refine ⟨(l.drop 1,o2),?_,?_,uAi (⟨⟨_,rfl,?_⟩,⟨⟨_,rfl,?_⟩,⟨sx rfl,sx rfl,trivial⟩⟩⟩) trivial (⟨rfl,trivial⟩)⟩
     all_goals first|rfl|exact tx (congrArg xs (by rw[List.take_length]))|(simp only [List.take_length,List.length_drop]; omega)|(refine ⟨?_,?_,n,?_,hi2⟩ <;> (simp only [List.length_drop]; omega))
    ·try simp only [nn,uAj,Tk.rows_len] at hc4
     rw[if_neg (fun q=>hc4 ((uEb _).2.2.2 q))] at hi2
     have hfl:=uNk (s:=l) (k:=((k + 1 : Nat) : Int)) hne
     refine uAo ?_;refine uAd (uAb ?_);refine uAa rfl rfl rfl (uAc rfl gU) ?_;refine uAa rfl rfl rfl (uAc rfl gU) ?_;refine uAa rfl rfl rfl (uAz rfl rfl gU gU rfl (IntWalk.i64_in _ (by omega))) ?_;refine uAu rfl rfl rfl rfl rfl rfl gU gU (uLn _ ((k + 1 : Nat) : Int) _ hne (by omega) (by omega) hc4) rfl ?_;refine uAa rfl rfl rfl (uAc rfl gU) ?_;refine uAa rfl rfl rfl (uAs rfl gU rfl) ?_;refine uAa rfl rfl rfl (uAs rfl gU rfl) ?_;refine uAa rfl rfl rfl (uAs rfl gU rfl) ?_;refine uAq rfl (uAG rfl rfl rfl) ?_;refine uAq rfl (uAy rfl rfl rfl rfl rfl rfl rfl) ?_;refine uAa rfl rfl rfl (uAe rfl gU) ?_;refine uAa rfl rfl rfl (uAe rfl gU) ?_;refine uAf ?_;refine uAk (s:=⟨[(5,_,_),(6,_,_),(7,_,_),(8,_,_),(9,_,_),(10,_,_),(11,_,_)],[(.l 9,_)],[(.t 5,_)],[]⟩) (uAi (⟨sx rfl,sx rfl,sx rfl,sx rfl,sx rfl,sx rfl,sx rfl,trivial⟩) (⟨sx rfl,trivial⟩) (⟨rfl,trivial⟩)) ?_;refine uAd ?_;refine uAd (uAb ?_);refine uAa rfl rfl rfl (uAc rfl gU) ?_;refine uAa rfl rfl rfl (uAm rfl rfl gU gU rfl) ?_;refine uAf ?_;refine uAn rfl (fun hc5=>?_) (fun hc5=>?_)
     ·try simp only [nn,uAj,Tk.rows_len] at hc5
      rw[if_pos hc5] at hi2
      rw[← hi2,if_pos hc5] at hi
      refine uAd (uAb ?_);refine uAa rfl rfl rfl (uAc rfl gU) ?_;refine uAa rfl rfl rfl (uAz rfl rfl gU gU rfl (IntWalk.i64_in _ (by omega))) ?_;refine uAa rfl rfl rfl (uAc rfl gU) ?_;refine uAq rfl (uBd (.inr rfl) rfl rfl) ?_;refine uAa rfl rfl rfl (uAe rfl gU) ?_;refine uAa rfl rfl rfl (uAe rfl gU) ?_;refine uAf ?_;refine uAp ?_
      repeat(first|refine tR ?_|refine bR ?_)
      refine uAt rfl ?_ trivial
      (rw[← hi]; rfl)
     ·try simp only [nn,uAj,Tk.rows_len] at hc5
      have h4:=hfl.2 hc5
      rw[if_neg (fun q=>q hc5)] at hi2
      refine uAo ?_;refine uAd (uAb ?_);refine uAq rfl (uAM (.inl rfl) rfl rfl rfl) ?_;refine uAa rfl rfl rfl (uAl rfl gU rfl rfl rfl rfl rfl) ?_;refine uAN (xs:=[_]) rfl rfl rfl rfl rfl rfl rfl rfl rfl gU rfl ?_;refine uAq rfl (uAX rfl rfl rfl rfl rfl rfl rfl (by first|omega|(simp only [List.length_append,List.length_singleton,Tk.rows_len,uAj]; omega)) (by first|omega|(simp only [List.length_append,List.length_singleton,Tk.rows_len,uAj]; omega))) ?_;refine uAq rfl (uAM (.inr rfl) rfl rfl rfl) ?_;refine uAf ?_;refine uAk (s:=⟨[(5,_,_),(6,_,_),(7,_,_),(8,_,_),(10,_,_)],[],[(.t 5,_)],[]⟩) (uAi (⟨sx rfl,sx rfl,sx rfl,sx rfl,sx rfl,trivial⟩) trivial (⟨rfl,trivial⟩)) ?_;refine uAb ?_;refine uAa rfl rfl rfl (uAc rfl gU) ?_;refine uAa rfl rfl rfl (uAc rfl gU) ?_;refine uAa rfl rfl rfl (uBG (l:=(uBF l ((k + 1 : Nat) : Int)).2.1) rfl gU Tryz.underlying9 (fun _=>⟨_,_,_,rfl,gU,by first|omega|(simp at hh ⊢; omega)⟩) (fun _=>rfl) (fun hh=>by first|omega|(simp at hh ⊢; omega)) (fun hh=>by first|omega|(simp at hh ⊢; omega))) ?_;refine uAa rfl rfl rfl (uAe rfl gU) ?_;refine uAf ?_;refine ⟨(l.drop (uBF l ((k + 1 : Nat) : Int)).2.1,o2++[(uBF l ((k + 1 : Nat) : Int)).1]),?_,?_,uAi (⟨⟨_,rfl,?_⟩,⟨⟨_,rfl,?_⟩,⟨sx rfl,sx rfl,trivial⟩⟩⟩) trivial (⟨rfl,trivial⟩)⟩
      all_goals first|rfl|exact tx (uO3 o2 (uBF l ((k + 1 : Nat) : Int)).1)|exact tx (congrArg xs (by rw[List.take_length]))|(simp only [List.take_length,List.length_drop,List.length_append,List.length_singleton]; omega)|(refine ⟨?_,?_,n,?_,hi2⟩ <;> (simp only [List.length_drop,List.length_append,List.length_singleton]; omega))
   ·try simp only [nn,uAj,Tk.rows_len] at hc3
    have hnil : l=[]:=List.eq_nil_of_length_eq_zero (by omega)
    subst hnil
    rw[uCI] at hi2
    rw[← hi2] at hi
    refine uAJ ?_
    repeat(first|refine uAC ?_|refine uAD ?_|refine uAB rfl ?_)
    refine uAb ?_;refine uAa rfl rfl rfl (uAc rfl gU) ?_;refine uAa rfl rfl rfl (uAz rfl rfl gU gU rfl (IntWalk.i64_in _ (by omega))) ?_;refine uAa rfl rfl rfl (uAe rfl gU) ?_;refine uAf ?_;refine ⟨(k + 1,o2),?_,?_,uAi (⟨⟨_,rfl,?_⟩,⟨⟨_,rfl,?_⟩,⟨sx rfl,trivial⟩⟩⟩) trivial (⟨rfl,trivial⟩)⟩
    all_goals first|rfl|omega|(refine ⟨by dsimp only; omega,by dsimp only; omega,?_⟩; exact hi)
  ·try simp only [nn,uAj,Tk.rows_len] at hc2
   rw[List.drop_of_length_le (by omega),uFl] at hi
   refine uAJ ?_
   repeat(first|refine uAC ?_|refine uAD ?_|refine uAB rfl ?_)
   refine uAd (uAb ?_);refine uAq rfl (uAM (.inl rfl) rfl rfl rfl) ?_;refine uAq rfl (uAM (.inr rfl) rfl rfl rfl) ?_;refine uAa rfl rfl rfl (uAe rfl gU) ?_;refine uAa rfl rfl rfl (uAe rfl gU) ?_;refine uAf ?_;refine uAp ?_
   repeat(first|refine tR ?_|refine bR ?_)
   refine uAt rfl ?_ trivial
   (rw[← hi]; rfl)
theorem uFj (s : List UInt8) (hs : s.length≤9223372036854775807) : Ctr sys 111 [xs s] [] (xb (uAH s)) none []:=by
 refine uAA Tryz.func111 rfl rfl rfl rfl rfl rfl ?_;refine uAd (uAb ?_);refine uAa rfl rfl rfl (uAe rfl gU) ?_;refine uAf ?_;refine uAd (uAb ?_);refine uAa rfl rfl rfl (uAc rfl gU) ?_;refine uAa rfl rfl rfl (uA7 rfl rfl gU gU rfl) ?_;refine uAa rfl rfl rfl (uAc rfl gU) ?_;refine uAa rfl rfl rfl (uAc rfl gU) ?_;refine uAa rfl rfl rfl (uAO (j:=0) rfl rfl (fun hh=>hh) gU Tryz.underlying9 (by first|omega|(simp at hh ⊢; exact List.length_pos_iff.2 hh)|(simp at hh ⊢; omega)) (fun hh=>by first|omega|(simp at hh ⊢; exact List.length_pos_iff.2 hh)|(simp at hh ⊢; omega))) ?_;refine uAu rfl rfl rfl rfl rfl rfl gU (fun hh=>gA ((fun hh=>hh) hh) (rfl)) (uFw _) rfl ?_;refine uAa rfl rfl rfl (uAP rfl rfl gU (fun _ hi=>gP rfl hi)) ?_;refine uAa rfl rfl rfl (uAc rfl gU) ?_;refine uAa rfl rfl rfl (uAc rfl gU) ?_;refine uAu rfl rfl rfl rfl rfl rfl gU (fun hh=>gA ((fun hh=>hh) hh) (rfl)) (uGh _ (by omega)) rfl ?_;refine uAa rfl rfl rfl (uAc rfl gU) ?_;refine uBc (s:=⟨[(0,_,_),(10,_,_),(12,_,_),(13,_,_)],[],[],[]⟩) (uAi (⟨sx rfl,sx rfl,sx rfl,sx rfl,trivial⟩) trivial trivial) ?_;refine uAa rfl rfl rfl (uCk rfl (fun hh=>hh) (Tryz.underlying9)) ?_;refine uAa rfl rfl rfl (uAm rfl rfl (fun hh=>hh) (fun hh=>hh) rfl) ?_;refine uAa rfl rfl rfl (uAP rfl rfl gU (fun _ hi=>gP rfl hi)) ?_
 refine uAa rfl rfl rfl (uAc rfl gU) ?_;refine uAa rfl rfl rfl (uAc rfl gU) ?_;refine uAa rfl rfl rfl (uCk rfl (fun hh=>hh) (Tryz.underlying9)) ?_;refine uAa rfl rfl rfl (uAm rfl rfl (fun hh=>hh) gU rfl) ?_;refine uAa rfl rfl rfl (uAP rfl rfl gU (fun _ hi=>gP rfl hi)) ?_;refine uAa rfl rfl rfl (uAe rfl gU) ?_;refine uAf ?_;refine uAp ?_
 repeat(first|refine tR ?_|refine bR ?_)
 refine uAt rfl ?_ trivial;refine uCf ?_
 unfold uAH
 rw[Bool.eq_iff_iff]
 simp only [Bool.and_eq_true,decide_eq_true_eq,bne_iff_ne,ne_eq]
 constructor
 ·rintro ⟨⟨⟨a,b⟩,c⟩,d⟩
  refine ⟨⟨⟨?_,b⟩,?_⟩,?_⟩
  ·simpa using a
  ·have c':=c; simp at c'; omega
  ·omega
 ·rintro ⟨⟨⟨a,b⟩,c⟩,d⟩
  refine ⟨⟨⟨?_,b⟩,?_⟩,?_⟩
  ·simpa using a
  ·simp; omega
  ·omega
theorem uFp (s : List UInt8) (hs : s.length≤9223372036854775807) : Ctr sys 82 [xs s] [] (xb (rnmE s)) none []:=by
 have hr:=Tk.rows_len (tokR s).1
 refine uAA Tryz.func82 rfl rfl rfl rfl rfl rfl ?_;refine uAd (uAb ?_);refine uAa rfl rfl rfl (uAe rfl gU) ?_;refine uAf ?_;refine uAd (uAb ?_);refine uAa rfl rfl rfl (uAc rfl gU) ?_;refine uAu rfl rfl rfl rfl rfl rfl gU gU (uFy _ (by omega)) rfl ?_;refine uAa rfl rfl rfl (uAc rfl gU) ?_;refine uAa rfl rfl rfl (uAs rfl gU rfl) ?_;refine uAa rfl rfl rfl (uAs rfl gU rfl) ?_;refine uAa rfl rfl rfl (uAs rfl gU rfl) ?_;refine uAa rfl rfl rfl (uAe rfl gU) ?_;refine uAa rfl rfl rfl (uAe rfl gU) ?_;refine uAa rfl rfl rfl (uAe rfl gU) ?_;refine uAf ?_;refine uAk (s:=⟨[(0,_,_),(3,_,_),(5,_,_)],[],[],[]⟩) (uAi (⟨sx rfl,sx rfl,sx rfl,trivial⟩) trivial trivial) ?_;refine uAd (uAb ?_);refine uAa rfl rfl rfl (uAc rfl gU) ?_;refine uAa rfl rfl rfl (uAm rfl rfl gU gU rfl) ?_;refine uAa rfl rfl rfl (uAc rfl gU) ?_;refine uAa rfl rfl rfl (uAc rfl gU) ?_;refine uAa rfl rfl rfl (uA9 rfl (fun hh=>hh) rfl rfl) ?_;refine uAa rfl rfl rfl (uAm rfl rfl (fun hh=>hh) gU rfl) ?_;refine uAa rfl rfl rfl (uAP rfl rfl gU (fun _ hi=>gP rfl hi)) ?_;refine uAa rfl rfl rfl (uAc rfl gU) ?_;refine uAa rfl rfl rfl (uAc rfl gU) ?_;refine uAa rfl rfl rfl (uAv (j:=0) rfl rfl (fun hh=>hh) gU rfl rfl (by first|omega|(simp at hh ⊢; omega)|(simp at hh; omega)) (fun hh=>Tk.rows_at (by first|omega|(simp at hh ⊢; omega)|(simp at hh; omega)))) ?_
 refine uAa rfl rfl rfl (uA2 rfl (fun hh=>hh) rfl rfl) ?_;refine uAa rfl rfl rfl (uAU rfl (fun hh=>hh) rfl rfl rfl) ?_;refine uBc (s:=⟨[(0,_,_),(3,_,_),(19,_,_),(23,_,_)],[],[],[]⟩) (uAi (⟨sx rfl,sx rfl,sx rfl,sx rfl,trivial⟩) trivial trivial) ?_;refine uAa rfl rfl rfl (uAm rfl rfl (fun hh=>hh) gU rfl) ?_;refine uAa rfl rfl rfl (uAP rfl rfl gU (fun _ hi=>gP rfl hi)) ?_;refine uAa rfl rfl rfl (uAc rfl gU) ?_;refine uAa rfl rfl rfl (uAc rfl gU) ?_;refine uAa rfl rfl rfl (uAv (j:=0) rfl rfl (fun hh=>hh) gU rfl rfl (by first|omega|(simp at hh ⊢; omega)|(simp at hh; omega)) (fun hh=>Tk.rows_at (by first|omega|(simp at hh ⊢; omega)|(simp at hh; omega)))) ?_;refine uAa rfl rfl rfl (uA2 rfl (fun hh=>hh) rfl rfl) ?_;refine uAa rfl rfl rfl (uAU rfl (fun hh=>hh) rfl rfl rfl) ?_;refine uAa rfl rfl rfl (uAc rfl gU) ?_;refine uAa rfl rfl rfl (uA7 rfl rfl (fun hh=>hh) (fun hh=>hh) rfl) ?_;refine uAa rfl rfl rfl (uAP rfl rfl gU (fun _ hi=>gP rfl hi)) ?_;refine uAa rfl rfl rfl (uAc rfl gU) ?_;refine uAa rfl rfl rfl (uAc rfl gU) ?_;refine uBc (s:=⟨[(34,_,_),(35,_,_)],[],[],[]⟩) (uAi (⟨sx rfl,sx rfl,trivial⟩) trivial trivial) ?_;refine uAu rfl rfl rfl rfl rfl rfl gU (fun hh=>gA ((fun hh=>hh) hh) (rfl)) (uF5 _) rfl ?_
 refine uAa rfl rfl rfl (uAP rfl rfl gU (fun _ hi=>gP rfl hi)) ?_;refine uAa rfl rfl rfl (uAe rfl gU) ?_;refine uAf ?_;refine uAp ?_
 repeat(first|refine tR ?_|refine bR ?_)
 refine uAt rfl ?_ trivial;refine uCf ?_
 unfold rnmE
 rw[Bool.eq_iff_iff]
 simp only [Bool.and_eq_true,decide_eq_true_eq,beq_iff_eq]
 constructor
 ·rintro ⟨⟨⟨⟨a,b⟩,c⟩,d⟩,e⟩
  exact ⟨⟨⟨⟨by simpa using a,by have := b; simp [Tk.rows_len] at this; omega⟩,by simpa using c⟩,by simpa using d⟩,e⟩
 ·rintro ⟨⟨⟨⟨a,b⟩,c⟩,d⟩,e⟩
  exact ⟨⟨⟨⟨by simpa using a,by simp [Tk.rows_len]; omega⟩,by simpa using c⟩,by simpa using d⟩,e⟩
theorem uD9 (s : List UInt8) : Ctr sys 111 [xs s] [] (xb (uAH s)) none []:=uHk (uHs (uFj [] (by simp))) fun h=>uFj s h
theorem uLI (s : List UInt8) : Ctr sys 82 [xs s] [] (xb (rnmE s)) none []:=uHk (uHs (uFp [] (by simp))) fun h=>uFp s h
theorem uQN (s : List UInt8) : rnmE s=uAH s:=by
 by_cases h : s.length≤65536
 ·exact (uPd s h).symm
 ·have h1 : uAH s=false:=by
   unfold uAH
   have : decide (s.length≤24)=false:=decide_eq_false (by omega)
   rw[this,Bool.and_false]
  have h2 : uCv s=false:=by
   unfold uCv
   have : decide (s.length≤24)=false:=decide_eq_false (by omega)
   simp only [this,Bool.and_false,Bool.false_and]
  rw[h1]
  unfold rnmE
  rw[h2,Bool.and_false]
theorem uCn {α : Type} {f : α→Int} {l : List α} {d : α} {k : Nat} {e : Int} (h : k < l.length) (hi : errs f (l.drop k)=e) : (f (l.getD k d)≠0→e=f (l.getD k d))∧(f (l.getD k d)=0→errs f (l.drop (k + 1))=e):=by
 rw[uIz (d:=d) h,errs] at hi
 refine ⟨fun q=>?_,fun q=>?_⟩
 ·rw[if_pos q] at hi; exact hi.symm
 ·rw[if_neg (by rw[q]; simp)] at hi; exact hi
theorem uDv {α : Type} {f : α→Int} {l : List α} {k : Nat} {e : Int} (h : l.length≤k) (hi : errs f (l.drop k)=e) : e=0:=by
 rw[List.drop_of_length_le h] at hi; exact hi.symm
theorem uN9 : ∀ (n : Nat) (t : T),t.size≤n→n≤2000000→Ctr sys 140 [xm t] [] (xi (rawE uAH t)) none []:=by
 intro n
 induction n with
 | zero=>intro t h; have := t.size_pos; omega
 | succ n ih =>
  intro t ht hn
  have hse:=t.size_eq
  have hrl:=T.rows_len t.kids
  have hls:=T.len_sizes t.kids
  have he:=uMC uAH t
  rw[uFb] at he
  refine uAA Tryz.func140 rfl rfl rfl rfl rfl rfl ?_;refine uAd (uAb ?_);refine uAq rfl (uAK rfl rfl rfl rfl) ?_;refine uAa rfl rfl rfl (uAe rfl gU) ?_;refine uAf ?_;refine uAd ?_;refine uAd (uAb ?_);refine uAa rfl rfl rfl (uAg rfl gU rfl rfl) ?_;refine uAa rfl rfl rfl (uAh rfl gU rfl rfl rfl rfl) ?_;refine uAa rfl rfl rfl (uAm rfl rfl gU gU rfl) ?_;refine uAa rfl rfl rfl (uAc rfl gU) ?_;refine uAa rfl rfl rfl (uAg rfl gU rfl rfl) ?_;refine uAa rfl rfl rfl (uAh rfl (fun hh=>hh) rfl rfl rfl rfl) ?_;refine uAa rfl rfl rfl (uAm rfl rfl (fun hh=>hh) gU rfl) ?_;refine uAa rfl rfl rfl (uAL rfl rfl gU (fun _ hi=>gP rfl hi)) ?_;refine uAf ?_;refine uAk (s:=⟨[(1,_,_),(13,_,_)],[(.l 1,_)],[],[]⟩) (uAi (⟨sx rfl,sx rfl,trivial⟩) (⟨sx rfl,trivial⟩) trivial) ?_;refine uAn rfl (fun hc=>?_) (fun hc=>?_)
  ·try simp only [nn,uAj,T.rows_len,Fs.rows_len,Sp.rows_len,Gl.rows_len] at hc
   refine uAd (uAb ?_);refine uAa rfl rfl rfl (uAe rfl gU) ?_;refine uAf ?_;refine uAp ?_
   repeat(first|refine tR ?_|refine bR ?_)
   refine uAt rfl ?_ trivial
   (rw[he,if_pos (by grind)]; rfl)
  ·try simp only [nn,uAj,T.rows_len,Fs.rows_len,Sp.rows_len,Gl.rows_len] at hc
   rw[if_neg (by grind)] at he
   refine uAo ?_;refine uAd ?_;refine uAd (uAb ?_);refine uAa rfl rfl rfl (uAg rfl gU rfl rfl) ?_;refine uAa rfl rfl rfl (uAh rfl gU rfl rfl rfl rfl) ?_;refine uAu rfl rfl rfl rfl rfl rfl gU gU (uD9 _) rfl ?_;refine uAa rfl rfl rfl (uA0 rfl gU) ?_;refine uAf ?_;refine uAn rfl (fun hc2=>?_) (fun hc2=>?_)
   ·try simp only [nn,uAj,T.rows_len,Fs.rows_len,Sp.rows_len,Gl.rows_len] at hc2
    refine uAd (uAb ?_);refine uAa rfl rfl rfl (uAe rfl gU) ?_;refine uAf ?_;refine uAp ?_
    repeat(first|refine tR ?_|refine bR ?_)
    refine uAt rfl ?_ trivial
    (rw[he,if_pos hc2]; rfl)
   ·try simp only [nn,uAj,T.rows_len,Fs.rows_len,Sp.rows_len,Gl.rows_len] at hc2
    rw[if_neg (by rw[hc2]; simp)] at he
    refine uAo ?_;refine uAd ?_;refine uAd (uAb ?_);refine uAa rfl rfl rfl (uAg rfl gU rfl rfl) ?_;refine uAa rfl rfl rfl (uAh rfl gU rfl rfl rfl rfl) ?_;refine uAI rfl rfl rfl rfl rfl gU rfl rfl ?_ (fun hh=>by simp at hh); intro hlen;refine uAa rfl rfl rfl (uAc rfl gU) ?_;refine uAf ?_;refine uAk (s:=⟨[(19,_,_),(20,_,_),(21,_,_)],[],[],[]⟩) (uAi (⟨sx rfl,sx rfl,sx rfl,trivial⟩) trivial trivial) ?_;refine uAr ?_;refine uAW (ι:=Nat) { t:=[(19,_,_),(20,_,_)],bx:=[],ow:=[] } (fun k=>[(21,true,xi (k : Int))]) (fun k=>[]) (fun k=>k≤t.kids.length∧errs (rawE uAH) (t.kids.drop k)=rawE uAH t) (fun k=>t.kids.length - k) (0) (⟨by simp,by rw[he]; rfl⟩) (uAi (⟨sx rfl,sx rfl,sx rfl,trivial⟩) trivial trivial) ?_
    intro k hok
    dsimp only [List.cons_append,List.nil_append]
    obtain ⟨hk,hi⟩:=hok
    refine uAd (uAb ?_);refine uAa rfl rfl rfl (uAm rfl rfl gU gU rfl) ?_;refine uAf ?_;refine uAd ?_;refine uAn rfl (fun hc3=>?_) (fun hc3=>?_)
    ·try simp only [nn,uAj,T.rows_len,Fs.rows_len,Sp.rows_len,Gl.rows_len] at hc3
     have hlt : k < t.kids.length:=by omega
     have h2:=T.getD_size hlt
     have hd:=uCn (d:=default) hlt hi
     refine uAo ?_;refine uAd ?_;refine uAr ?_;refine uAd (uAb ?_);refine uAa rfl rfl rfl (uAv rfl rfl gU gU rfl rfl rfl (fun hh=>T.rows_at (by first|omega|(simp at hh ⊢; omega)))) ?_;refine uAa rfl rfl rfl (uAE rfl gU rfl rfl rfl rfl) ?_;refine uAq rfl (uAG rfl rfl rfl) ?_;refine uAq rfl (uAy rfl rfl rfl rfl rfl rfl rfl) ?_;refine uAf ?_;refine uAd (uAb ?_);refine uAa rfl rfl rfl (uAl rfl gU rfl rfl rfl rfl rfl) ?_;refine uAu rfl rfl rfl rfl rfl rfl gU gU (ih (t.kids.getD k default) (by omega) (by omega)) rfl ?_;refine uAa rfl rfl rfl (uAe rfl gU) ?_;refine uAf ?_;refine uAk (s:=⟨[(5,_,_),(19,_,_),(20,_,_),(21,_,_)],[],[],[]⟩) (uAi (⟨sx rfl,sx rfl,sx rfl,sx rfl,trivial⟩) trivial trivial) ?_;refine uAd (uAb ?_);refine uAa rfl rfl rfl (uAc rfl gU) ?_;refine uAa rfl rfl rfl (uAm rfl rfl gU gU rfl) ?_;refine uAf ?_;refine uAn rfl (fun hc1=>?_) (fun hc1=>?_)
     ·try simp only [nn,uAj,T.rows_len,Fs.rows_len,Sp.rows_len,Gl.rows_len] at hc1
      refine uAd (uAb ?_);refine uAa rfl rfl rfl (uAc rfl gU) ?_;refine uAa rfl rfl rfl (uAe rfl gU) ?_;refine uAf ?_;refine uAp ?_
      repeat(first|refine tR ?_|refine bR ?_)
      refine uAt rfl ?_ trivial;exact uBa (hd.1 (by assumption)).symm
     ·try simp only [nn,uAj,T.rows_len,Fs.rows_len,Sp.rows_len,Gl.rows_len] at hc1
      refine uAo ?_;refine uAb ?_;refine uAa rfl rfl rfl (uAz rfl rfl gU gU rfl (IntWalk.i64_in _ (by omega))) ?_;refine uAa rfl rfl rfl (uAc rfl gU) ?_;refine uAf ?_;refine ⟨k + 1,?_,?_,uAi (⟨⟨_,rfl,?_⟩,⟨sx rfl,sx rfl,trivial⟩⟩) trivial trivial⟩
      all_goals (first|rfl|omega|exact ⟨by omega,hd.2 (by assumption)⟩)
    ·try simp only [nn,uAj,T.rows_len,Fs.rows_len,Sp.rows_len,Gl.rows_len] at hc3
     refine uAJ ?_
     repeat(first|refine uAC ?_|refine uAD ?_|refine uAB rfl ?_)
     refine uAd (uAb ?_);refine uAa rfl rfl rfl (uAe rfl gU) ?_;refine uAf ?_;refine uAp ?_
     repeat(first|refine tR ?_|refine bR ?_)
     refine uAt rfl ?_ trivial;exact uBa (uDv (by omega) hi).symm
theorem uJe (t : T) (ht : t.size≤900000) : Ctr sys 112 [xm t] [] (xi (uDI uAH t)) none []:=by
 refine uAA Tryz.func112 rfl rfl rfl rfl rfl rfl ?_;refine uAd (uAb ?_);refine uAq rfl (uAK rfl rfl rfl rfl) ?_;refine uAa rfl rfl rfl (uAe rfl gU) ?_;refine uAf ?_;refine uAd ?_;refine uAd (uAb ?_);refine uAa rfl rfl rfl (uAl rfl gU rfl rfl rfl rfl rfl) ?_;refine uAu rfl rfl rfl rfl rfl rfl gU gU (uKa _ (by omega)) rfl ?_;refine uAa rfl rfl rfl (uAe rfl gU) ?_;refine uAf ?_;refine uAk (s:=⟨[(1,_,_),(3,_,_)],[(.l 1,_)],[],[]⟩) (uAi (⟨sx rfl,sx rfl,trivial⟩) (⟨sx rfl,trivial⟩) trivial) ?_;refine uAd (uAb ?_);refine uAa rfl rfl rfl (uAc rfl gU) ?_;refine uAa rfl rfl rfl (uAm rfl rfl gU gU rfl) ?_;refine uAf ?_;refine uAn rfl (fun hc=>?_) (fun hc=>?_)
 ·try simp only [nn,uAj,T.rows_len,Fs.rows_len,Sp.rows_len,Gl.rows_len] at hc
  refine uAd (uAb ?_);refine uAa rfl rfl rfl (uAc rfl gU) ?_;refine uAa rfl rfl rfl (uAe rfl gU) ?_;refine uAf ?_;refine uAp ?_
  repeat(first|refine tR ?_|refine bR ?_)
  refine uAt rfl ?_ trivial
  (rw[uDI,if_pos hc]; rfl)
 ·try simp only [nn,uAj,T.rows_len,Fs.rows_len,Sp.rows_len,Gl.rows_len] at hc
  refine uAo ?_;refine uAd (uAb ?_);refine uAa rfl rfl rfl (uAl rfl gU rfl rfl rfl rfl rfl) ?_;refine uAu rfl rfl rfl rfl rfl rfl gU gU (uN9 _ _ (Nat.le_refl _) (by omega)) rfl ?_;refine uAa rfl rfl rfl (uAe rfl gU) ?_;refine uAf ?_;refine uAp ?_
  repeat(first|refine tR ?_|refine bR ?_)
  refine uAt rfl ?_ trivial
  (rw[uDI,if_neg (by simpa using hc)]; rfl)
theorem uFD (t : T) (ht : t.size≤900000) : Ctr sys 73 [xm t] [] (xi (msgE uAH t)) none []:=by
 refine uAA Tryz.func73 rfl rfl rfl rfl rfl rfl ?_;refine uAd (uAb ?_);refine uAq rfl (uAK rfl rfl rfl rfl) ?_;refine uAa rfl rfl rfl (uAe rfl gU) ?_;refine uAf ?_;refine uAd ?_;refine uAd (uAb ?_);refine uAa rfl rfl rfl (uAl rfl gU rfl rfl rfl rfl rfl) ?_;refine uAu rfl rfl rfl rfl rfl rfl gU gU (uJe _ (by omega)) rfl ?_;refine uAa rfl rfl rfl (uAe rfl gU) ?_;refine uAf ?_;refine uAk (s:=⟨[(1,_,_),(3,_,_)],[(.l 1,_)],[],[]⟩) (uAi (⟨sx rfl,sx rfl,trivial⟩) (⟨sx rfl,trivial⟩) trivial) ?_;refine uAd (uAb ?_);refine uAa rfl rfl rfl (uAc rfl gU) ?_;refine uAa rfl rfl rfl (uAm rfl rfl gU gU rfl) ?_;refine uAf ?_;refine uAn rfl (fun hc=>?_) (fun hc=>?_)
 ·try simp only [nn,uAj,T.rows_len,Fs.rows_len,Sp.rows_len,Gl.rows_len] at hc
  refine uAd (uAb ?_);refine uAa rfl rfl rfl (uAc rfl gU) ?_;refine uAa rfl rfl rfl (uAe rfl gU) ?_;refine uAf ?_;refine uAp ?_
  repeat(first|refine tR ?_|refine bR ?_)
  refine uAt rfl ?_ trivial
  (rw[msgE,if_pos hc]; rfl)
 ·try simp only [nn,uAj,T.rows_len,Fs.rows_len,Sp.rows_len,Gl.rows_len] at hc
  refine uAo ?_;refine uAd ?_;refine uAd (uAb ?_);refine uAa rfl rfl rfl (uAl rfl gU rfl rfl rfl rfl rfl) ?_;refine uAu rfl rfl rfl rfl rfl rfl gU gU (uLv _ _ (Nat.le_refl _) (by omega)) rfl ?_;refine uAa rfl rfl rfl (uAm rfl rfl gU gU rfl) ?_;refine uAf ?_;refine uAk (s:=⟨[(11,_,_)],[],[],[]⟩) (uAi (⟨sx rfl,trivial⟩) trivial trivial) ?_;refine uAn rfl (fun hc2=>?_) (fun hc2=>?_)
  ·try simp only [nn,uAj,T.rows_len,Fs.rows_len,Sp.rows_len,Gl.rows_len] at hc2
   refine uAd (uAb ?_);refine uAa rfl rfl rfl (uAe rfl gU) ?_;refine uAf ?_;refine uAp ?_
   repeat(first|refine tR ?_|refine bR ?_)
   refine uAt rfl ?_ trivial
   (rw[msgE,if_neg (by simpa using hc),if_pos (by omega)]; rfl)
  ·try simp only [nn,uAj,T.rows_len,Fs.rows_len,Sp.rows_len,Gl.rows_len] at hc2
   refine uAo ?_;refine uAd (uAb ?_);refine uAa rfl rfl rfl (uAe rfl gU) ?_;refine uAf ?_;refine uAp ?_
   repeat(first|refine tR ?_|refine bR ?_)
   refine uAt rfl ?_ trivial
   (rw[msgE,if_neg (by simpa using hc),if_neg (by omega)]; rfl)
theorem uCH (g : Gl) : Ctr sys 114 [xg g] [] (xb (uBo g.kind)) none []:=by
 refine uAA Tryz.func114 rfl rfl rfl rfl rfl rfl ?_;refine uAd (uAb ?_);refine uAq rfl (uAK rfl rfl rfl rfl) ?_;refine uAa rfl rfl rfl (uAe rfl gU) ?_;refine uAf ?_;refine uAd (uAb ?_);refine uAa rfl rfl rfl (uAg rfl gU rfl rfl) ?_;refine uAa rfl rfl rfl (uAh rfl gU rfl rfl rfl rfl) ?_;refine uAa rfl rfl rfl (uAm rfl rfl gU gU rfl) ?_;refine uAa rfl rfl rfl (uAc rfl gU) ?_;refine uAa rfl rfl rfl (uAg rfl gU rfl rfl) ?_;refine uAa rfl rfl rfl (uAh rfl (fun hh=>hh) rfl rfl rfl rfl) ?_;refine uAa rfl rfl rfl (uAm rfl rfl (fun hh=>hh) gU rfl) ?_;refine uAa rfl rfl rfl (uAL rfl rfl gU (fun _ hi=>gP rfl hi)) ?_;refine uAa rfl rfl rfl (uAe rfl gU) ?_;refine uAf ?_;refine uAp ?_
 repeat(first|refine tR ?_|refine bR ?_)
 refine uAt rfl ?_ trivial
 rfl
theorem uCQ (s : List UInt8) : Ctr sys 72 [xs s] [] (xb (!uAH s)) none []:=by
 refine uAA Tryz.func72 rfl rfl rfl rfl rfl rfl ?_;refine uAd (uAb ?_);refine uAa rfl rfl rfl (uAe rfl gU) ?_;refine uAf ?_;refine uAd (uAb ?_);refine uAa rfl rfl rfl (uAc rfl gU) ?_;refine uAu rfl rfl rfl rfl rfl rfl gU gU (uD9 _) rfl ?_;refine uAa rfl rfl rfl (uA0 rfl gU) ?_;refine uAa rfl rfl rfl (uAe rfl gU) ?_;refine uAf ?_;refine uAp ?_
 repeat(first|refine tR ?_|refine bR ?_)
 refine uAt rfl ?_ trivial
 rfl
theorem uNw (g : Gl) (hg : T.sizes g.data≤900000) : Ctr sys 74 [xg g] [] (xi (uCg uAH g)) none []:=by
 have hls:=T.len_sizes g.data
 have hrl:=T.rows_len g.data
 refine uAA Tryz.func74 rfl rfl rfl rfl rfl rfl ?_;refine uAd (uAb ?_);refine uAq rfl (uAK rfl rfl rfl rfl) ?_;refine uAa rfl rfl rfl (uAe rfl gU) ?_;refine uAf ?_;refine uAd (uAb ?_);refine uAa rfl rfl rfl (uAg rfl gU rfl rfl) ?_;refine uAa rfl rfl rfl (uAh rfl gU rfl rfl rfl rfl) ?_;refine uAI rfl rfl rfl rfl rfl gU rfl rfl ?_ (fun hh=>by simp at hh); intro hlen;refine uAa rfl rfl rfl (uAe rfl gU) ?_;refine uAf ?_;refine uAk (s:=⟨[(1,_,_),(3,_,_)],[(.l 1,_)],[],[]⟩) (uAi (⟨sx rfl,sx rfl,trivial⟩) (⟨sx rfl,trivial⟩) trivial) ?_;refine uAd ?_;refine uAr ?_;refine uAd (uAb ?_);refine uAa rfl rfl rfl (uAg rfl gU rfl rfl) ?_;refine uAa rfl rfl rfl (uAh rfl gU rfl rfl rfl rfl) ?_;refine uAa rfl rfl rfl (uAm rfl rfl gU gU rfl) ?_;refine uAa rfl rfl rfl (uAc rfl gU) ?_;refine uAa rfl rfl rfl (uAg rfl gU rfl rfl) ?_;refine uAa rfl rfl rfl (uAh rfl (fun hh=>hh) rfl rfl rfl rfl) ?_;refine uAa rfl rfl rfl (uAm rfl rfl (fun hh=>hh) gU rfl) ?_;refine uAa rfl rfl rfl (uAL rfl rfl gU (fun _ hi=>gP rfl hi)) ?_;refine uAa rfl rfl rfl (uAe rfl gU) ?_;refine uAf ?_;refine uAk (s:=⟨[(1,_,_),(3,_,_),(10,_,_)],[(.l 1,_)],[],[]⟩) (uAi (⟨sx rfl,sx rfl,sx rfl,trivial⟩) (⟨sx rfl,trivial⟩) trivial) ?_
 refine uAn rfl (fun hc=>?_) (fun hc=>?_)
 ·try simp only [nn,uAj,T.rows_len,Fs.rows_len,Sp.rows_len,Gl.rows_len] at hc
  refine uAd (uAb ?_);refine uAa rfl rfl rfl (uAe rfl gU) ?_;refine uAf ?_;refine uAp ?_
  repeat(first|refine tR ?_|refine bR ?_)
  refine uAt rfl ?_ trivial
  (rw[uCg,if_pos (by grind)]; rfl)
 ·try simp only [nn,uAj,T.rows_len,Fs.rows_len,Sp.rows_len,Gl.rows_len] at hc
  refine uAd (uAb ?_);refine uAa rfl rfl rfl (uAg rfl gU rfl rfl) ?_;refine uAa rfl rfl rfl (uAh rfl gU rfl rfl rfl rfl) ?_;refine uAu rfl rfl rfl rfl rfl rfl gU gU (uD9 _) rfl ?_;refine uAa rfl rfl rfl (uA0 rfl gU) ?_;refine uAa rfl rfl rfl (uAc rfl gU) ?_;refine uAa rfl rfl rfl (uAl rfl gU rfl rfl rfl rfl rfl) ?_;refine uAu rfl rfl rfl rfl rfl rfl gU (fun hh=>gA ((fun hh=>hh) hh) (rfl)) (uCH _) rfl ?_;refine uAa rfl rfl rfl (uAc rfl (fun hh=>hh)) ?_;refine uAa rfl rfl rfl (uAg rfl gU rfl rfl) ?_;refine uAa rfl rfl rfl (uAh rfl (fun hh=>hh) rfl rfl rfl rfl) ?_;refine uAu rfl rfl rfl rfl rfl rfl gU (fun hh=>gA ((fun hh=>hh) hh) (rfl)) (uD9 _) rfl ?_;refine uAa rfl rfl rfl (uA0 rfl (fun hh=>hh)) ?_;refine uBc (s:=⟨[(1,_,_),(3,_,_),(24,_,_),(27,_,_),(31,_,_)],[(.l 1,_)],[],[]⟩) (uAi (⟨sx rfl,sx rfl,sx rfl,sx rfl,sx rfl,trivial⟩) (⟨sx rfl,trivial⟩) trivial) ?_;refine uAa rfl rfl rfl (uAP rfl rfl (fun hh=>hh) (fun hh hi=>gP hh hi)) ?_;refine uAa rfl rfl rfl (uAL rfl rfl gU (fun _ hi=>gP rfl hi)) ?_;refine uAa rfl rfl rfl (uAe rfl gU) ?_;refine uAf ?_;refine uAn rfl (fun hc2=>?_) (fun hc2=>?_)
  ·try simp only [nn,uAj,T.rows_len,Fs.rows_len,Sp.rows_len,Gl.rows_len] at hc2
   refine uAd (uAb ?_);refine uAa rfl rfl rfl (uAe rfl gU) ?_;refine uAf ?_;refine uAp ?_
   repeat(first|refine tR ?_|refine bR ?_)
   refine uAt rfl ?_ trivial
   (rw[uCg,if_neg (by grind),if_pos (by grind)]; rfl)
  ·try simp only [nn,uAj,T.rows_len,Fs.rows_len,Sp.rows_len,Gl.rows_len] at hc2
   refine uAd (uAb ?_);refine uAa rfl rfl rfl (uAl rfl gU rfl rfl rfl rfl rfl) ?_;refine uAu rfl rfl rfl rfl rfl rfl gU gU (uCH _) rfl ?_;refine uAa rfl rfl rfl (uA0 rfl gU) ?_;refine uAa rfl rfl rfl (uAc rfl gU) ?_;refine uAa rfl rfl rfl (uAg rfl gU rfl rfl) ?_;refine uAa rfl rfl rfl (uAh rfl (fun hh=>hh) rfl rfl rfl rfl) ?_;refine uAa rfl rfl rfl (uA7 rfl rfl (fun hh=>hh) gU rfl) ?_;refine uAa rfl rfl rfl (uAP rfl rfl gU (fun _ hi=>gP rfl hi)) ?_;refine uAa rfl rfl rfl (uAe rfl gU) ?_;refine uAf ?_;refine uAk (s:=⟨[(1,_,_),(3,_,_),(34,_,_)],[(.l 1,_)],[],[]⟩) (uAi (⟨sx rfl,sx rfl,sx rfl,trivial⟩) (⟨sx rfl,trivial⟩) trivial) ?_;refine uAn rfl (fun hc3=>?_) (fun hc3=>?_)
   ·try simp only [nn,uAj,T.rows_len,Fs.rows_len,Sp.rows_len,Gl.rows_len] at hc3
    refine uAd (uAb ?_);refine uAa rfl rfl rfl (uAe rfl gU) ?_;refine uAf ?_;refine uAp ?_
    repeat(first|refine tR ?_|refine bR ?_)
    refine uAt rfl ?_ trivial
    (rw[uCg,if_neg (by grind),if_neg (by grind),if_pos (by grind)]; rfl)
   ·try simp only [nn,uAj,T.rows_len,Fs.rows_len,Sp.rows_len,Gl.rows_len] at hc3
    refine uAd (uAb ?_);refine uAa rfl rfl rfl (uAl rfl gU rfl rfl rfl rfl rfl) ?_;refine uAu rfl rfl rfl rfl rfl rfl gU gU (uCH _) rfl ?_;refine uAa rfl rfl rfl (uAc rfl gU) ?_;refine uAa rfl rfl rfl (uAc rfl gU) ?_;refine uAa rfl rfl rfl (uAm rfl rfl (fun hh=>hh) gU rfl) ?_;refine uAa rfl rfl rfl (uAc rfl (fun hh=>hh)) ?_;refine uAa rfl rfl rfl (uAc rfl gU) ?_;refine uAa rfl rfl rfl (uAm rfl rfl (fun hh=>hh) gU rfl) ?_;refine uAa rfl rfl rfl (uAL rfl rfl (fun hh=>hh) (fun hh hi=>gP hh hi)) ?_;refine uAa rfl rfl rfl (uAP rfl rfl gU (fun _ hi=>gP rfl hi)) ?_;refine uAa rfl rfl rfl (uAc rfl gU) ?_;refine uAa rfl rfl rfl (uAl rfl gU rfl rfl rfl rfl rfl) ?_;refine uBc (s:=⟨[(1,_,_),(3,_,_),(54,_,_),(55,_,_)],[(.l 1,_)],[],[]⟩) (uAi (⟨sx rfl,sx rfl,sx rfl,sx rfl,trivial⟩) (⟨sx rfl,trivial⟩) trivial) ?_;refine uAu rfl rfl rfl rfl rfl rfl gU (fun hh=>gA ((fun hh=>hh) hh) (rfl)) (uCH _) rfl ?_;refine uAa rfl rfl rfl (uA0 rfl (fun hh=>hh)) ?_;refine uAa rfl rfl rfl (uAc rfl (fun hh=>hh)) ?_;refine uAa rfl rfl rfl (uAc rfl gU) ?_;refine uAa rfl rfl rfl (uAm rfl rfl (fun hh=>hh) gU rfl) ?_;refine uAa rfl rfl rfl (uAP rfl rfl (fun hh=>hh) (fun hh hi=>gP hh hi)) ?_;refine uAa rfl rfl rfl (uAL rfl rfl gU (fun _ hi=>gP rfl hi)) ?_
    refine uAa rfl rfl rfl (uAe rfl gU) ?_;refine uAf ?_;refine uAk (s:=⟨[(1,_,_),(43,_,_)],[(.l 1,_)],[],[]⟩) (uAi (⟨sx rfl,sx rfl,trivial⟩) (⟨sx rfl,trivial⟩) trivial) ?_;refine uAn rfl (fun hc4=>?_) (fun hc4=>?_)
    ·try simp only [nn,uAj,T.rows_len,Fs.rows_len,Sp.rows_len,Gl.rows_len] at hc4
     refine uAd (uAb ?_);refine uAa rfl rfl rfl (uAe rfl gU) ?_;refine uAf ?_;refine uAp ?_
     repeat(first|refine tR ?_|refine bR ?_)
     refine uAt rfl ?_ trivial
     (rw[uCg,if_neg (by grind),if_neg (by grind),if_neg (by grind),if_pos (by grind)]; rfl)
    ·try simp only [nn,uAj,T.rows_len,Fs.rows_len,Sp.rows_len,Gl.rows_len] at hc4
     have he : uCg uAH g=errs (msgE uAH) g.data:=by rw[uCg,if_neg (by grind),if_neg (by grind),if_neg (by grind),if_neg (by grind)]
     refine uAo ?_;refine uAd ?_;refine uAd (uAb ?_);refine uAa rfl rfl rfl (uAg rfl gU rfl rfl) ?_;refine uAa rfl rfl rfl (uAh rfl gU rfl rfl rfl rfl) ?_;refine uAI rfl rfl rfl rfl rfl gU rfl rfl ?_ (fun hh=>by simp at hh); intro hlen;refine uAa rfl rfl rfl (uAc rfl gU) ?_;refine uAf ?_;refine uAr ?_;refine uAW (ι:=Nat) { t:=[(64,_,_),(65,_,_)],bx:=[],ow:=[] } (fun k=>[(66,true,xi (k : Int))]) (fun k=>[]) (fun k=>k≤g.data.length∧errs (msgE uAH) (g.data.drop k)=uCg uAH g) (fun k=>g.data.length - k) (0) (⟨by simp,by rw[he]; rfl⟩) (uAi (⟨sx rfl,sx rfl,sx rfl,trivial⟩) trivial trivial) ?_
     intro k hok
     dsimp only [List.cons_append,List.nil_append]
     obtain ⟨hk,hi⟩:=hok
     refine uAd (uAb ?_);refine uAa rfl rfl rfl (uAm rfl rfl gU gU rfl) ?_;refine uAf ?_;refine uAd ?_;refine uAn rfl (fun hc5=>?_) (fun hc5=>?_)
     ·try simp only [nn,uAj,T.rows_len,Fs.rows_len,Sp.rows_len,Gl.rows_len] at hc5
      have hlt : k < g.data.length:=by omega
      have h2:=T.getD_size hlt
      have hd:=uCn (d:=default) hlt hi
      refine uAo ?_;refine uAd ?_;refine uAr ?_;refine uAd (uAb ?_);refine uAa rfl rfl rfl (uAv rfl rfl gU gU rfl rfl rfl (fun hh=>T.rows_at (by first|omega|(simp at hh ⊢; omega)))) ?_;refine uAa rfl rfl rfl (uAE rfl gU rfl rfl rfl rfl) ?_;refine uAq rfl (uAG rfl rfl rfl) ?_;refine uAq rfl (uAy rfl rfl rfl rfl rfl rfl rfl) ?_;refine uAf ?_;refine uAd (uAb ?_);refine uAa rfl rfl rfl (uAl rfl gU rfl rfl rfl rfl rfl) ?_;refine uAu rfl rfl rfl rfl rfl rfl gU gU (uFD _ (by omega)) rfl ?_;refine uAa rfl rfl rfl (uAe rfl gU) ?_;refine uAf ?_;refine uAk (s:=⟨[(6,_,_),(64,_,_),(65,_,_),(66,_,_)],[],[],[]⟩) (uAi (⟨sx rfl,sx rfl,sx rfl,sx rfl,trivial⟩) trivial trivial) ?_;refine uAd (uAb ?_);refine uAa rfl rfl rfl (uAc rfl gU) ?_;refine uAa rfl rfl rfl (uAm rfl rfl gU gU rfl) ?_;refine uAf ?_;refine uAn rfl (fun hc1=>?_) (fun hc1=>?_)
      ·try simp only [nn,uAj,T.rows_len,Fs.rows_len,Sp.rows_len,Gl.rows_len] at hc1
       refine uAd (uAb ?_);refine uAa rfl rfl rfl (uAc rfl gU) ?_;refine uAa rfl rfl rfl (uAe rfl gU) ?_;refine uAf ?_;refine uAp ?_
       repeat(first|refine tR ?_|refine bR ?_)
       refine uAt rfl ?_ trivial;exact uBa (hd.1 (by assumption)).symm
      ·try simp only [nn,uAj,T.rows_len,Fs.rows_len,Sp.rows_len,Gl.rows_len] at hc1
       refine uAo ?_;refine uAb ?_;refine uAa rfl rfl rfl (uAz rfl rfl gU gU rfl (IntWalk.i64_in _ (by omega))) ?_;refine uAa rfl rfl rfl (uAc rfl gU) ?_;refine uAf ?_;refine ⟨k + 1,?_,?_,uAi (⟨⟨_,rfl,?_⟩,⟨sx rfl,sx rfl,trivial⟩⟩) trivial trivial⟩
       all_goals (first|rfl|omega|exact ⟨by omega,hd.2 (by assumption)⟩)
     ·try simp only [nn,uAj,T.rows_len,Fs.rows_len,Sp.rows_len,Gl.rows_len] at hc5
      refine uAJ ?_
      repeat(first|refine uAC ?_|refine uAD ?_|refine uAB rfl ?_)
      refine uAd (uAb ?_);refine uAa rfl rfl rfl (uAe rfl gU) ?_;refine uAf ?_;refine uAp ?_
      repeat(first|refine tR ?_|refine bR ?_)
      refine uAt rfl ?_ trivial;exact uBa (uDv (by omega) hi).symm
def idxF (p : List UInt8→Bool) : List (List UInt8)→Int
 | []=>-1
 | x :: r=>if p x=true then 0 else if idxF p r < 0 then -1 else idxF p r + 1
theorem uH6 {p : List UInt8→Bool} {l : List (List UInt8)} {k : Nat} {e : Int} (h : k < l.length) (hi : (if idxF p (l.drop k) < 0 then -1 else idxF p (l.drop k) + k)=e) :
  (p (l.getD k [])=true→e=k)∧(p (l.getD k [])=false→(if idxF p (l.drop (k + 1)) < 0 then -1 else idxF p (l.drop (k + 1)) + (k + 1 : Nat))=e):=by
 rw[uIz (d:=[]) h,idxF] at hi
 refine ⟨fun q=>?_,fun q=>?_⟩
 ·rw[if_pos q] at hi; simp at hi; omega
 ·rw[q] at hi
  simp only [Bool.false_eq_true,if_false] at hi
  generalize idxF p (List.drop (k + 1) l)=x at hi ⊢
  rw[← hi]
  by_cases hx : x < 0
  ·rw[if_pos hx,if_pos hx]; simp
  ·rw[if_neg hx,if_neg hx,if_neg (by omega)]; push_cast; omega
theorem uFE {α : Type} {l : List α} {d : α} {k : Nat} (h : k < l.length) : l.getD k d ∈ l:=by
 rw[List.getD_eq_getElem?_getD,List.getElem?_eq_getElem h]
 exact List.getElem_mem h
theorem uJH {p : List UInt8→Bool} {l : List (List UInt8)} {k : Nat} {e : Int} (h : l.length≤k) (hi : (if idxF p (l.drop k) < 0 then -1 else idxF p (l.drop k) + k)=e) : e = -1:=by
 rw[List.drop_of_length_le h] at hi; simpa [idxF] using hi.symm
theorem uHq (p : List UInt8→Bool) (l : List (List UInt8)) : (if idxF p (l.drop 0) < 0 then -1 else idxF p (l.drop 0) + ((0 : Nat) : Int))=if idxF p l < 0 then -1 else idxF p l:=by simp
theorem uIX (p : List UInt8→Bool) : ∀ l : List (List UInt8),-1≤idxF p l
 | []=>by simp [idxF]
 | x :: r=>by have := uIX p r; rw[idxF]; split; omega; split <;> omega
theorem uIE (p : List UInt8→Bool) (l : List (List UInt8)) : (if idxF p l < 0 then -1 else idxF p l)=idxF p l := by have := uIX p l; split <;> omega
theorem uGM (p : List UInt8→Bool) : ∀ l : List (List UInt8),decide (idxF p l ≥ 0)=l.any p
 | []=>by simp [idxF]
 | x :: r=>by
  have ih:=uGM p r
  rw[idxF,List.any_cons,← ih]
  by_cases h : p x=true
  ·rw[if_pos h,h]; simp
  ·rw[if_neg h]
   have h' : p x=false:=by simpa using h
   rw[h',Bool.false_or]
   split
   ·rename_i h1; simp; omega
   ·rename_i h1; rw[Bool.eq_iff_iff]; simp; omega
theorem uHL (l : List (List UInt8)) : Ctr sys 136 [xss l, .fn 72 []] [] (xi (idxF (fun s=>!uAH s) l)) none []:=by
 have hrl:=uAj l
 refine uAA Tryz.func136 rfl rfl rfl rfl rfl rfl ?_;refine uAd (uAb ?_);refine uAa rfl rfl rfl (uAe rfl gU) ?_;refine uAf ?_;refine uAd ?_;refine uAd (uAb ?_);refine uAa rfl rfl rfl (uAc rfl gU) ?_;refine uAI rfl rfl rfl rfl rfl gU rfl rfl ?_ (fun hh=>by simp at hh); intro hlen;refine uAa rfl rfl rfl (uAc rfl gU) ?_;refine uAf ?_;refine uAr ?_;refine uAW (ι:=Nat) { t:=[(0,_,_),(1,_,_),(7,_,_)],bx:=[],ow:=[] } (fun k=>[(8,true,xi (k : Int))]) (fun k=>[]) (fun k=>k≤l.length∧(if idxF (fun s=>!uAH s) (l.drop k) < 0 then -1 else idxF (fun s=>!uAH s) (l.drop k) + k)=idxF (fun s=>!uAH s) l) (fun k=>l.length - k) (0) (⟨by simp,(uHq _ _).trans (uIE _ _)⟩) (uAi (⟨sx rfl,sx rfl,sx rfl,sx rfl,trivial⟩) trivial trivial) ?_
 intro k hok
 dsimp only [List.cons_append,List.nil_append]
 obtain ⟨hk,hi⟩:=hok
 refine uAd (uAb ?_);refine uAa rfl rfl rfl (uAm rfl rfl gU gU rfl) ?_;refine uAf ?_;refine uAd ?_;refine uAn rfl (fun hc=>?_) (fun hc=>?_)
 ·try simp only [nn,uAj,T.rows_len,Fs.rows_len,Sp.rows_len,Gl.rows_len] at hc
  have hd:=uH6 (k:=k) (l:=l) (by omega) hi
  refine uAo ?_;refine uAd ?_;refine uAr ?_;refine uAd (uAb ?_);refine uAa rfl rfl rfl (uAc rfl gU) ?_;refine uAa rfl rfl rfl (uAe rfl gU) ?_;refine uAf ?_;refine uAd (uAb ?_);refine uAa rfl rfl rfl (uAc rfl gU) ?_;refine uAa rfl rfl rfl (uAc rfl gU) ?_;refine uAa rfl rfl rfl (uAc rfl gU) ?_;refine uAa rfl rfl rfl (uAv rfl rfl gU gU rfl rfl rfl (fun hh=>uDi (by first|omega|(simp at hh ⊢; omega)))) ?_;refine uAa rfl rfl rfl (uAU rfl gU rfl rfl rfl) ?_;refine uAu rfl rfl rfl rfl rfl rfl gU gU (uCQ _) rfl ?_;refine uAf ?_;refine uAk (s:=⟨[(0,_,_),(1,_,_),(5,_,_),(7,_,_),(8,_,_),(16,_,_)],[],[],[]⟩) (uAi (⟨sx rfl,sx rfl,sx rfl,sx rfl,sx rfl,sx rfl,trivial⟩) trivial trivial) ?_;refine uAn rfl (fun hc2=>?_) (fun hc2=>?_)
  ·try simp only [nn,uAj,T.rows_len,Fs.rows_len,Sp.rows_len,Gl.rows_len] at hc2
   refine uAd (uAb ?_);refine uAa rfl rfl rfl (uAc rfl gU) ?_;refine uAa rfl rfl rfl (uAe rfl gU) ?_;refine uAf ?_;refine uAp ?_
   repeat(first|refine tR ?_|refine bR ?_)
   refine uAt rfl ?_ trivial;exact uBa (hd.1 (by simpa using hc2)).symm
  ·try simp only [nn,uAj,T.rows_len,Fs.rows_len,Sp.rows_len,Gl.rows_len] at hc2
   refine uAo ?_;refine uAb ?_;refine uAa rfl rfl rfl (uAz rfl rfl gU gU rfl (IntWalk.i64_in _ (by omega))) ?_;refine uAa rfl rfl rfl (uAc rfl gU) ?_;refine uAf ?_;refine ⟨k + 1,?_,?_,uAi (⟨⟨_,rfl,?_⟩,⟨sx rfl,sx rfl,sx rfl,trivial⟩⟩) trivial trivial⟩
   all_goals (first|rfl|omega|exact ⟨by omega,hd.2 (by simpa using hc2)⟩)
 ·try simp only [nn,uAj,T.rows_len,Fs.rows_len,Sp.rows_len,Gl.rows_len] at hc
  refine uAJ ?_
  repeat(first|refine uAC ?_|refine uAD ?_|refine uAB rfl ?_)
  refine uAd (uAb ?_);refine uAa rfl rfl rfl (uAe rfl gU) ?_;refine uAf ?_;refine uAp ?_
  repeat(first|refine tR ?_|refine bR ?_)
  refine uAt rfl ?_ trivial;exact uBa (uJH (by omega) hi).symm
theorem uEW (l : List (List UInt8)) : Ctr sys 110 [xss l, .fn 72 []] [] (xb (l.any fun s=>!uAH s)) none []:=by
 refine uAA Tryz.func110 rfl rfl rfl rfl rfl rfl ?_;refine uAd (uAb ?_);refine uAa rfl rfl rfl (uAe rfl gU) ?_;refine uAf ?_;refine uAd (uAb ?_);refine uAa rfl rfl rfl (uAc rfl gU) ?_;refine uAa rfl rfl rfl (uAc rfl gU) ?_;refine uAu rfl rfl rfl rfl rfl rfl gU gU (uHL _) rfl ?_;refine uAa rfl rfl rfl (uAm rfl rfl gU gU rfl) ?_;refine uAa rfl rfl rfl (uAe rfl gU) ?_;refine uAf ?_;refine uAp ?_
 repeat(first|refine tR ?_|refine bR ?_)
 refine uAt rfl ?_ trivial;exact uCf (uGM _ l)
theorem uGj (l : List (List UInt8)) : (l.any fun s=>!uAH s) = !(l.all uAH):=by
 induction l with
 | nil=>rfl
 | cons x r ih=>rw[List.any_cons,List.all_cons,ih,Bool.not_and]
theorem uNs (n : Nar) : Ctr sys 71 [xn n] [] (xi (uDT uAH n)) none []:=by
 have h1:=uAj n.roles
 have h2:=uAj n.tags
 have h3:=Fs.rows_len n.fresh
 have h4:=Sp.rows_len n.steps
 have h5:=Gl.rows_len n.goals
 refine uAA Tryz.func71 rfl rfl rfl rfl rfl rfl ?_;refine uAd (uAb ?_);refine uAq rfl (uAK rfl rfl rfl rfl) ?_;refine uAa rfl rfl rfl (uAe rfl gU) ?_;refine uAf ?_;refine uAd ?_;refine uAr ?_;refine uAd (uAb ?_);refine uAa rfl rfl rfl (uAg rfl gU rfl rfl) ?_;refine uAa rfl rfl rfl (uAh rfl gU rfl rfl rfl rfl) ?_;refine uAu rfl rfl rfl rfl rfl rfl gU gU (uCQ _) rfl ?_;refine uAa rfl rfl rfl (uAe rfl gU) ?_;refine uAf ?_;refine uAk (s:=⟨[(1,_,_),(5,_,_)],[(.l 1,_)],[],[]⟩) (uAi (⟨sx rfl,sx rfl,trivial⟩) (⟨sx rfl,trivial⟩) trivial) ?_;refine uAn rfl (fun hc=>?_) (fun hc=>?_)
 ·try simp only [nn,uAj,T.rows_len,Fs.rows_len,Sp.rows_len,Gl.rows_len] at hc
  refine uAd (uAb ?_);refine uAa rfl rfl rfl (uAe rfl gU) ?_;refine uAf ?_;refine uAp ?_
  repeat(first|refine tR ?_|refine bR ?_)
  refine uAt rfl ?_ trivial
  (rw[uDT,if_pos (by simpa using hc)]; rfl)
 ·try simp only [nn,uAj,T.rows_len,Fs.rows_len,Sp.rows_len,Gl.rows_len] at hc
  have hn : uAH n.name=true:=by simpa using hc
  have e1 : uDT uAH n=if cntE n≠0 then cntE n else if n.roles.all uAH=false then 2 else if errs (frE uAH) n.fresh≠0 then errs (frE uAH) n.fresh else if n.tags.all uAH=false then 2 else 0:=by rw[uDT,if_neg (by rw[hn]; simp)]
  refine uAd (uAb ?_);refine uAa rfl rfl rfl (uAg rfl gU rfl rfl) ?_;refine uAa rfl rfl rfl (uAh rfl gU rfl rfl rfl rfl) ?_;refine uAI rfl rfl rfl rfl rfl gU rfl rfl ?_ (fun hh=>by simp at hh); intro hlen;refine uAa rfl rfl rfl (uAm rfl rfl gU gU rfl) ?_;refine uAa rfl rfl rfl (uAe rfl gU) ?_;refine uAf ?_;refine uAk (s:=⟨[(1,_,_),(9,_,_)],[(.l 1,_)],[],[]⟩) (uAi (⟨sx rfl,sx rfl,trivial⟩) (⟨sx rfl,trivial⟩) trivial) ?_;refine uAn rfl (fun hc2=>?_) (fun hc2=>?_)
  ·try simp only [nn,uAj,T.rows_len,Fs.rows_len,Sp.rows_len,Gl.rows_len] at hc2
   have : cntE n=8:=by rw[cntE,if_pos (by omega)]
   refine uAd (uAb ?_);refine uAa rfl rfl rfl (uAe rfl gU) ?_;refine uAf ?_;refine uAp ?_
   repeat(first|refine tR ?_|refine bR ?_)
   refine uAt rfl ?_ trivial
   (rw[e1,this]; rfl)
  ·try simp only [nn,uAj,T.rows_len,Fs.rows_len,Sp.rows_len,Gl.rows_len] at hc2
   refine uAd (uAb ?_);refine uAa rfl rfl rfl (uAg rfl gU rfl rfl) ?_;refine uAa rfl rfl rfl (uAh rfl gU rfl rfl rfl rfl) ?_;refine uAI rfl rfl rfl rfl rfl gU rfl rfl ?_ (fun hh=>by simp at hh); intro hlen;refine uAa rfl rfl rfl (uAm rfl rfl gU gU rfl) ?_;refine uAa rfl rfl rfl (uAc rfl gU) ?_;refine uAa rfl rfl rfl (uAg rfl gU rfl rfl) ?_;refine uAa rfl rfl rfl (uAh rfl (fun hh=>hh) rfl rfl rfl rfl) ?_;refine uAa rfl rfl rfl (uA9 rfl (fun hh=>hh) rfl rfl) ?_;refine uAa rfl rfl rfl (uAm rfl rfl (fun hh=>hh) gU rfl) ?_;refine uAa rfl rfl rfl (uAL rfl rfl gU (fun _ hi=>gP rfl hi)) ?_;refine uAa rfl rfl rfl (uAc rfl gU) ?_;refine uAa rfl rfl rfl (uAg rfl gU rfl rfl) ?_;refine uBc (s:=⟨[(1,_,_),(25,_,_),(26,_,_)],[(.l 1,_)],[],[]⟩) (uAi (⟨sx rfl,sx rfl,sx rfl,trivial⟩) (⟨sx rfl,trivial⟩) trivial) ?_;refine uAa rfl rfl rfl (uAh rfl (fun hh=>hh) rfl rfl rfl rfl) ?_;refine uAa rfl rfl rfl (uA9 rfl (fun hh=>hh) rfl rfl) ?_;refine uAa rfl rfl rfl (uAm rfl rfl (fun hh=>hh) gU rfl) ?_;refine uAa rfl rfl rfl (uAL rfl rfl gU (fun _ hi=>gP rfl hi)) ?_;refine uAa rfl rfl rfl (uAe rfl gU) ?_;refine uAf ?_;refine uAk (s:=⟨[(1,_,_),(14,_,_)],[(.l 1,_)],[],[]⟩) (uAi (⟨sx rfl,sx rfl,trivial⟩) (⟨sx rfl,trivial⟩) trivial) ?_
   refine uAn rfl (fun hc3=>?_) (fun hc3=>?_)
   ·try simp only [nn,uAj,T.rows_len,Fs.rows_len,Sp.rows_len,Gl.rows_len] at hc3
    have : cntE n=3:=by rw[cntE,if_neg (by omega),if_pos (by omega)]
    refine uAd (uAb ?_);refine uAa rfl rfl rfl (uAe rfl gU) ?_;refine uAf ?_;refine uAp ?_
    repeat(first|refine tR ?_|refine bR ?_)
    refine uAt rfl ?_ trivial
    (rw[e1,this]; rfl)
   ·try simp only [nn,uAj,T.rows_len,Fs.rows_len,Sp.rows_len,Gl.rows_len] at hc3
    refine uAd (uAb ?_);refine uAa rfl rfl rfl (uAg rfl gU rfl rfl) ?_;refine uAa rfl rfl rfl (uAh rfl gU rfl rfl rfl rfl) ?_;refine uAI rfl rfl rfl rfl rfl gU rfl rfl ?_ (fun hh=>by simp at hh); intro hlen;refine uAa rfl rfl rfl (uAm rfl rfl gU gU rfl) ?_;refine uAa rfl rfl rfl (uAe rfl gU) ?_;refine uAf ?_;refine uAk (s:=⟨[(1,_,_),(31,_,_)],[(.l 1,_)],[],[]⟩) (uAi (⟨sx rfl,sx rfl,trivial⟩) (⟨sx rfl,trivial⟩) trivial) ?_;refine uAn rfl (fun hc4=>?_) (fun hc4=>?_)
    ·try simp only [nn,uAj,T.rows_len,Fs.rows_len,Sp.rows_len,Gl.rows_len] at hc4
     have : cntE n=8:=by rw[cntE,if_neg (by omega),if_neg (by omega),if_pos (by omega)]
     refine uAd (uAb ?_);refine uAa rfl rfl rfl (uAe rfl gU) ?_;refine uAf ?_;refine uAp ?_
     repeat(first|refine tR ?_|refine bR ?_)
     refine uAt rfl ?_ trivial
     (rw[e1,this]; rfl)
    ·try simp only [nn,uAj,T.rows_len,Fs.rows_len,Sp.rows_len,Gl.rows_len] at hc4
     refine uAd (uAb ?_);refine uAa rfl rfl rfl (uAg rfl gU rfl rfl) ?_;refine uAa rfl rfl rfl (uAh rfl gU rfl rfl rfl rfl) ?_;refine uAI rfl rfl rfl rfl rfl gU rfl rfl ?_ (fun hh=>by simp at hh); intro hlen;refine uAa rfl rfl rfl (uAm rfl rfl gU gU rfl) ?_;refine uAa rfl rfl rfl (uAc rfl gU) ?_;refine uAa rfl rfl rfl (uAg rfl gU rfl rfl) ?_;refine uAa rfl rfl rfl (uAh rfl (fun hh=>hh) rfl rfl rfl rfl) ?_;refine uAa rfl rfl rfl (uA9 rfl (fun hh=>hh) rfl rfl) ?_;refine uAa rfl rfl rfl (uAm rfl rfl (fun hh=>hh) gU rfl) ?_;refine uAa rfl rfl rfl (uAL rfl rfl gU (fun _ hi=>gP rfl hi)) ?_;refine uAa rfl rfl rfl (uAe rfl gU) ?_;refine uAf ?_;refine uAk (s:=⟨[(1,_,_),(36,_,_)],[(.l 1,_)],[],[]⟩) (uAi (⟨sx rfl,sx rfl,trivial⟩) (⟨sx rfl,trivial⟩) trivial) ?_;refine uAn rfl (fun hc5=>?_) (fun hc5=>?_)
     ·try simp only [nn,uAj,T.rows_len,Fs.rows_len,Sp.rows_len,Gl.rows_len] at hc5
      have : cntE n=3:=by rw[cntE,if_neg (by omega),if_neg (by omega),if_neg (by omega),if_pos (by omega)]
      refine uAd (uAb ?_);refine uAa rfl rfl rfl (uAe rfl gU) ?_;refine uAf ?_;refine uAp ?_
      repeat(first|refine tR ?_|refine bR ?_)
      refine uAt rfl ?_ trivial
      (rw[e1,this]; rfl)
     ·try simp only [nn,uAj,T.rows_len,Fs.rows_len,Sp.rows_len,Gl.rows_len] at hc5
      have : cntE n=0:=by rw[cntE,if_neg (by omega),if_neg (by omega),if_neg (by omega),if_neg (by omega)]
      rw[if_neg (by rw[this]; simp)] at e1
      refine uAd (uAb ?_);refine uAa rfl rfl rfl (uAg rfl gU rfl rfl) ?_;refine uAa rfl rfl rfl (uAh rfl gU rfl rfl rfl rfl) ?_;refine uAu rfl rfl rfl rfl rfl rfl gU gU (uEW _) rfl ?_;refine uAa rfl rfl rfl (uAe rfl gU) ?_;refine uAf ?_;refine uAn rfl (fun hc6=>?_) (fun hc6=>?_)
      ·rw[uGj] at hc6
       refine uAd (uAb ?_);refine uAa rfl rfl rfl (uAe rfl gU) ?_;refine uAf ?_;refine uAp ?_
       repeat(first|refine tR ?_|refine bR ?_)
       refine uAt rfl ?_ trivial
       (rw[e1,if_pos (by simpa using hc6)]; rfl)
      ·rw[uGj] at hc6
       rw[if_neg (by simpa using hc6)] at e1
       refine uAo ?_;refine uAd ?_;refine uAd (uAb ?_);refine uAa rfl rfl rfl (uAg rfl gU rfl rfl) ?_;refine uAa rfl rfl rfl (uAh rfl gU rfl rfl rfl rfl) ?_;refine uAI rfl rfl rfl rfl rfl gU rfl rfl ?_ (fun hh=>by simp at hh); intro hlen;refine uAa rfl rfl rfl (uAc rfl gU) ?_;refine uAf ?_;refine uAk (s:=⟨[(1,_,_),(52,_,_),(53,_,_),(54,_,_)],[(.l 1,_)],[],[]⟩) (uAi (⟨sx rfl,sx rfl,sx rfl,sx rfl,trivial⟩) (⟨sx rfl,trivial⟩) trivial) ?_;refine uAr ?_;refine uAW (ι:=Nat) { t:=[(1,_,_),(52,_,_),(53,_,_)],bx:=[(.l 1,_)],ow:=[] } (fun k=>[(54,true,xi (k : Int))]) (fun k=>[]) (fun k=>k≤n.fresh.length∧errs (frE uAH) (n.fresh.drop k)=errs (frE uAH) n.fresh) (fun k=>n.fresh.length - k) (0) (by simp) (uAi (⟨sx rfl,sx rfl,sx rfl,sx rfl,trivial⟩) (⟨sx rfl,trivial⟩) trivial) ?_
       intro k hok
       dsimp only [List.cons_append,List.nil_append]
       obtain ⟨hk,hi⟩:=hok
       refine uAd (uAb ?_);refine uAa rfl rfl rfl (uAm rfl rfl gU gU rfl) ?_;refine uAf ?_;refine uAd ?_;refine uAn rfl (fun hc7=>?_) (fun hc7=>?_)
       ·try simp only [nn,uAj,T.rows_len,Fs.rows_len,Sp.rows_len,Gl.rows_len] at hc7
        have hd:=uCn (d:=default) (k:=k) (l:=n.fresh) (by omega) hi
        have hf : frE uAH (n.fresh.getD k default)=if uAH (n.fresh.getD k default).role=false∨uAH (n.fresh.getD k default).name=false then 2 else if (n.fresh.getD k default).sort < 2∨4 < (n.fresh.getD k default).sort then 10 else 0:=rfl
        refine uAo ?_;refine uAd ?_;refine uAr ?_;refine uAd (uAb ?_);refine uAa rfl rfl rfl (uAv rfl rfl gU gU rfl rfl rfl (fun hh=>Fs.rows_at (by first|omega|(simp at hh ⊢; omega)))) ?_;refine uAa rfl rfl rfl (uAE rfl gU rfl rfl rfl rfl) ?_;refine uAq rfl (uAG rfl rfl rfl) ?_;refine uAq rfl (uAy rfl rfl rfl rfl rfl rfl rfl) ?_;refine uAf ?_;refine uAr ?_;refine uAd (uAb ?_);refine uAa rfl rfl rfl (uAg rfl gU rfl rfl) ?_;refine uAa rfl rfl rfl (uAh rfl gU rfl rfl rfl rfl) ?_;refine uAu rfl rfl rfl rfl rfl rfl gU gU (uCQ _) rfl ?_;refine uAa rfl rfl rfl (uAc rfl gU) ?_;refine uAa rfl rfl rfl (uAg rfl gU rfl rfl) ?_;refine uAa rfl rfl rfl (uAh rfl (fun hh=>hh) rfl rfl rfl rfl) ?_;refine uAu rfl rfl rfl rfl rfl rfl gU (fun hh=>gA ((fun hh=>hh) hh) (rfl)) (uCQ _) rfl ?_;refine uAa rfl rfl rfl (uAL rfl rfl gU (fun _ hi=>gP rfl hi)) ?_;refine uBc (s:=⟨[(1,_,_),(4,_,_),(52,_,_),(53,_,_),(54,_,_),(66,_,_)],[(.l 1,_),(.l 4,_)],[],[]⟩) (uAi (⟨sx rfl,sx rfl,sx rfl,sx rfl,sx rfl,sx rfl,trivial⟩) (⟨sx rfl,sx rfl,trivial⟩) trivial) ?_;refine uAa rfl rfl rfl (uAe rfl gU) ?_;refine uAf ?_;refine uAn rfl (fun hc8=>?_) (fun hc8=>?_)
        ·try simp only [nn,uAj,T.rows_len,Fs.rows_len,Sp.rows_len,Gl.rows_len] at hc8
         rw[if_pos (by grind)] at hf
         have := hd.1 (by rw[hf]; simp)
         refine uAd (uAb ?_);refine uAa rfl rfl rfl (uAe rfl gU) ?_;refine uAf ?_;refine uAp ?_
         repeat(first|refine tR ?_|refine bR ?_)
         refine uAt rfl ?_ trivial
         (rw[e1,this,hf]; rfl)
        ·try simp only [nn,uAj,T.rows_len,Fs.rows_len,Sp.rows_len,Gl.rows_len] at hc8
         rw[if_neg (by grind)] at hf
         refine uAd (uAb ?_);refine uAa rfl rfl rfl (uAg rfl gU rfl rfl) ?_;refine uAa rfl rfl rfl (uAh rfl gU rfl rfl rfl rfl) ?_;refine uAa rfl rfl rfl (uAm rfl rfl gU gU rfl) ?_;refine uAa rfl rfl rfl (uAc rfl gU) ?_;refine uAa rfl rfl rfl (uAg rfl gU rfl rfl) ?_;refine uAa rfl rfl rfl (uAh rfl (fun hh=>hh) rfl rfl rfl rfl) ?_;refine uAa rfl rfl rfl (uAm rfl rfl (fun hh=>hh) gU rfl) ?_;refine uAa rfl rfl rfl (uAL rfl rfl gU (fun _ hi=>gP rfl hi)) ?_;refine uAa rfl rfl rfl (uAe rfl gU) ?_;refine uAf ?_;refine uAk (s:=⟨[(1,_,_),(52,_,_),(53,_,_),(54,_,_),(67,_,_)],[(.l 1,_)],[],[]⟩) (uAi (⟨sx rfl,sx rfl,sx rfl,sx rfl,sx rfl,trivial⟩) (⟨sx rfl,trivial⟩) trivial) ?_;refine uAn rfl (fun hc9=>?_) (fun hc9=>?_)
         ·try simp only [nn,uAj,T.rows_len,Fs.rows_len,Sp.rows_len,Gl.rows_len] at hc9
          rw[if_pos (by omega)] at hf
          have := hd.1 (by rw[hf]; simp)
          refine uAd (uAb ?_);refine uAa rfl rfl rfl (uAe rfl gU) ?_;refine uAf ?_;refine uAp ?_
          repeat(first|refine tR ?_|refine bR ?_)
          refine uAt rfl ?_ trivial
          (rw[e1,this,hf]; rfl)
         ·try simp only [nn,uAj,T.rows_len,Fs.rows_len,Sp.rows_len,Gl.rows_len] at hc9
          rw[if_neg (by omega)] at hf
          refine uAo ?_;refine uAb ?_;refine uAa rfl rfl rfl (uAz rfl rfl gU gU rfl (IntWalk.i64_in _ (by omega))) ?_;refine uAa rfl rfl rfl (uAc rfl gU) ?_;refine uAf ?_;refine ⟨k + 1,?_,?_,uAi (⟨⟨_,rfl,?_⟩,⟨sx rfl,sx rfl,sx rfl,trivial⟩⟩) (⟨sx rfl,trivial⟩) trivial⟩
          all_goals (first|rfl|omega|exact ⟨by omega,hd.2 hf⟩)
       ·try simp only [nn,uAj,T.rows_len,Fs.rows_len,Sp.rows_len,Gl.rows_len] at hc7
        have hz:=uDv (by omega) hi
        rw[hz] at e1
        rw[if_neg (by simp)] at e1
        refine uAJ ?_
        repeat(first|refine uAC ?_|refine uAD ?_|refine uAB rfl ?_)
        refine uAd ?_;refine uAd (uAb ?_);refine uAa rfl rfl rfl (uAg rfl gU rfl rfl) ?_;refine uAa rfl rfl rfl (uAh rfl gU rfl rfl rfl rfl) ?_;refine uAu rfl rfl rfl rfl rfl rfl gU gU (uEW _) rfl ?_;refine uAf ?_;refine uAn rfl (fun hc8=>?_) (fun hc8=>?_)
        ·rw[uGj] at hc8
         refine uAd (uAb ?_);refine uAa rfl rfl rfl (uAe rfl gU) ?_;refine uAf ?_;refine uAp ?_
         repeat(first|refine tR ?_|refine bR ?_)
         refine uAt rfl ?_ trivial
         (rw[e1,if_pos (by simpa using hc8)]; rfl)
        ·rw[uGj] at hc8
         refine uAo ?_;refine uAd (uAb ?_);refine uAa rfl rfl rfl (uAe rfl gU) ?_;refine uAf ?_;refine uAp ?_
         repeat(first|refine tR ?_|refine bR ?_)
         refine uAt rfl ?_ trivial
         (rw[e1,if_neg (by simpa using hc8)]; rfl)
theorem uLF (n : Nar) (hs : ∀ s ∈ n.steps,s.msg.size≤900000) (hg : ∀ g ∈ n.goals,T.sizes g.data≤900000) : Ctr sys 37 [xn n] [] (xi (narE uAH n)) none []:=by
 have h4:=Sp.rows_len n.steps
 have h5:=Gl.rows_len n.goals
 refine uAA Tryz.func37 rfl rfl rfl rfl rfl rfl ?_;refine uAd (uAb ?_);refine uAq rfl (uAK rfl rfl rfl rfl) ?_;refine uAa rfl rfl rfl (uAe rfl gU) ?_;refine uAf ?_;refine uAd ?_;refine uAd (uAb ?_);refine uAa rfl rfl rfl (uAl rfl gU rfl rfl rfl rfl rfl) ?_;refine uAu rfl rfl rfl rfl rfl rfl gU gU (uNs _) rfl ?_;refine uAa rfl rfl rfl (uAe rfl gU) ?_;refine uAf ?_;refine uAk (s:=⟨[(1,_,_),(3,_,_)],[(.l 1,_)],[],[]⟩) (uAi (⟨sx rfl,sx rfl,trivial⟩) (⟨sx rfl,trivial⟩) trivial) ?_;refine uAd (uAb ?_);refine uAa rfl rfl rfl (uAc rfl gU) ?_;refine uAa rfl rfl rfl (uAm rfl rfl gU gU rfl) ?_;refine uAf ?_;refine uAn rfl (fun hc=>?_) (fun hc=>?_)
 ·try simp only [nn,uAj,T.rows_len,Fs.rows_len,Sp.rows_len,Gl.rows_len] at hc
  refine uAd (uAb ?_);refine uAa rfl rfl rfl (uAc rfl gU) ?_;refine uAa rfl rfl rfl (uAe rfl gU) ?_;refine uAf ?_;refine uAp ?_
  repeat(first|refine tR ?_|refine bR ?_)
  refine uAt rfl ?_ trivial
  (rw[narE,if_pos hc]; rfl)
 ·try simp only [nn,uAj,T.rows_len,Fs.rows_len,Sp.rows_len,Gl.rows_len] at hc
  have e1 : narE uAH n=if errs (spE uAH) n.steps≠0 then errs (spE uAH) n.steps else errs (uCg uAH) n.goals:=by rw[narE,if_neg (by simpa using hc)]
  refine uAo ?_;refine uAd ?_;refine uAd (uAb ?_);refine uAa rfl rfl rfl (uAg rfl gU rfl rfl) ?_;refine uAa rfl rfl rfl (uAh rfl gU rfl rfl rfl rfl) ?_;refine uAI rfl rfl rfl rfl rfl gU rfl rfl ?_ (fun hh=>by simp at hh); intro hlen;refine uAa rfl rfl rfl (uAc rfl gU) ?_;refine uAf ?_;refine uAk (s:=⟨[(1,_,_),(16,_,_),(17,_,_),(18,_,_)],[(.l 1,_)],[],[]⟩) (uAi (⟨sx rfl,sx rfl,sx rfl,sx rfl,trivial⟩) (⟨sx rfl,trivial⟩) trivial) ?_;refine uAr ?_;refine uAW (ι:=Nat) { t:=[(1,_,_),(16,_,_),(17,_,_)],bx:=[(.l 1,_)],ow:=[] } (fun k=>[(18,true,xi (k : Int))]) (fun k=>[]) (fun k=>k≤n.steps.length∧errs (spE uAH) (n.steps.drop k)=errs (spE uAH) n.steps) (fun k=>n.steps.length - k) (0) (by simp) (uAi (⟨sx rfl,sx rfl,sx rfl,sx rfl,trivial⟩) (⟨sx rfl,trivial⟩) trivial) ?_
  intro k hok
  dsimp only [List.cons_append,List.nil_append]
  obtain ⟨hk,hi⟩:=hok
  refine uAd (uAb ?_);refine uAa rfl rfl rfl (uAm rfl rfl gU gU rfl) ?_;refine uAf ?_;refine uAd ?_;refine uAn rfl (fun hc2=>?_) (fun hc2=>?_)
  ·try simp only [nn,uAj,T.rows_len,Fs.rows_len,Sp.rows_len,Gl.rows_len] at hc2
   have hlt : k < n.steps.length:=by omega
   have hd:=uCn (d:=default) (k:=k) (l:=n.steps) (by omega) hi
   have hm:=hs _ (uFE (d:=default) hlt)
   have hf : spE uAH (n.steps.getD k default)=if uAH (n.steps.getD k default).frm=false∨uAH (n.steps.getD k default).dst=false then 2 else msgE uAH (n.steps.getD k default).msg:=rfl
   refine uAo ?_;refine uAd ?_;refine uAr ?_;refine uAd (uAb ?_);refine uAa rfl rfl rfl (uAv rfl rfl gU gU rfl rfl rfl (fun hh=>Sp.rows_at (by first|omega|(simp at hh ⊢; omega)))) ?_;refine uAa rfl rfl rfl (uAE rfl gU rfl rfl rfl rfl) ?_;refine uAq rfl (uAG rfl rfl rfl) ?_;refine uAq rfl (uAy rfl rfl rfl rfl rfl rfl rfl) ?_;refine uAf ?_;refine uAd ?_;refine uAd (uAb ?_);refine uAa rfl rfl rfl (uAg rfl gU rfl rfl) ?_;refine uAa rfl rfl rfl (uAh rfl gU rfl rfl rfl rfl) ?_;refine uAu rfl rfl rfl rfl rfl rfl gU gU (uCQ _) rfl ?_;refine uAa rfl rfl rfl (uAc rfl gU) ?_;refine uAa rfl rfl rfl (uAg rfl gU rfl rfl) ?_;refine uAa rfl rfl rfl (uAh rfl (fun hh=>hh) rfl rfl rfl rfl) ?_;refine uAu rfl rfl rfl rfl rfl rfl gU (fun hh=>gA ((fun hh=>hh) hh) (rfl)) (uCQ _) rfl ?_;refine uAa rfl rfl rfl (uAL rfl rfl gU (fun _ hi=>gP rfl hi)) ?_;refine uAf ?_;refine uAk (s:=⟨[(1,_,_),(5,_,_),(16,_,_),(17,_,_),(18,_,_),(29,_,_)],[(.l 1,_),(.l 5,_)],[],[]⟩) (uAi (⟨sx rfl,sx rfl,sx rfl,sx rfl,sx rfl,sx rfl,trivial⟩) (⟨sx rfl,sx rfl,trivial⟩) trivial) ?_;refine uAn rfl (fun hc3=>?_) (fun hc3=>?_)
   ·try simp only [nn,uAj,T.rows_len,Fs.rows_len,Sp.rows_len,Gl.rows_len] at hc3
    rw[if_pos (by grind)] at hf
    have := hd.1 (by rw[hf]; simp)
    refine uAd (uAb ?_);refine uAa rfl rfl rfl (uAe rfl gU) ?_;refine uAf ?_;refine uAp ?_
    repeat(first|refine tR ?_|refine bR ?_)
    refine uAt rfl ?_ trivial
    (rw[e1,this,hf]; rfl)
   ·try simp only [nn,uAj,T.rows_len,Fs.rows_len,Sp.rows_len,Gl.rows_len] at hc3
    rw[if_neg (by grind)] at hf
    refine uAo ?_;refine uAd (uAb ?_);refine uAa rfl rfl rfl (uAg rfl gU rfl rfl) ?_;refine uAa rfl rfl rfl (uAl rfl gU rfl rfl rfl rfl rfl) ?_;refine uAu rfl rfl rfl rfl rfl rfl gU gU (uFD (n.steps.getD k default).msg hm) rfl ?_;refine uAa rfl rfl rfl (uAe rfl gU) ?_;refine uAf ?_;refine uAd (uAb ?_);refine uAa rfl rfl rfl (uAc rfl gU) ?_;refine uAa rfl rfl rfl (uAm rfl rfl gU gU rfl) ?_;refine uAf ?_;refine uAk (s:=⟨[(1,_,_),(6,_,_),(16,_,_),(17,_,_),(18,_,_),(34,_,_)],[(.l 1,_)],[],[]⟩) (uAi (⟨sx rfl,sx rfl,sx rfl,sx rfl,sx rfl,sx rfl,trivial⟩) (⟨sx rfl,trivial⟩) trivial) ?_;refine uAn rfl (fun hc4=>?_) (fun hc4=>?_)
    ·try simp only [nn,uAj,T.rows_len,Fs.rows_len,Sp.rows_len,Gl.rows_len] at hc4
     have := hd.1 (by rw[hf]; exact hc4)
     refine uAd (uAb ?_);refine uAa rfl rfl rfl (uAc rfl gU) ?_;refine uAa rfl rfl rfl (uAe rfl gU) ?_;refine uAf ?_;refine uAp ?_
     repeat(first|refine tR ?_|refine bR ?_)
     refine uAt rfl ?_ trivial
     (rw[e1,this,hf,if_pos hc4]; rfl)
    ·try simp only [nn,uAj,T.rows_len,Fs.rows_len,Sp.rows_len,Gl.rows_len] at hc4
     refine uAo ?_;refine uAb ?_;refine uAa rfl rfl rfl (uAz rfl rfl gU gU rfl (IntWalk.i64_in _ (by omega))) ?_;refine uAa rfl rfl rfl (uAc rfl gU) ?_;refine uAf ?_;refine ⟨k + 1,?_,?_,uAi (⟨⟨_,rfl,?_⟩,⟨sx rfl,sx rfl,sx rfl,trivial⟩⟩) (⟨sx rfl,trivial⟩) trivial⟩
     all_goals (first|rfl|omega|exact ⟨by omega,hd.2 (by rw[hf]; simpa using hc4)⟩)
  ·try simp only [nn,uAj,T.rows_len,Fs.rows_len,Sp.rows_len,Gl.rows_len] at hc2
   have hz:=uDv (by omega) hi
   rw[hz,if_neg (by simp)] at e1
   refine uAJ ?_
   repeat(first|refine uAC ?_|refine uAD ?_|refine uAB rfl ?_)
   refine uAd ?_;refine uAd (uAb ?_);refine uAa rfl rfl rfl (uAg rfl gU rfl rfl) ?_;refine uAa rfl rfl rfl (uAh rfl gU rfl rfl rfl rfl) ?_;refine uAI rfl rfl rfl rfl rfl gU rfl rfl ?_ (fun hh=>by simp at hh); intro hlen;refine uAa rfl rfl rfl (uAc rfl gU) ?_;refine uAf ?_;refine uAk (s:=⟨[(38,_,_),(39,_,_),(40,_,_)],[],[],[]⟩) (uAi (⟨sx rfl,sx rfl,sx rfl,trivial⟩) trivial trivial) ?_;refine uAr ?_;refine uAW (ι:=Nat) { t:=[(38,_,_),(39,_,_)],bx:=[],ow:=[] } (fun k=>[(40,true,xi (k : Int))]) (fun k=>[]) (fun k=>k≤n.goals.length∧errs (uCg uAH) (n.goals.drop k)=errs (uCg uAH) n.goals) (fun k=>n.goals.length - k) (0) (by simp) (uAi (⟨sx rfl,sx rfl,sx rfl,trivial⟩) trivial trivial) ?_
   intro k hok2
   dsimp only [List.cons_append,List.nil_append]
   obtain ⟨hk2,hi2⟩:=hok2
   refine uAd (uAb ?_);refine uAa rfl rfl rfl (uAm rfl rfl gU gU rfl) ?_;refine uAf ?_;refine uAd ?_;refine uAn rfl (fun hc5=>?_) (fun hc5=>?_)
   ·try simp only [nn,uAj,T.rows_len,Fs.rows_len,Sp.rows_len,Gl.rows_len] at hc5
    have hlt : k < n.goals.length:=by omega
    have hd:=uCn (d:=default) (k:=k) (l:=n.goals) (by omega) hi2
    have hm:=hg _ (uFE (d:=default) hlt)
    refine uAo ?_;refine uAd ?_;refine uAr ?_;refine uAd (uAb ?_);refine uAa rfl rfl rfl (uAv rfl rfl gU gU rfl rfl rfl (fun hh=>Gl.rows_at (by first|omega|(simp at hh ⊢; omega)))) ?_;refine uAa rfl rfl rfl (uAE rfl gU rfl rfl rfl rfl) ?_;refine uAq rfl (uAG rfl rfl rfl) ?_;refine uAq rfl (uAy rfl rfl rfl rfl rfl rfl rfl) ?_;refine uAf ?_;refine uAd (uAb ?_);refine uAa rfl rfl rfl (uAl rfl gU rfl rfl rfl rfl rfl) ?_;refine uAu rfl rfl rfl rfl rfl rfl gU gU (uNw (n.goals.getD k default) hm) rfl ?_;refine uAa rfl rfl rfl (uAe rfl gU) ?_;refine uAf ?_;refine uAk (s:=⟨[(9,_,_),(38,_,_),(39,_,_),(40,_,_)],[],[],[]⟩) (uAi (⟨sx rfl,sx rfl,sx rfl,sx rfl,trivial⟩) trivial trivial) ?_;refine uAd (uAb ?_);refine uAa rfl rfl rfl (uAc rfl gU) ?_;refine uAa rfl rfl rfl (uAm rfl rfl gU gU rfl) ?_;refine uAf ?_;refine uAn rfl (fun hc6=>?_) (fun hc6=>?_)
    ·try simp only [nn,uAj,T.rows_len,Fs.rows_len,Sp.rows_len,Gl.rows_len] at hc6
     have := hd.1 hc6
     refine uAd (uAb ?_);refine uAa rfl rfl rfl (uAc rfl gU) ?_;refine uAa rfl rfl rfl (uAe rfl gU) ?_;refine uAf ?_;refine uAp ?_
     repeat(first|refine tR ?_|refine bR ?_)
     refine uAt rfl ?_ trivial
     (rw[e1,this]; rfl)
    ·try simp only [nn,uAj,T.rows_len,Fs.rows_len,Sp.rows_len,Gl.rows_len] at hc6
     refine uAo ?_;refine uAb ?_;refine uAa rfl rfl rfl (uAz rfl rfl gU gU rfl (IntWalk.i64_in _ (by omega))) ?_;refine uAa rfl rfl rfl (uAc rfl gU) ?_;refine uAf ?_;refine ⟨k + 1,?_,?_,uAi (⟨⟨_,rfl,?_⟩,⟨sx rfl,sx rfl,trivial⟩⟩) trivial trivial⟩
     all_goals (first|rfl|omega|exact ⟨by omega,hd.2 (by simpa using hc6)⟩)
   ·try simp only [nn,uAj,T.rows_len,Fs.rows_len,Sp.rows_len,Gl.rows_len] at hc5
    have hz2:=uDv (by omega) hi2
    refine uAJ ?_
    repeat(first|refine uAC ?_|refine uAD ?_|refine uAB rfl ?_)
    refine uAd (uAb ?_);refine uAa rfl rfl rfl (uAe rfl gU) ?_;refine uAf ?_;refine uAp ?_
    repeat(first|refine tR ?_|refine bR ?_)
    refine uAt rfl ?_ trivial
    (rw[e1,hz2]; rfl)
open Go.RowKit (Below)
theorem uEH (l : List T) (t : T) : X.v (.c (.sl 4 (T.rows l++[t.cells])))=xl (l++[t]):=by simp [xl,T.rows_eq]
end Go.Proofs.YteidahabkfgfjaaGreat
namespace Go.Proofs.YteidahabkfgfjaaGreat
open Go Go.Abs
def pbx (l : List Tk) (p : PS) : List C:=[.sl 5 (Tk.rows l), .i .i64 (p.at' : Int), .b p.bad]
theorem uOb {l : List Tk} {a : Int} {b : Bool} {p : PS} (h1 : a=p.at') (h2 : b=p.bad) : ([.sl 5 (Tk.rows l), .i .i64 a, .b b] : List C)=pbx l p:=by rw[h1,h2]; rfl
theorem uLM (l : List (List UInt8)) (s : List UInt8) : Ctr sys 53 [xss l,xs s] [] (xi (idxF (fun x=>decide (s=x)) l)) none []:=by
 have hrl:=uAj l
 refine uAA Tryz.func53 rfl rfl rfl rfl rfl rfl ?_;refine uAd (uAb ?_);refine uAa rfl rfl rfl (uAe rfl gU) ?_;refine uAf ?_;refine uAd ?_;refine uAd (uAb ?_);refine uAa rfl rfl rfl (uAc rfl gU) ?_;refine uAI rfl rfl rfl rfl rfl gU rfl rfl ?_ (fun hh=>by simp at hh); intro hlen;refine uAa rfl rfl rfl (uAc rfl gU) ?_;refine uAf ?_;refine uAr ?_;refine uAW (ι:=Nat) { t:=[(0,_,_),(1,_,_),(7,_,_)],bx:=[],ow:=[] } (fun k=>[(8,true,xi (k : Int))]) (fun k=>[]) (fun k=>k≤l.length∧(if idxF (fun x=>decide (s=x)) (l.drop k) < 0 then -1 else idxF (fun x=>decide (s=x)) (l.drop k) + k)=idxF (fun x=>decide (s=x)) l) (fun k=>l.length - k) (0) (⟨by simp,(uHq _ _).trans (uIE _ _)⟩) (uAi (⟨sx rfl,sx rfl,sx rfl,sx rfl,trivial⟩) trivial trivial) ?_
 intro k hok
 dsimp only [List.cons_append,List.nil_append]
 obtain ⟨hk,hi⟩:=hok
 refine uAd (uAb ?_);refine uAa rfl rfl rfl (uAm rfl rfl gU gU rfl) ?_;refine uAf ?_;refine uAd ?_;refine uAn rfl (fun hc=>?_) (fun hc=>?_)
 ·try simp only [nn,uAj,T.rows_len,Tk.rows_len] at hc
  have hd:=uH6 (k:=k) (l:=l) (by omega) hi
  refine uAo ?_;refine uAd ?_;refine uAr ?_;refine uAd (uAb ?_);refine uAa rfl rfl rfl (uAc rfl gU) ?_;refine uAa rfl rfl rfl (uAe rfl gU) ?_;refine uAf ?_;refine uAd (uAb ?_);refine uAa rfl rfl rfl (uAc rfl gU) ?_;refine uAa rfl rfl rfl (uAc rfl gU) ?_;refine uAa rfl rfl rfl (uAc rfl gU) ?_;refine uAa rfl rfl rfl (uAv rfl rfl gU gU rfl rfl rfl (fun hh=>uDi (by first|omega|(simp at hh ⊢; omega)))) ?_;refine uAa rfl rfl rfl (uAU rfl gU rfl rfl rfl) ?_;refine uAa rfl rfl rfl (uA7 rfl rfl gU gU rfl) ?_;refine uAf ?_;refine uAk (s:=⟨[(0,_,_),(1,_,_),(5,_,_),(7,_,_),(8,_,_),(16,_,_)],[],[],[]⟩) (uAi (⟨sx rfl,sx rfl,sx rfl,sx rfl,sx rfl,sx rfl,trivial⟩) trivial trivial) ?_;refine uAn rfl (fun hc2=>?_) (fun hc2=>?_)
  ·try simp only [nn,uAj,T.rows_len,Tk.rows_len] at hc2
   refine uAd (uAb ?_);refine uAa rfl rfl rfl (uAc rfl gU) ?_;refine uAa rfl rfl rfl (uAe rfl gU) ?_;refine uAf ?_;refine uAp ?_
   repeat(first|refine tR ?_|refine bR ?_)
   refine uAt rfl ?_ trivial;exact uBa (hd.1 (by simpa using hc2)).symm
  ·try simp only [nn,uAj,T.rows_len,Tk.rows_len] at hc2
   refine uAo ?_;refine uAb ?_;refine uAa rfl rfl rfl (uAz rfl rfl gU gU rfl (IntWalk.i64_in _ (by omega))) ?_;refine uAa rfl rfl rfl (uAc rfl gU) ?_;refine uAf ?_;refine ⟨k + 1,?_,?_,uAi (⟨⟨_,rfl,?_⟩,⟨sx rfl,sx rfl,sx rfl,trivial⟩⟩) trivial trivial⟩
   all_goals (first|rfl|omega|exact ⟨by omega,hd.2 (by simpa using hc2)⟩)
 ·try simp only [nn,uAj,T.rows_len,Tk.rows_len] at hc
  refine uAJ ?_
  repeat(first|refine uAC ?_|refine uAD ?_|refine uAB rfl ?_)
  refine uAd (uAb ?_);refine uAa rfl rfl rfl (uAe rfl gU) ?_;refine uAf ?_;refine uAp ?_
  repeat(first|refine tR ?_|refine bR ?_)
  refine uAt rfl ?_ trivial;exact uBa (uJH (by omega) hi).symm
theorem uFF (s : List UInt8) : ∀ l : List (List UInt8),(l.any fun x=>decide (s=x))=l.contains s
 | []=>rfl
 | x :: l=>by
  rw[List.any_cons,List.contains_cons,uFF s l]
  congr 1
  rw[Bool.eq_iff_iff]; simp
theorem uCj (l : List (List UInt8)) (s : List UInt8) : Ctr sys 77 [xss l,xs s] [] (xb (l.contains s)) none []:=by
 refine uAA Tryz.func77 rfl rfl rfl rfl rfl rfl ?_;refine uAd (uAb ?_);refine uAa rfl rfl rfl (uAe rfl gU) ?_;refine uAf ?_;refine uAd (uAb ?_);refine uAa rfl rfl rfl (uAc rfl gU) ?_;refine uAa rfl rfl rfl (uAc rfl gU) ?_;refine uAu rfl rfl rfl rfl rfl rfl gU gU (uLM _ _) rfl ?_;refine uAa rfl rfl rfl (uAm rfl rfl gU gU rfl) ?_;refine uAa rfl rfl rfl (uAe rfl gU) ?_;refine uAf ?_;refine uAp ?_
 repeat(first|refine tR ?_|refine bR ?_)
 refine uAt rfl ?_ trivial;exact uCf ((uGM _ l).trans (uFF s l))
end Go.Proofs.YteidahabkfgfjaaGreat
namespace Go.Abs
variable {Z : Pg}
theorem uOD {N : Nat} {ops : Array Oper} {st : St} {o : Oper} {d : Nat} {x : X} (hg : uA8 ops st o=some false) (hd : o.dst=some d) (hN : Nat.ble (d + 1) N=true) : Op1 Z N ops o st (st.put d (false,x)):=by
 intro E G a w hr hE K Q hK
 have hdN : d < E.nt:=by rw[hE.nt]; exact Nat.le_of_ble_eq_true hN
 rw[uBt hr hg,hd]
 rw[hd] at hK
 simp only [Bool.false_eq_true,if_false]
 exact hK G undef w (hr.put hdN (fun hf=>by simp at hf) (fun _=>rfl))
theorem uMA {N : Nat} {ops : Array Oper} {rest : List Oper} {K : St→Prop} {st : St} {o : Oper} {d : Nat} (x : X) (hg : uA8 ops st o=some false) (hd : o.dst=some d) (hN : Nat.ble (d + 1) N=true)
  (h : AL Z N ops rest K (st.put d (false,x))) : AL Z N ops (o :: rest) K st:=uDb (uOD hg hd hN) h
end Go.Abs
namespace Go.Abs
def uQh (s : St) (os : OS) : Bool:=os.all fun e=>match s.own (.b (.o e.1) e.2.1) with
 | some z=>Nat.beq z e.2.2
 | none=>false
theorem uJP {T : List (Option TyI)} {rs : List ResultVar} {res x : X} {bs' : List (List C)} {os : OS} {s : St} (h : resX T s rs=some x) (hx : x=res) (hb : subB s (uDa 0 bs')) (ho : uQh s os=true) : retO T rs res bs' os .box .normal s:=by
 have h1 : retS T rs res none bs' .ret s:=uAt h hx hb
 refine ⟨h1.1,h1.2.2,fun e he=>?_⟩
 have := List.all_eq_true.1 ho e he
 split at this
 ·rename_i z hz; rw[hz,Nat.eq_of_beq_eq_true this]
 ·simp at this
end Go.Abs
namespace Go.Abs
variable {Z : Pg}
section
variable {N : Nat} {st s0 : St} {ops : Array Oper} {B : List Nat} {q : Nat} {rest : List Oper} {acc : List Lnk} {o : Oper} {Q : St→Prop} {d : Nat}
end
theorem uEu (j' : Nat) {N : Nat} {ops : Array Oper} {rest : List Oper} {K : St→Prop} {st : St} {o : Oper} {d k : Nat} {x : Operand} {t : TypeId} {sz e by' L m0 : Nat} {cs : List C} {xs : List (List C)} {ti : TyI}
  (ho : o.op = .call { callee:=.builtin .append,args:=#[.tmp k,x],argTypes:=#[t,t] }) (hg : uA8 ops st o=some true) (hd : o.dst=some d)
  (hs : st.get k=some (true, .v (.ms (.l m0) sz 0 L))) (hw : st.own (.t k)=some sz) (hb : st.box (.l m0)=some cs) (hx : lk Z.T st t x=some (true, .v (.c (.sl sz xs))))
  (ht : tyAt Z.T t=some ti) (hel : ti.el=some (e,sz,by')) (hN : Nat.ble (d + 1) N=true) (hkd : Nat.beq k d=false) (hf1 : st.freshO (.l j',true)=true) (hf2 : st.freshO (.l m0,false)=true) (hcl : cs.length=L * sz) (hx1 : 1≤xs.length)
  (hbig : (L + xs.length) * by'≤140737488355328) (hmax : L + xs.length≤9223372036854775807)
  (h : AL Z N ops rest K (st.msApp d k j' (.l m0) sz (L + xs.length) (cs++xs.flatten))) (hz : Z.old=false:=by rfl) : AL Z N ops (o :: rest) K st :=
 uDb (uHF hg (by
  rw[hd,ho]
  exact uLG hs hw hx ht hel hN hkd ⟨_,rfl⟩ (St.freshO_ok hf1) (St.freshO_ok hf2) hcl hx1 hbig hmax (uQM hb hcl) (hz:=hz))) h
end Go.Abs
namespace Go.Abs
def uQP (s : St) (n : Nm) (L : Nat) (os : OS) : Bool:=os.all fun e=>Nat.beq e.1 0 && Nat.blt e.2.1 L && match s.own (.b n e.2.1) with
 | some z=>Nat.beq z e.2.2
 | none=>false
theorem uBq {T : List (Option TyI)} {res x : X} {bs' : List (List C)} {os : OS} {s : St} {b t : Nat} {r : List ResultVar} {n : Nm} {cs : List C} {ti : TyI} (h : resX T s (.cell b t :: r)=some x) (hx : x=res) (hb : subB s (uDa 0 bs')) (hne : r≠[])
  (hg : s.get b=some (true, .v (.ptr n 0))) (hbn : s.box n=some cs) (ht : tyAt T t=some ti) (hagg : ti.agg=true) (hln : Nat.beq cs.length ti.n=true) (ho : uQP s n cs.length os=true) : retO T (.cell b t :: r) res bs' os .res .ret s:=by
 have h1 : retS T (.cell b t :: r) res none bs' .ret s:=uAt h hx hb
 refine ⟨h1.1,h1.2.2,b,t,r,n,cs,ti,rfl,hne,hg,hbn,ht,hagg,hln,fun e he=>?_⟩
 have := List.all_eq_true.1 ho e he
 rw[Bool.and_eq_true,Bool.and_eq_true] at this
 obtain ⟨⟨h2,h3⟩,h4⟩:=this
 refine ⟨Nat.eq_of_beq_eq_true h2,?_,?_⟩
 ·split at h4
  ·rename_i z hz; rw[hz,Nat.eq_of_beq_eq_true h4]
  ·simp at h4
 ·have := Nat.le_of_ble_eq_true h3; omega
end Go.Abs
