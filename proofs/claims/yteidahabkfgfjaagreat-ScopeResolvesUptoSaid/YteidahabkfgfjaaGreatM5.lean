/- Our abstract program logic and contracts of this seat's functions, part 5: no statement of its own (long names of ours are shortened by a program). -/
import Derived.Test.YteidahabkfgfjaaGreatM4
import Derived.RangeFuncNested
import Derived.RangeFuncLeaves
import Derived.Shelf.Abstract
import Derived.WalkKit
import Derived.OwnWalkIn
import Derived.TacticsInMore
import Derived.LoopNIn
import Derived.LoopIn
import Derived.KernelRfl
set_option linter.unusedVariables false
set_option linter.unusedSimpArgs false
namespace Go.Proofs.YteidahabkfgfjaaGreat
open Go Go.Abs
def occA (s : List UInt8) : Nat→T→Bool
 | 0,_=>false
 | n + 1,t=>(decide (t.kind=2) && decide (t.name=s)) || t.kids.any (occA s n)
def occT (s : List UInt8) (t : T) : Bool:=occA s t.size t
theorem uIv {α : Type} {l : List α} {p q : α→Bool} (h : ∀ x ∈ l,p x=q x) : l.any p=l.any q:=by
 induction l with
 | nil=>rfl
 | cons x l ih=>rw[List.any_cons,List.any_cons,h x (by simp),ih fun y hy=>h y (by simp [hy])]
theorem uIl (s : List UInt8) : ∀ (n m : Nat) (t : T),t.size≤n→t.size≤m→occA s n t=occA s m t
 | 0,_,t,h,_=>by have := t.size_pos; omega
 | _,0,t,_,h=>by have := t.size_pos; omega
 | n + 1,m + 1,t,hn,hm=>by
  rw[occA,occA]
  congr 1
  exact uIv fun x hx=>by
   have := uB3 hx
   exact uIl s n m x (by omega) (by omega)
theorem uPI (s : List UInt8) (t : T) : occT s t=((decide (t.kind=2) && decide (t.name=s)) || t.kids.any (occT s)):=by
 obtain ⟨m,hm⟩ : ∃ m,t.size=m + 1 := ⟨t.size - 1,by have := t.size_pos; omega⟩
 conv=>lhs; unfold occT
 rw[hm,occA]
 congr 1
 exact uIv fun x hx=>by
  have := uB3 hx
  exact uIl s m x.size x (by omega) (by omega)
def idxT (p : T→Bool) : List T→Int
 | []=>-1
 | t :: r=>if p t=true then 0 else if idxT p r < 0 then -1 else idxT p r + 1
theorem uJ1 (p : T→Bool) : ∀ l : List T,decide (0≤idxT p l)=l.any p
 | []=>rfl
 | t :: r=>by
  have ih:=uJ1 p r
  rw[List.any_cons,idxT]
  by_cases h : p t=true
  ·rw[if_pos h,h]; rfl
  ·rw[if_neg h,← ih]
   rw[Bool.not_eq_true] at h
   rw[h,Bool.false_or]
   split
   ·rename_i q
    rw[Bool.eq_iff_iff,decide_eq_true_iff,decide_eq_true_iff]; omega
   ·rename_i q
    rw[Bool.eq_iff_iff,decide_eq_true_iff,decide_eq_true_iff]; omega
theorem uOJ {p : T→Bool} {l : List T} {k : Nat} (hk : k < l.length) (h : ∀ j,j < k→p (l.getD j default)=false) (hx : p (l.getD k default)=true) : idxT p l=(k : Int):=by
 induction l generalizing k with
 | nil=>simp at hk
 | cons t r ih =>
  cases k with
  | zero=>rw[idxT,if_pos (by simpa using hx)]; rfl
  | succ k =>
   have h0:=h 0 (by omega)
   have := ih (k := k) (by simpa using hk) (fun j hj=>by simpa using h (j + 1) (by omega)) (by simpa using hx)
   rw[idxT,if_neg (by simpa using h0),this,if_neg (by omega)]; push_cast; rfl
theorem uML {p : T→Bool} {l : List T} (h : ∀ j,j < l.length→p (l.getD j default)=false) : idxT p l = -1:=by
 induction l with
 | nil=>rfl
 | cons t r ih =>
  have h0:=h 0 (by simp)
  rw[idxT,if_neg (by simpa using h0),ih fun j hj=>by simpa using h (j + 1) (by simpa using hj)]
  rfl
theorem uM3 (s : List UInt8) (t : T) (h : Ctr sysO 47 [xm t,xs s] [] (xb (occT s t)) none []) : CtrO sysO 88 [xm t, .v (.ptr (.o 0) 0)] [[.s s]] [] (xb (occT s t)) [[.s s]] .box:=by
 refine uBM Tryz.func88 rfl rfl rfl rfl rfl rfl rfl ?_;refine uAd (uAb ?_);refine uAs rfl (uAH rfl rfl rfl rfl) ?_;refine uAa rfl rfl rfl (uAe rfl gU) ?_;refine uAf ?_;refine uAd (uAb ?_);refine uAa rfl rfl rfl (uAn rfl gU rfl rfl rfl rfl rfl) ?_;refine uAa rfl rfl rfl (uAh rfl gU rfl rfl rfl rfl) ?_;refine uAx rfl rfl rfl rfl rfl rfl gU gU (h) rfl ?_;refine uAa rfl rfl rfl (uAe rfl gU) ?_;refine uAf ?_;refine uAq ?_
 repeat(first|refine tR ?_|refine bR ?_)
 refine uC3 rfl ?_ (⟨⟨_,rfl,?_⟩,trivial⟩) (by kernel_rfl)
 all_goals rfl
theorem uKm (s : List UInt8) (ks : List T) (hl : ks.length≤900000) (h : ∀ t ∈ ks,Ctr sysO 47 [xm t,xs s] [] (xb (occT s t)) none []) : CtrO sysO 64 [xl ks, .fn 88 [.ptr (.o 0) 0]] [[.s s]] [] (xi (idxT (occT s) ks)) [[.s s]] .box:=by
 have hr:=T.rows_len ks
 refine uBM Tryz.func64 rfl rfl rfl rfl rfl rfl rfl ?_;refine uAd (uAb ?_);refine uAa rfl rfl rfl (uAe rfl gU) ?_;refine uAf ?_;refine uAd ?_;refine uAd (uAb ?_);refine uAa rfl rfl rfl (uAc rfl gU) ?_;refine uAI rfl rfl rfl rfl rfl gU rfl rfl ?_ (fun hh=>by simp at hh); intro hlen;refine uAa rfl rfl rfl (uAc rfl gU) ?_;refine uAf ?_;refine uAt ?_;refine uAW (ι:=Nat) { t:=[(0,_,_),(1,_,_),(7,_,_)],bx:=[(.o 0,_)],ow:=[] } (fun k=>[(8,true,xi (k : Int))]) (fun k=>[]) (fun k=>k≤ks.length ∧ ∀ j,j < k→occT s (ks.getD j default)=false) (fun k=>ks.length - k) (0) (⟨by omega,fun j hj=>by omega⟩) (uAj (⟨sx rfl,sx rfl,sx rfl,sx rfl,trivial⟩) (⟨sx rfl,trivial⟩) trivial) ?_
 intro k hok
 dsimp only [List.cons_append,List.nil_append]
 obtain ⟨hk,hi⟩:=hok
 refine uAd (uAb ?_);refine uAa rfl rfl rfl (uAm rfl rfl gU gU rfl) ?_;refine uAf ?_;refine uAd ?_;refine uAo rfl (fun hc=>?_) (fun hc=>?_)
 ·try simp only [nn,uAi,T.rows_len,Gl.rows_len,Fs.rows_len,Sp.rows_len] at hc
  have hlt : k < ks.length:=by omega
  refine uAp ?_;refine uAd ?_;refine uAt ?_;refine uAd (uAb ?_);refine uAa rfl rfl rfl (uAc rfl gU) ?_;refine uAa rfl rfl rfl (uAe rfl gU) ?_;refine uAf ?_;refine uAd (uAb ?_);refine uAa rfl rfl rfl (uAc rfl gU) ?_;refine uAa rfl rfl rfl (uAc rfl gU) ?_;refine uAa rfl rfl rfl (uAc rfl gU) ?_;refine uAa rfl rfl rfl (uAr rfl rfl gU gU rfl rfl rfl (fun hh=>T.rows_at (by first|omega|(simp at hh ⊢; omega)))) ?_;refine uAa rfl rfl rfl (uAD rfl gU rfl rfl rfl rfl) ?_;refine uEG [⟨.o 0,0,[.s s],[.s s]⟩] [] rfl rfl rfl rfl rfl rfl (ps1 rfl) rfl rfl (uM3 s (ks.getD k default) (h _ (uBz hlt))) rfl rfl rfl ?_;refine uAf ?_;refine uAk (s:=⟨[(0,_,_),(1,_,_),(5,_,_),(7,_,_),(8,_,_),(16,_,_)],[(.o 0,_)],[],[]⟩) (uAj (⟨sx rfl,sx rfl,sx rfl,sx rfl,sx rfl,sx rfl,trivial⟩) (⟨sx rfl,trivial⟩) trivial) ?_;refine uAo rfl (fun hc2=>?_) (fun hc2=>?_)
  ·try simp only [nn,uAi,T.rows_len,Gl.rows_len,Fs.rows_len,Sp.rows_len] at hc2
   rw[uOJ hlt hi hc2]
   refine uAd (uAb ?_);refine uAa rfl rfl rfl (uAc rfl gU) ?_;refine uAa rfl rfl rfl (uAe rfl gU) ?_;refine uAf ?_;refine uAq ?_
   repeat(first|refine tR ?_|refine bR ?_)
   refine uC3 rfl ?_ (⟨⟨_,rfl,?_⟩,trivial⟩) (by kernel_rfl)
   all_goals rfl
  ·try simp only [nn,uAi,T.rows_len,Gl.rows_len,Fs.rows_len,Sp.rows_len] at hc2
   have hi2 : ∀ j,j < k + 1→occT s (ks.getD j default)=false:=fun j q=>by
    by_cases e : j=k
    ·subst e; exact hc2
    ·exact hi j (by omega)
   refine uAp ?_;refine uAb ?_;refine uAa rfl rfl rfl (uAz rfl rfl gU gU rfl (IntWalk.i64_in _ (by omega))) ?_;refine uAa rfl rfl rfl (uAc rfl gU) ?_;refine uAf ?_;refine ⟨k + 1,?_,?_,uAj (⟨⟨_,rfl,?_⟩,⟨sx rfl,sx rfl,sx rfl,trivial⟩⟩) (⟨sx rfl,trivial⟩) trivial⟩
   all_goals (first|rfl|omega|exact ⟨by omega,hi2⟩)
 ·try simp only [nn,uAi,T.rows_len,Gl.rows_len,Fs.rows_len,Sp.rows_len] at hc
  have hke : k=ks.length:=by omega
  subst hke
  rw[uML hi]
  refine uAL ?_
  repeat(first|refine uAE ?_|refine uAF ?_|refine uAB rfl ?_)
  refine uAd (uAb ?_);refine uAa rfl rfl rfl (uAe rfl gU) ?_;refine uAf ?_;refine uAq ?_
  repeat(first|refine tR ?_|refine bR ?_)
  refine uC3 rfl ?_ (⟨⟨_,rfl,?_⟩,trivial⟩) (by kernel_rfl)
  all_goals rfl
theorem uJ7 (s : List UInt8) (ks : List T) (hl : ks.length≤900000) (h : ∀ t ∈ ks,Ctr sysO 47 [xm t,xs s] [] (xb (occT s t)) none []) : CtrO sysO 30 [xl ks, .fn 88 [.ptr (.o 0) 0]] [[.s s]] [] (xb (ks.any (occT s))) [[.s s]] .box:=by
 have hr:=T.rows_len ks
 refine uBM Tryz.func30 rfl rfl rfl rfl rfl rfl rfl ?_;refine uAd (uAb ?_);refine uAa rfl rfl rfl (uAe rfl gU) ?_;refine uAf ?_;refine uAd (uAb ?_);refine uAa rfl rfl rfl (uAc rfl gU) ?_;refine uAa rfl rfl rfl (uAc rfl gU) ?_;refine uKb [⟨.o 0,0,[.s s],[.s s]⟩] [] rfl rfl rfl rfl rfl rfl (ps1 rfl) rfl rfl (uKm s ks hl h) rfl rfl rfl ?_
 rw[← uJ1]
 refine uAa rfl rfl rfl (uAm rfl rfl gU gU rfl) ?_;refine uAa rfl rfl rfl (uAe rfl gU) ?_;refine uAf ?_;refine uAq ?_
 repeat(first|refine tR ?_|refine bR ?_)
 refine uC3 rfl ?_ (⟨⟨_,rfl,?_⟩,trivial⟩) (by kernel_rfl)
 all_goals rfl
theorem uJc (s : List UInt8) : ∀ (m : Nat) (t : T),t.size≤m→m≤900000→Ctr sysO 47 [xm t,xs s] [] (xb (occT s t)) none []:=by
 intro m
 induction m with
 | zero=>intro t h; have := t.size_pos; omega
 | succ m ih =>
  intro t ht hm
  have hr:=T.rows_len t.kids
  have hls:=T.len_sizes t.kids
  have hse:=t.size_eq
  have hk : ∀ x ∈ t.kids,Ctr sysO 47 [xm x,xs s] [] (xb (occT s x)) none []:=fun x hx=>by
   have := uB3 hx
   exact ih x (by omega) (by omega)
  refine uAA Tryz.func47 rfl rfl rfl rfl rfl rfl ?_;refine uAd (uAb ?_);refine uAs rfl (uAH rfl rfl rfl rfl) ?_;refine uAs rfl (uAH rfl rfl rfl rfl) ?_;refine uAa rfl rfl rfl (uAe rfl gU) ?_;refine uAf ?_;refine uAd (uAb ?_);refine uAa rfl rfl rfl (uAg rfl gU rfl rfl) ?_;refine uAa rfl rfl rfl (uAh rfl gU rfl rfl rfl rfl) ?_;refine uAa rfl rfl rfl (uAm rfl rfl gU gU rfl) ?_;refine uAa rfl rfl rfl (uAc rfl gU) ?_;refine uAa rfl rfl rfl (uAg rfl gU rfl rfl) ?_;refine uAa rfl rfl rfl (uAh rfl (fun hh=>hh) rfl rfl rfl rfl) ?_;refine uAa rfl rfl rfl (uAh rfl gU rfl rfl rfl rfl) ?_;refine uAa rfl rfl rfl (uA3 rfl rfl (fun hh=>hh) (fun hh=>hh) rfl) ?_;refine uAa rfl rfl rfl (uAJ rfl rfl gU (fun _ hi=>gP rfl hi)) ?_
  have hE:=uPI s t
  generalize hb : (t.kind == 2 && t.name == s)=b
  have hb2 : (decide (t.kind=2) && decide (t.name=s))=b:=by
   rw[← hb,Bool.eq_iff_iff]; simp
  rw[hb2] at hE
  cases b
  ·rw[Bool.false_or] at hE
   refine uBd (s:=⟨[(2,_,_),(3,_,_),(13,_,_)],[(.l 2,_),(.l 3,_)],[],[]⟩) (uAj (⟨sx rfl,sx rfl,sx rfl,trivial⟩) (⟨sx rfl,sx rfl,trivial⟩) trivial) ?_;refine uAa rfl rfl rfl (uAc rfl gU) ?_;refine uAa rfl rfl rfl (uAg rfl gU rfl rfl) ?_;refine uAa rfl rfl rfl (uAh rfl (fun hh=>hh) rfl rfl rfl rfl) ?_;refine uAa rfl rfl rfl (uDW (ys:=[.ptr (.l 3) 0]) rfl) ?_;refine uKb [⟨.l 3,0,[.s s],[.s s]⟩] [] rfl rfl rfl rfl rfl rfl (ps1 rfl) rfl rfl (uJ7 s t.kids (by omega) hk) rfl rfl rfl ?_;refine uAa rfl rfl rfl (uAO rfl rfl gU (fun _ hi=>gP rfl hi)) ?_;refine uAa rfl rfl rfl (uAe rfl gU) ?_;refine uAf ?_;refine uAq ?_
   repeat(first|refine tR ?_|refine bR ?_)
   refine uAu rfl ?_ trivial
   (rw[hE]; rfl)
  ·skip
   rw[Bool.true_or] at hE
   refine uBd (s:=⟨[(2,_,_),(3,_,_),(13,_,_)],[(.l 2,_),(.l 3,_)],[],[]⟩) (uAj (⟨sx rfl,sx rfl,sx rfl,trivial⟩) (⟨sx rfl,sx rfl,trivial⟩) trivial) ?_;refine uAa rfl rfl rfl (uAc rfl gU) ?_;refine uAa rfl rfl rfl (uAg rfl gU rfl rfl) ?_;refine uAa rfl rfl rfl (uAh rfl (fun hh=>hh) rfl rfl rfl rfl) ?_;refine uME (xb false) rfl rfl rfl ?_;refine uME (xb false) rfl rfl rfl ?_;refine uAa rfl rfl rfl (uAO rfl rfl gU (fun _ hi=>gP rfl hi)) ?_;refine uAa rfl rfl rfl (uAe rfl gU) ?_;refine uAf ?_;refine uAq ?_
   repeat(first|refine tR ?_|refine bR ?_)
   refine uAu rfl ?_ trivial
   (rw[hE]; rfl)
theorem uKT (s : List UInt8) (t : T) (ht : t.size≤900000) : Ctr sys 47 [xm t,xs s] [] (xb (occT s t)) none []:=(uJc s _ t (Nat.le_refl _) ht).wk rfl fun _ h=>h
def uLe (n : Nar) (s : List UInt8) : Int × Int:=if (chkE uAN n).2≠0 then (0,(chkE uAN n).2) else if (uBa n).contains s=true then (mapI (nmsL n) s,0) else (0,4)
def uEv (s : List UInt8) : Nat→List Sp→List Int
 | _,[]=>[]
 | k,x :: r=>if occT s x.msg=true then (k : Int) :: uEv s (k + 1) r else uEv s (k + 1) r
def uMD (n : Nar) (s : List UInt8) : List Int:=if (chkE uAN n).2≠0 then [] else uEv s 0 n.steps
theorem uLV (s : List UInt8) (l : List Sp) (x : Sp) : ∀ k,uEv s k (l++[x])=uEv s k l++if occT s x.msg=true then [((k + l.length : Nat) : Int)] else []:=by
 induction l with
 | nil=>intro k; simp [uEv]
 | cons y r ih =>
  intro k
  rw[List.cons_append,uEv,uEv,ih (k + 1)]
  have : k + 1 + r.length=k + (y :: r).length:=by simp; omega
  rw[this]
  split <;> simp
theorem uIS (s : List UInt8) : ∀ (l : List Sp) (k : Nat),(uEv s k l).length≤l.length
 | [],_=>by simp [uEv]
 | y :: r,k=>by
  have := uIS s r (k + 1)
  rw[uEv]
  split
  ·simp only [List.length_cons]; omega
  ·simp only [List.length_cons]; omega
theorem uHp (n : Nar) (s : List UInt8) (hs : ∀ s ∈ n.steps,s.msg.size≤900000) (hg : ∀ g ∈ n.goals,T.sizes g.data≤900000) : Ctr sys 18 [xn n,xs s] [] (xii (uLe n s)) none []:=by
 refine uAA Tryz.func18 rfl rfl rfl rfl rfl rfl ?_;refine uAd (uAb ?_);refine uAs rfl (uAH rfl rfl rfl rfl) ?_;refine uAa rfl rfl rfl (uAe rfl gU) ?_;refine uAa rfl rfl rfl (uAe rfl gU) ?_;refine uAf ?_;refine uAd ?_;refine uAd (uAb ?_);refine uAa rfl rfl rfl (uAn rfl gU rfl rfl rfl rfl rfl) ?_;refine uAx rfl rfl rfl rfl rfl rfl gU gU (uCw n hs hg) rfl ?_;refine uAa rfl rfl rfl (uAc rfl gU) ?_;refine uAa rfl rfl rfl (uAv rfl gU rfl) ?_;refine uAa rfl rfl rfl (uAv rfl gU rfl) ?_;refine uAa rfl rfl rfl (uAe rfl gU) ?_;refine uAa rfl rfl rfl (uAe rfl gU) ?_;refine uAf ?_;refine uAk (s:=⟨[(1,_,_),(2,_,_),(7,_,_)],[(.l 2,_)],[],[]⟩) (uAj (⟨sx rfl,sx rfl,sx rfl,trivial⟩) (⟨sx rfl,trivial⟩) trivial) ?_;refine uAd (uAb ?_);refine uAa rfl rfl rfl (uAc rfl gU) ?_;refine uAa rfl rfl rfl (uAm rfl rfl gU gU rfl) ?_;refine uAf ?_;refine uAo rfl (fun hc=>?_) (fun hc=>?_)
 ·try simp only [nn,uAi,T.rows_len,Gl.rows_len,Fs.rows_len,Sp.rows_len] at hc
  refine uAd (uAb ?_);refine uAa rfl rfl rfl (uAc rfl gU) ?_;refine uAa rfl rfl rfl (uAe rfl gU) ?_;refine uAa rfl rfl rfl (uAe rfl gU) ?_;refine uAf ?_;refine uAq ?_
  repeat(first|refine tR ?_|refine bR ?_)
  refine uAu rfl ?_ trivial
  (rw[uLe,if_pos hc]; rfl)
 ·try simp only [nn,uAi,T.rows_len,Gl.rows_len,Fs.rows_len,Sp.rows_len] at hc
  rw[uLe,if_neg (by simpa using hc)]
  refine uAp ?_;refine uAd (uAb ?_);refine uAa rfl rfl rfl (uAn rfl gU rfl rfl rfl rfl rfl) ?_;refine uHg rfl rfl rfl rfl rfl rfl (uEO n) (fun _=>rfl) (fun bm=>?_);refine uAa rfl rfl rfl (uHk rfl gU (Tryz.underlying63) rfl rfl rfl rfl rfl rfl) ?_;refine uAa rfl rfl rfl (uAc rfl gU) ?_;refine uAa rfl rfl rfl (uE9 (i:=0) (c:=.i .i64 (mapI (nmsL n) s)) (z:=.int .i64 0) rfl rfl gU gU rfl Tryz.underlying61 Tryz.underlying9 (by kernel_rfl) (fun w S=>uI3 (nmsL n) s) rfl) ?_;refine uAa rfl rfl rfl (uAc rfl gU) ?_;refine uAa rfl rfl rfl (uAv rfl gU rfl) ?_;refine uAa rfl rfl rfl (uAv rfl gU rfl) ?_;refine uAa rfl rfl rfl (uAe rfl gU) ?_;refine uAa rfl rfl rfl (uAe rfl gU) ?_;refine uAf ?_;refine uAk (s:={ t:=[(8,_,_),(9,_,_)],bx:=[],ow:=[],mp:=_ }) (uAj (⟨sx rfl,sx rfl,trivial⟩) trivial trivial (.inr rfl)) ?_;refine uAd ?_;refine uAd (uAb ?_);refine uAa rfl rfl rfl (uAc rfl gU) ?_;refine uAa rfl rfl rfl (uA1 rfl gU) ?_;refine uAf ?_;refine uAo rfl (fun hc2=>?_) (fun hc2=>?_)
  ·try simp only [nn,uAi,T.rows_len,Gl.rows_len,Fs.rows_len,Sp.rows_len] at hc2
   rw[uE2] at hc2
   have h2 : (uBa n).contains s=false:=hc2
   rw[if_neg (by rw[h2]; simp)]
   refine uAd (uAb ?_);refine uAa rfl rfl rfl (uAe rfl gU) ?_;refine uAa rfl rfl rfl (uAe rfl gU) ?_;refine uAf ?_;refine uAq ?_
   repeat(first|refine tR ?_|refine bR ?_)
   refine uAu rfl ?_ trivial
   rfl
  ·try simp only [nn,uAi,T.rows_len,Gl.rows_len,Fs.rows_len,Sp.rows_len] at hc2
   rw[uE2] at hc2
   have h2 : (uBa n).contains s=true:=hc2
   rw[if_pos h2]
   refine uAp ?_;refine uAd (uAb ?_);refine uAa rfl rfl rfl (uAc rfl gU) ?_;refine uAa rfl rfl rfl (uAe rfl gU) ?_;refine uAa rfl rfl rfl (uAe rfl gU) ?_;refine uAf ?_;refine uAq ?_
   repeat(first|refine tR ?_|refine bR ?_)
   refine uAu rfl ?_ trivial
   rfl
theorem uLE (n : Nar) (s : List UInt8) (hs : ∀ s ∈ n.steps,s.msg.size≤900000) (hg : ∀ g ∈ n.goals,T.sizes g.data≤900000) : Ctr sys 16 [xn n,xs s] [] (xis (uMD n s)) none []:=by
 have l5:=Sp.rows_len n.steps
 refine uAA Tryz.func16 rfl rfl rfl rfl rfl rfl ?_;refine uAd (uAb ?_);refine uAs rfl (uAH rfl rfl rfl rfl) ?_;refine uAs rfl (uBe (.inr rfl) rfl rfl) ?_;refine uAf ?_;refine uAd ?_;refine uAd (uAb ?_);refine uAa rfl rfl rfl (uAn rfl gU rfl rfl rfl rfl rfl) ?_;refine uAx rfl rfl rfl rfl rfl rfl gU gU (uCw n hs hg) rfl ?_;refine uAa rfl rfl rfl (uAc rfl gU) ?_;refine uAa rfl rfl rfl (uAv rfl gU rfl) ?_;refine uAa rfl rfl rfl (uAv rfl gU rfl) ?_;refine uAa rfl rfl rfl (uAe rfl gU) ?_;refine uAa rfl rfl rfl (uAe rfl gU) ?_;refine uAf ?_;refine uAk (s:=⟨[(1,_,_),(2,_,_),(6,_,_)],[(.l 2,_)],[],[]⟩) (uAj (⟨sx rfl,sx rfl,sx rfl,trivial⟩) (⟨sx rfl,trivial⟩) trivial) ?_;refine uAd (uAb ?_);refine uAa rfl rfl rfl (uAc rfl gU) ?_;refine uAa rfl rfl rfl (uAm rfl rfl gU gU rfl) ?_;refine uAf ?_;refine uAo rfl (fun hc=>?_) (fun hc=>?_)
 ·try simp only [nn,uAi,uAC,T.rows_len,Gl.rows_len,Fs.rows_len,Sp.rows_len] at hc
  refine uAd (uAb ?_);refine uAs rfl (uBe (.inr rfl) rfl rfl) ?_;refine uAf ?_;refine uAq ?_
  repeat(first|refine tR ?_|refine bR ?_)
  refine uAu rfl ?_ trivial
  (rw[uMD,if_pos hc]; rfl)
 ·try simp only [nn,uAi,uAC,T.rows_len,Gl.rows_len,Fs.rows_len,Sp.rows_len] at hc
  rw[uMD,if_neg (by simpa using hc)]
  have hok:=uI8 (n:=n) (by
   have : (chkE uAN n).2=0:=by simpa using hc
   rw[chkE] at this
   split at this
   ·exact this
   ·rename_i q; simpa using q)
  have hs2:=hok.s2
  refine uAp ?_;refine uAd (uAb ?_);refine uAs rfl (uBe (.inr rfl) rfl rfl) ?_;refine uAf ?_;refine uAd ?_;refine uAd (uAb ?_);refine uAa rfl rfl rfl (uAg rfl gU rfl rfl) ?_;refine uAa rfl rfl rfl (uAh rfl gU rfl rfl rfl rfl) ?_;refine uAI rfl rfl rfl rfl rfl gU rfl rfl ?_ (fun hh=>by simp at hh); intro hlen;refine uAa rfl rfl rfl (uAc rfl gU) ?_;refine uAf ?_;refine uAk (s:=⟨[(1,_,_),(7,_,_),(18,_,_),(19,_,_),(20,_,_)],[],[(.t 7,_)],[]⟩) (uAj (⟨sx rfl,sx rfl,sx rfl,sx rfl,sx rfl,trivial⟩) trivial (⟨rfl,trivial⟩)) ?_;refine uAt ?_;refine uAW (ι:=Nat) { t:=[(1,_,_),(18,_,_),(19,_,_)],bx:=[],ow:=[(.t 7,_)] } (fun k=>[(20,true,xi (k : Int)),(7,true,xis (uEv s 0 (n.steps.take k)))]) (fun k=>[]) (fun k=>k≤n.steps.length) (fun k=>n.steps.length - k) (0) (by simp) (uAj (⟨sx rfl,sx rfl,sx rfl,sx rfl,sx rfl,trivial⟩) trivial (⟨rfl,trivial⟩)) ?_
  intro k hok
  dsimp only [List.cons_append,List.nil_append]
  have hul:=uIS s (n.steps.take k) 0
  rw[List.length_take] at hul
  refine uAd (uAb ?_);refine uAa rfl rfl rfl (uAm rfl rfl gU gU rfl) ?_;refine uAf ?_;refine uAd ?_;refine uAo rfl (fun hc2=>?_) (fun hc2=>?_)
  ·try simp only [nn,uAi,uAC,T.rows_len,Gl.rows_len,Fs.rows_len,Sp.rows_len] at hc2
   have hlt : k < n.steps.length:=by omega
   have hks:=hs _ (uBz (d:=default) hlt)
   have hT:=uBk (l:=n.steps) (d:=default) hlt
   have hmin : (n.steps.take k).length=k:=by rw[List.length_take]; omega
   have hS:=uLV s (n.steps.take k) (n.steps.getD k default) 0
   rw[← hT,hmin,Nat.zero_add] at hS
   refine uAp ?_;refine uAd ?_;refine uAt ?_;refine uAd (uAb ?_);refine uAa rfl rfl rfl (uAc rfl gU) ?_;refine uAa rfl rfl rfl (uAr rfl rfl gU gU rfl rfl rfl (fun hh=>Sp.rows_at (by first|omega|(simp at hh ⊢; omega)))) ?_;refine uAa rfl rfl rfl (uAD rfl gU rfl rfl rfl rfl) ?_;refine uAs rfl (uAK rfl rfl rfl) ?_;refine uAa rfl rfl rfl (uAe rfl gU) ?_;refine uAs rfl (uAw rfl rfl rfl rfl rfl rfl rfl) ?_;refine uAf ?_;refine uAk (s:=⟨[(1,_,_),(7,_,_),(8,_,_),(9,_,_),(18,_,_),(19,_,_),(20,_,_)],[(.l 9,_)],[(.t 7,_)],[]⟩) (uAj (⟨sx rfl,sx rfl,sx rfl,sx rfl,sx rfl,sx rfl,sx rfl,trivial⟩) (⟨sx rfl,trivial⟩) (⟨rfl,trivial⟩)) ?_;refine uAd (uAb ?_);refine uAa rfl rfl rfl (uAg rfl gU rfl rfl) ?_;refine uAa rfl rfl rfl (uAn rfl gU rfl rfl rfl rfl rfl) ?_;refine uAa rfl rfl rfl (uAc rfl gU) ?_;refine uAx rfl rfl rfl rfl rfl rfl gU gU (uKT _ _ (by omega)) rfl ?_;refine uAf ?_;refine uAo rfl (fun hc3=>?_) (fun hc3=>?_)
   ·try simp only [nn,uAi,uAC,T.rows_len,Gl.rows_len,Fs.rows_len,Sp.rows_len] at hc3
    rw[if_pos hc3] at hS
    refine uAb ?_;refine uAs rfl (uAV (.inl rfl) rfl rfl rfl) ?_;refine uAa rfl rfl rfl (uAc rfl gU) ?_;refine uAR (xs:=[_]) rfl rfl rfl rfl rfl rfl rfl rfl rfl gU rfl ?_;refine uAs rfl (uA0 rfl rfl rfl rfl rfl rfl rfl (by first|omega|(simp only [List.length_append,List.length_singleton,uAC,List.length_map,List.length_take]; omega)) (by first|omega|(simp only [List.length_append,List.length_singleton,uAC,List.length_map,List.length_take]; omega))) ?_;refine uAs rfl (uAV (.inr rfl) rfl rfl rfl) ?_;refine uAf ?_;refine uAk (s:=⟨[(1,_,_),(7,_,_),(18,_,_),(19,_,_),(20,_,_)],[],[(.t 7,_)],[]⟩) (uAj (⟨sx rfl,sx rfl,sx rfl,sx rfl,sx rfl,trivial⟩) trivial (⟨rfl,trivial⟩)) ?_;refine uAb ?_;refine uAa rfl rfl rfl (uAz rfl rfl gU gU rfl (IntWalk.i64_in _ (by omega))) ?_;refine uAa rfl rfl rfl (uAc rfl gU) ?_;refine uAf ?_;refine ⟨k + 1,?_,?_,uAj (⟨⟨_,rfl,?_⟩,⟨⟨_,rfl,?_⟩,⟨sx rfl,sx rfl,sx rfl,trivial⟩⟩⟩) trivial (⟨rfl,trivial⟩)⟩
    all_goals (first|rfl|omega|exact tx ((uD5 _ _).trans (by rw[hS])))
   ·try simp only [nn,uAi,uAC,T.rows_len,Gl.rows_len,Fs.rows_len,Sp.rows_len] at hc3
    rw[if_neg (by rw[hc3]; simp),List.append_nil] at hS
    refine uAp ?_;refine uAb ?_;refine uAa rfl rfl rfl (uAz rfl rfl gU gU rfl (IntWalk.i64_in _ (by omega))) ?_;refine uAa rfl rfl rfl (uAc rfl gU) ?_;refine uAf ?_;refine ⟨k + 1,?_,?_,uAj (⟨⟨_,rfl,?_⟩,⟨⟨_,rfl,?_⟩,⟨sx rfl,sx rfl,sx rfl,trivial⟩⟩⟩) trivial (⟨rfl,trivial⟩)⟩
    all_goals (first|rfl|omega|exact tx (by rw[hS]))
  ·try simp only [nn,uAi,uAC,T.rows_len,Gl.rows_len,Fs.rows_len,Sp.rows_len] at hc2
   have hke : k=n.steps.length:=by omega
   subst hke
   rw[List.take_length]
   refine uAL ?_
   repeat(first|refine uAE ?_|refine uAF ?_|refine uAB rfl ?_)
   refine uAd (uAb ?_);refine uAs rfl (uAV (.inl rfl) rfl rfl rfl) ?_;refine uAs rfl (uAV (.inr rfl) rfl rfl rfl) ?_;refine uAf ?_;refine uAq ?_
   repeat(first|refine tR ?_|refine bR ?_)
   refine uAu rfl ?_ trivial
   rfl
theorem uDa (s : List UInt8) : Ctr sys 82 [xs s] [] (xb (uAN s)) none []:=by rw[← uQJ s]; exact uLR s
theorem uNp : ∀ (n : Nat) (t : T),t.size≤n→n≤2000000→Ctr sys 144 [xm t] [] (xi (rawE uAN t)) none []:=by
 intro n
 induction n with
 | zero=>intro t h; have := t.size_pos; omega
 | succ n ih =>
  intro t ht hn
  have hse:=t.size_eq
  have hrl:=T.rows_len t.kids
  have hls:=T.len_sizes t.kids
  have he:=uMG uAN t
  rw[uFs] at he
  refine uAA Tryz.func144 rfl rfl rfl rfl rfl rfl ?_;refine uAd (uAb ?_);refine uAs rfl (uAH rfl rfl rfl rfl) ?_;refine uAa rfl rfl rfl (uAe rfl gU) ?_;refine uAf ?_;refine uAd ?_;refine uAd (uAb ?_);refine uAa rfl rfl rfl (uAg rfl gU rfl rfl) ?_;refine uAa rfl rfl rfl (uAh rfl gU rfl rfl rfl rfl) ?_;refine uAa rfl rfl rfl (uAm rfl rfl gU gU rfl) ?_;refine uAa rfl rfl rfl (uAc rfl gU) ?_;refine uAa rfl rfl rfl (uAg rfl gU rfl rfl) ?_;refine uAa rfl rfl rfl (uAh rfl (fun hh=>hh) rfl rfl rfl rfl) ?_;refine uAa rfl rfl rfl (uAm rfl rfl (fun hh=>hh) gU rfl) ?_;refine uAa rfl rfl rfl (uAO rfl rfl gU (fun _ hi=>gP rfl hi)) ?_;refine uAf ?_;refine uAk (s:=⟨[(1,_,_),(12,_,_)],[(.l 1,_)],[],[]⟩) (uAj (⟨sx rfl,sx rfl,trivial⟩) (⟨sx rfl,trivial⟩) trivial) ?_;refine uAo rfl (fun hc=>?_) (fun hc=>?_)
  ·try simp only [nn,uAi,T.rows_len,Fs.rows_len,Sp.rows_len,Gl.rows_len] at hc
   refine uAd (uAb ?_);refine uAa rfl rfl rfl (uAe rfl gU) ?_;refine uAf ?_;refine uAq ?_
   repeat(first|refine tR ?_|refine bR ?_)
   refine uAu rfl ?_ trivial
   (rw[he,if_pos (by grind)]; rfl)
  ·try simp only [nn,uAi,T.rows_len,Fs.rows_len,Sp.rows_len,Gl.rows_len] at hc
   rw[if_neg (by grind)] at he
   refine uAp ?_;refine uAd ?_;refine uAd (uAb ?_);refine uAa rfl rfl rfl (uAg rfl gU rfl rfl) ?_;refine uAa rfl rfl rfl (uAh rfl gU rfl rfl rfl rfl) ?_;refine uAx rfl rfl rfl rfl rfl rfl gU gU (uDa _) rfl ?_;refine uAa rfl rfl rfl (uA1 rfl gU) ?_;refine uAf ?_;refine uAo rfl (fun hc2=>?_) (fun hc2=>?_)
   ·try simp only [nn,uAi,T.rows_len,Fs.rows_len,Sp.rows_len,Gl.rows_len] at hc2
    refine uAd (uAb ?_);refine uAa rfl rfl rfl (uAe rfl gU) ?_;refine uAf ?_;refine uAq ?_
    repeat(first|refine tR ?_|refine bR ?_)
    refine uAu rfl ?_ trivial
    (rw[he,if_pos hc2]; rfl)
   ·try simp only [nn,uAi,T.rows_len,Fs.rows_len,Sp.rows_len,Gl.rows_len] at hc2
    rw[if_neg (by rw[hc2]; simp)] at he
    refine uAp ?_;refine uAd ?_;refine uAd (uAb ?_);refine uAa rfl rfl rfl (uAe rfl gU) ?_;refine uAf ?_;refine uAk (s:=⟨[(1,_,_),(3,_,_)],[(.l 1,_)],[],[]⟩) (uAj (⟨sx rfl,sx rfl,trivial⟩) (⟨sx rfl,trivial⟩) trivial) ?_;refine uAt ?_;refine uAW (ι:=Nat) { t:=[(1,_,_)],bx:=[(.l 1,_)],ow:=[] } (fun k=>[(3,true,xi (k : Int))]) (fun k=>[]) (fun k=>k≤t.kids.length∧errs (rawE uAN) (t.kids.drop k)=rawE uAN t) (fun k=>t.kids.length - k) (0) (⟨by simp,by rw[he]; rfl⟩) (uAj (⟨sx rfl,sx rfl,trivial⟩) (⟨sx rfl,trivial⟩) trivial) ?_
    intro k hok
    dsimp only [List.cons_append,List.nil_append]
    obtain ⟨hk,hi⟩:=hok
    refine uAd ?_;refine uAd (uAb ?_);refine uAa rfl rfl rfl (uAc rfl gU) ?_;refine uAa rfl rfl rfl (uAg rfl gU rfl rfl) ?_;refine uAa rfl rfl rfl (uAh rfl gU rfl rfl rfl rfl) ?_;refine uAI rfl rfl rfl rfl rfl gU rfl rfl ?_ (fun hh=>by simp at hh); intro hlen;refine uAa rfl rfl rfl (uAm rfl rfl gU gU rfl) ?_;refine uAf ?_;refine uAk (s:=⟨[(1,_,_),(3,_,_),(21,_,_)],[(.l 1,_)],[],[]⟩) (uAj (⟨sx rfl,sx rfl,sx rfl,trivial⟩) (⟨sx rfl,trivial⟩) trivial) ?_;refine uAo rfl (fun hc3=>?_) (fun hc3=>?_)
    ·try simp only [nn,uAi,T.rows_len,Fs.rows_len,Sp.rows_len,Gl.rows_len] at hc3
     have hlt : k < t.kids.length:=by omega
     have h2:=T.getD_size hlt
     have hd:=uCp (d:=default) hlt hi
     refine uAp ?_;refine uAd ?_;refine uAt ?_;refine uAd (uAb ?_);refine uAa rfl rfl rfl (uAg rfl gU rfl rfl) ?_;refine uAa rfl rfl rfl (uAh rfl gU rfl rfl rfl rfl) ?_;refine uAa rfl rfl rfl (uAc rfl gU) ?_;refine uAa rfl rfl rfl (uAr rfl rfl gU gU rfl rfl rfl (fun hh=>T.rows_at (by first|omega|(simp at hh ⊢; omega)))) ?_;refine uAa rfl rfl rfl (uAD rfl gU rfl rfl rfl rfl) ?_;refine uAx rfl rfl rfl rfl rfl rfl gU gU (ih (t.kids.getD k default) (by omega) (by omega)) rfl ?_;refine uAa rfl rfl rfl (uAe rfl gU) ?_;refine uAf ?_;refine uAk (s:=⟨[(1,_,_),(3,_,_),(4,_,_)],[(.l 1,_)],[],[]⟩) (uAj (⟨sx rfl,sx rfl,sx rfl,trivial⟩) (⟨sx rfl,trivial⟩) trivial) ?_;refine uAd (uAb ?_);refine uAa rfl rfl rfl (uAc rfl gU) ?_;refine uAa rfl rfl rfl (uAm rfl rfl gU gU rfl) ?_;refine uAf ?_;refine uAo rfl (fun hc1=>?_) (fun hc1=>?_)
     ·try simp only [nn,uAi,T.rows_len,Fs.rows_len,Sp.rows_len,Gl.rows_len] at hc1
      refine uAd (uAb ?_);refine uAa rfl rfl rfl (uAc rfl gU) ?_;refine uAa rfl rfl rfl (uAe rfl gU) ?_;refine uAf ?_;refine uAq ?_
      repeat(first|refine tR ?_|refine bR ?_)
      refine uAu rfl ?_ trivial;exact uBc (hd.1 (by assumption)).symm
     ·try simp only [nn,uAi,T.rows_len,Fs.rows_len,Sp.rows_len,Gl.rows_len] at hc1
      refine uAp ?_;refine uAb ?_;refine uAa rfl rfl rfl (uAc rfl gU) ?_;refine uAa rfl rfl rfl (uAz rfl rfl gU gU rfl (IntWalk.i64_in _ (by omega))) ?_;refine uAa rfl rfl rfl (uAe rfl gU) ?_;refine uAf ?_;refine ⟨k + 1,?_,?_,uAj (⟨⟨_,rfl,?_⟩,⟨sx rfl,trivial⟩⟩) (⟨sx rfl,trivial⟩) trivial⟩
      all_goals (first|rfl|omega|exact ⟨by omega,hd.2 (by assumption)⟩)
    ·try simp only [nn,uAi,T.rows_len,Fs.rows_len,Sp.rows_len,Gl.rows_len] at hc3
     refine uAL ?_
     repeat(first|refine uAE ?_|refine uAF ?_|refine uAB rfl ?_)
     refine uAd (uAb ?_);refine uAa rfl rfl rfl (uAe rfl gU) ?_;refine uAf ?_;refine uAq ?_
     repeat(first|refine tR ?_|refine bR ?_)
     refine uAu rfl ?_ trivial;exact uBc (uDH (by omega) hi).symm
theorem uNw (t : T) (ht : t.size≤900000) : Ctr sys 117 [xm t] [] (xi (uD9 uAN t)) none []:=by
 refine uAA Tryz.func117 rfl rfl rfl rfl rfl rfl ?_;refine uAd (uAb ?_);refine uAs rfl (uAH rfl rfl rfl rfl) ?_;refine uAa rfl rfl rfl (uAe rfl gU) ?_;refine uAf ?_;refine uAd ?_;refine uAd (uAb ?_);refine uAa rfl rfl rfl (uAn rfl gU rfl rfl rfl rfl rfl) ?_;refine uAx rfl rfl rfl rfl rfl rfl gU gU (uLJ _ (by omega)) rfl ?_;refine uAa rfl rfl rfl (uAe rfl gU) ?_;refine uAf ?_;refine uAk (s:=⟨[(1,_,_),(3,_,_)],[(.l 1,_)],[],[]⟩) (uAj (⟨sx rfl,sx rfl,trivial⟩) (⟨sx rfl,trivial⟩) trivial) ?_;refine uAd (uAb ?_);refine uAa rfl rfl rfl (uAc rfl gU) ?_;refine uAa rfl rfl rfl (uAm rfl rfl gU gU rfl) ?_;refine uAf ?_;refine uAo rfl (fun hc=>?_) (fun hc=>?_)
 ·try simp only [nn,uAi,T.rows_len,Fs.rows_len,Sp.rows_len,Gl.rows_len] at hc
  refine uAd (uAb ?_);refine uAa rfl rfl rfl (uAc rfl gU) ?_;refine uAa rfl rfl rfl (uAe rfl gU) ?_;refine uAf ?_;refine uAq ?_
  repeat(first|refine tR ?_|refine bR ?_)
  refine uAu rfl ?_ trivial
  (rw[uD9,if_pos hc]; rfl)
 ·try simp only [nn,uAi,T.rows_len,Fs.rows_len,Sp.rows_len,Gl.rows_len] at hc
  refine uAp ?_;refine uAd (uAb ?_);refine uAa rfl rfl rfl (uAn rfl gU rfl rfl rfl rfl rfl) ?_;refine uAx rfl rfl rfl rfl rfl rfl gU gU (uNp _ _ (Nat.le_refl _) (by omega)) rfl ?_;refine uAa rfl rfl rfl (uAe rfl gU) ?_;refine uAf ?_;refine uAq ?_
  repeat(first|refine tR ?_|refine bR ?_)
  refine uAu rfl ?_ trivial
  (rw[uD9,if_neg (by simpa using hc)]; rfl)
theorem uFh (t : T) (ht : t.size≤900000) : Ctr sys 85 [xm t] [] (xi (msgE uAN t)) none []:=by
 refine uAA Tryz.func85 rfl rfl rfl rfl rfl rfl ?_;refine uAd (uAb ?_);refine uAs rfl (uAH rfl rfl rfl rfl) ?_;refine uAa rfl rfl rfl (uAe rfl gU) ?_;refine uAf ?_;refine uAd ?_;refine uAd (uAb ?_);refine uAa rfl rfl rfl (uAn rfl gU rfl rfl rfl rfl rfl) ?_;refine uAx rfl rfl rfl rfl rfl rfl gU gU (uNw _ (by omega)) rfl ?_;refine uAa rfl rfl rfl (uAe rfl gU) ?_;refine uAf ?_;refine uAk (s:=⟨[(1,_,_),(3,_,_)],[(.l 1,_)],[],[]⟩) (uAj (⟨sx rfl,sx rfl,trivial⟩) (⟨sx rfl,trivial⟩) trivial) ?_;refine uAd (uAb ?_);refine uAa rfl rfl rfl (uAc rfl gU) ?_;refine uAa rfl rfl rfl (uAm rfl rfl gU gU rfl) ?_;refine uAf ?_;refine uAo rfl (fun hc=>?_) (fun hc=>?_)
 ·try simp only [nn,uAi,T.rows_len,Fs.rows_len,Sp.rows_len,Gl.rows_len] at hc
  refine uAd (uAb ?_);refine uAa rfl rfl rfl (uAc rfl gU) ?_;refine uAa rfl rfl rfl (uAe rfl gU) ?_;refine uAf ?_;refine uAq ?_
  repeat(first|refine tR ?_|refine bR ?_)
  refine uAu rfl ?_ trivial
  (rw[msgE,if_pos hc]; rfl)
 ·try simp only [nn,uAi,T.rows_len,Fs.rows_len,Sp.rows_len,Gl.rows_len] at hc
  refine uAp ?_;refine uAd ?_;refine uAd (uAb ?_);refine uAa rfl rfl rfl (uAn rfl gU rfl rfl rfl rfl rfl) ?_;refine uAx rfl rfl rfl rfl rfl rfl gU gU (uE6 _ _ (Nat.le_refl _) (by omega)) rfl ?_;refine uAa rfl rfl rfl (uAm rfl rfl gU gU rfl) ?_;refine uAf ?_;refine uAk (s:=⟨[(11,_,_)],[],[],[]⟩) (uAj (⟨sx rfl,trivial⟩) trivial trivial) ?_;refine uAo rfl (fun hc2=>?_) (fun hc2=>?_)
  ·try simp only [nn,uAi,T.rows_len,Fs.rows_len,Sp.rows_len,Gl.rows_len] at hc2
   refine uAd (uAb ?_);refine uAa rfl rfl rfl (uAe rfl gU) ?_;refine uAf ?_;refine uAq ?_
   repeat(first|refine tR ?_|refine bR ?_)
   refine uAu rfl ?_ trivial
   (rw[msgE,if_neg (by simpa using hc),if_pos (by omega)]; rfl)
  ·try simp only [nn,uAi,T.rows_len,Fs.rows_len,Sp.rows_len,Gl.rows_len] at hc2
   refine uAp ?_;refine uAd (uAb ?_);refine uAa rfl rfl rfl (uAe rfl gU) ?_;refine uAf ?_;refine uAq ?_
   repeat(first|refine tR ?_|refine bR ?_)
   refine uAu rfl ?_ trivial
   (rw[msgE,if_neg (by simpa using hc),if_neg (by omega)]; rfl)
theorem uCI (g : Gl) : Ctr sys 119 [xg g] [] (xb (uBs g.kind)) none []:=by
 refine uAA Tryz.func119 rfl rfl rfl rfl rfl rfl ?_;refine uAd (uAb ?_);refine uAs rfl (uAH rfl rfl rfl rfl) ?_;refine uAa rfl rfl rfl (uAe rfl gU) ?_;refine uAf ?_;refine uAd (uAb ?_);refine uAa rfl rfl rfl (uAg rfl gU rfl rfl) ?_;refine uAa rfl rfl rfl (uAh rfl gU rfl rfl rfl rfl) ?_;refine uAa rfl rfl rfl (uAm rfl rfl gU gU rfl) ?_;refine uAa rfl rfl rfl (uAc rfl gU) ?_;refine uAa rfl rfl rfl (uAg rfl gU rfl rfl) ?_;refine uAa rfl rfl rfl (uAh rfl (fun hh=>hh) rfl rfl rfl rfl) ?_;refine uAa rfl rfl rfl (uAm rfl rfl (fun hh=>hh) gU rfl) ?_;refine uAa rfl rfl rfl (uAO rfl rfl gU (fun _ hi=>gP rfl hi)) ?_;refine uAa rfl rfl rfl (uAe rfl gU) ?_;refine uAf ?_;refine uAq ?_
 repeat(first|refine tR ?_|refine bR ?_)
 refine uAu rfl ?_ trivial
 rfl
theorem uOa {f : List UInt8→Bool} {l : List (List UInt8)} {k : Nat} {e : Bool} (h : k < l.length) (hi : (l.drop k).all f=e) : (f (l.getD k [])=false→e=false)∧(f (l.getD k [])=true→(l.drop (k + 1)).all f=e):=by
 rw[uIT (d:=[]) h,List.all_cons] at hi
 refine ⟨fun q=>?_,fun q=>?_⟩
 ·rw[q] at hi; exact hi.symm
 ·rw[q] at hi; exact hi
theorem uDJ (l : List (List UInt8)) : Ctr sys 84 [xss l] [] (xb (l.all uAN)) none []:=by
 have hrl:=uAi l
 refine uAA Tryz.func84 rfl rfl rfl rfl rfl rfl ?_;refine uAd (uAb ?_);refine uAa rfl rfl rfl (uAe rfl gU) ?_;refine uAf ?_;refine uAd ?_;refine uAd (uAb ?_);refine uAa rfl rfl rfl (uAe rfl gU) ?_;refine uAf ?_;refine uAt ?_;refine uAW (ι:=Nat) { t:=[(0,_,_)],bx:=[],ow:=[] } (fun k=>[(3,true,xi (k : Int))]) (fun k=>[]) (fun k=>k≤l.length∧(l.drop k).all uAN=l.all uAN) (fun k=>l.length - k) (0) (⟨by simp,rfl⟩) (uAj (⟨sx rfl,sx rfl,trivial⟩) trivial trivial) ?_
 intro k hok
 dsimp only [List.cons_append,List.nil_append]
 obtain ⟨hk,hi⟩:=hok
 refine uAd ?_;refine uAd (uAb ?_);refine uAa rfl rfl rfl (uAc rfl gU) ?_;refine uAa rfl rfl rfl (uAc rfl gU) ?_;refine uAI rfl rfl rfl rfl rfl gU rfl rfl ?_ (fun hh=>by simp at hh); intro hlen;refine uAa rfl rfl rfl (uAm rfl rfl gU gU rfl) ?_;refine uAf ?_;refine uAo rfl (fun hc=>?_) (fun hc=>?_)
 ·try simp only [nn,uAi,T.rows_len,Fs.rows_len,Sp.rows_len,Gl.rows_len] at hc
  have hlt : k < l.length:=by omega
  have hd:=uOa hlt hi
  refine uAp ?_;refine uAd ?_;refine uAt ?_;refine uAd (uAb ?_);refine uAa rfl rfl rfl (uAc rfl gU) ?_;refine uAa rfl rfl rfl (uAc rfl gU) ?_;refine uAa rfl rfl rfl (uAr rfl rfl gU gU rfl rfl rfl (fun hh=>uBP (by first|omega|(simp at hh ⊢; omega)))) ?_;refine uAa rfl rfl rfl (uAM rfl gU rfl rfl rfl) ?_;refine uAx rfl rfl rfl rfl rfl rfl gU gU (uDa _) rfl ?_;refine uAa rfl rfl rfl (uA1 rfl gU) ?_;refine uAf ?_;refine uAk (s:=⟨[(0,_,_),(3,_,_),(15,_,_)],[],[],[]⟩) (uAj (⟨sx rfl,sx rfl,sx rfl,trivial⟩) trivial trivial) ?_;refine uAo rfl (fun hc1=>?_) (fun hc1=>?_)
  ·try simp only [nn,uAi,T.rows_len,Fs.rows_len,Sp.rows_len,Gl.rows_len] at hc1
   refine uAd (uAb ?_);refine uAa rfl rfl rfl (uAe rfl gU) ?_;refine uAf ?_;refine uAq ?_
   repeat(first|refine tR ?_|refine bR ?_)
   refine uAu rfl ?_ trivial;exact uBY (hd.1 (by assumption)).symm
  ·try simp only [nn,uAi,T.rows_len,Fs.rows_len,Sp.rows_len,Gl.rows_len] at hc1
   refine uAp ?_;refine uAb ?_;refine uAa rfl rfl rfl (uAc rfl gU) ?_;refine uAa rfl rfl rfl (uAz rfl rfl gU gU rfl (IntWalk.i64_in _ (by omega))) ?_;refine uAa rfl rfl rfl (uAe rfl gU) ?_;refine uAf ?_;refine ⟨k + 1,?_,?_,uAj (⟨⟨_,rfl,?_⟩,⟨sx rfl,trivial⟩⟩) trivial trivial⟩
   all_goals (first|rfl|omega|exact ⟨by omega,hd.2 (by assumption)⟩)
 ·try simp only [nn,uAi,T.rows_len,Fs.rows_len,Sp.rows_len,Gl.rows_len] at hc
  rw[List.drop_of_length_le (by omega)] at hi
  refine uAL ?_
  repeat(first|refine uAE ?_|refine uAF ?_|refine uAB rfl ?_)
  refine uAd (uAb ?_);refine uAa rfl rfl rfl (uAe rfl gU) ?_;refine uAf ?_;refine uAq ?_
  repeat(first|refine tR ?_|refine bR ?_)
  refine uAu rfl ?_ trivial;exact uBY hi
theorem uJd (n : Nar) : Ctr sys 83 [xn n] [] (xi (cntE n)) none []:=by
 have hr1:=uAi n.roles
 have hr2:=Fs.rows_len n.fresh
 have hr3:=uAi n.tags
 have hr4:=Sp.rows_len n.steps
 have hr5:=Gl.rows_len n.goals
 refine uAA Tryz.func83 rfl rfl rfl rfl rfl rfl ?_;refine uAd (uAb ?_);refine uAs rfl (uAH rfl rfl rfl rfl) ?_;refine uAa rfl rfl rfl (uAe rfl gU) ?_;refine uAf ?_;refine uAd ?_;refine uAd (uAb ?_);refine uAa rfl rfl rfl (uAg rfl gU rfl rfl) ?_;refine uAa rfl rfl rfl (uAh rfl gU rfl rfl rfl rfl) ?_;refine uAI rfl rfl rfl rfl rfl gU rfl rfl ?_ (fun hh=>by simp at hh); intro hlen;refine uAa rfl rfl rfl (uAm rfl rfl gU gU rfl) ?_;refine uAf ?_;refine uAk (s:=⟨[(1,_,_),(6,_,_)],[(.l 1,_)],[],[]⟩) (uAj (⟨sx rfl,sx rfl,trivial⟩) (⟨sx rfl,trivial⟩) trivial) ?_;refine uAo rfl (fun hc1=>?_) (fun hc1=>?_)
 ·try simp only [nn,uAi,T.rows_len,Fs.rows_len,Sp.rows_len,Gl.rows_len] at hc1
  refine uAd (uAb ?_);refine uAa rfl rfl rfl (uAe rfl gU) ?_;refine uAf ?_;refine uAq ?_
  repeat(first|refine tR ?_|refine bR ?_)
  refine uAu rfl ?_ trivial
  (refine uBc ?_; unfold cntE; (repeat' split) <;> omega)
 ·try simp only [nn,uAi,T.rows_len,Fs.rows_len,Sp.rows_len,Gl.rows_len] at hc1
  refine uAp ?_;refine uAd ?_;refine uAd (uAb ?_);refine uAa rfl rfl rfl (uAg rfl gU rfl rfl) ?_;refine uAa rfl rfl rfl (uAh rfl gU rfl rfl rfl rfl) ?_;refine uAI rfl rfl rfl rfl rfl gU rfl rfl ?_ (fun hh=>by simp at hh); intro hlen;refine uAa rfl rfl rfl (uAm rfl rfl gU gU rfl) ?_;refine uAa rfl rfl rfl (uAc rfl gU) ?_;refine uAa rfl rfl rfl (uAg rfl gU rfl rfl) ?_;refine uAa rfl rfl rfl (uAh rfl (fun hh=>hh) rfl rfl rfl rfl) ?_;refine uAa rfl rfl rfl (uA7 rfl (fun hh=>hh) rfl rfl) ?_;refine uAa rfl rfl rfl (uAm rfl rfl (fun hh=>hh) gU rfl) ?_;refine uAa rfl rfl rfl (uAO rfl rfl gU (fun _ hi=>gP rfl hi)) ?_;refine uAa rfl rfl rfl (uAc rfl gU) ?_;refine uAa rfl rfl rfl (uAg rfl gU rfl rfl) ?_;refine uBd (s:=⟨[(1,_,_),(17,_,_),(18,_,_)],[(.l 1,_)],[],[]⟩) (uAj (⟨sx rfl,sx rfl,sx rfl,trivial⟩) (⟨sx rfl,trivial⟩) trivial) ?_;refine uAa rfl rfl rfl (uAh rfl (fun hh=>hh) rfl rfl rfl rfl) ?_;refine uAa rfl rfl rfl (uA7 rfl (fun hh=>hh) rfl rfl) ?_;refine uAa rfl rfl rfl (uAm rfl rfl (fun hh=>hh) gU rfl) ?_;refine uAa rfl rfl rfl (uAO rfl rfl gU (fun _ hi=>gP rfl hi)) ?_;refine uAf ?_;refine uAo rfl (fun hc2=>?_) (fun hc2=>?_)
  ·try simp only [nn,uAi,T.rows_len,Fs.rows_len,Sp.rows_len,Gl.rows_len] at hc2
   refine uAd (uAb ?_);refine uAa rfl rfl rfl (uAe rfl gU) ?_;refine uAf ?_;refine uAq ?_
   repeat(first|refine tR ?_|refine bR ?_)
   refine uAu rfl ?_ trivial
   (refine uBc ?_; unfold cntE; (repeat' split) <;> omega)
  ·try simp only [nn,uAi,T.rows_len,Fs.rows_len,Sp.rows_len,Gl.rows_len] at hc2
   refine uAp ?_;refine uAd ?_;refine uAd (uAb ?_);refine uAa rfl rfl rfl (uAg rfl gU rfl rfl) ?_;refine uAa rfl rfl rfl (uAh rfl gU rfl rfl rfl rfl) ?_;refine uAI rfl rfl rfl rfl rfl gU rfl rfl ?_ (fun hh=>by simp at hh); intro hlen;refine uAa rfl rfl rfl (uAm rfl rfl gU gU rfl) ?_;refine uAf ?_;refine uAk (s:=⟨[(1,_,_),(26,_,_)],[(.l 1,_)],[],[]⟩) (uAj (⟨sx rfl,sx rfl,trivial⟩) (⟨sx rfl,trivial⟩) trivial) ?_;refine uAo rfl (fun hc3=>?_) (fun hc3=>?_)
   ·try simp only [nn,uAi,T.rows_len,Fs.rows_len,Sp.rows_len,Gl.rows_len] at hc3
    refine uAd (uAb ?_);refine uAa rfl rfl rfl (uAe rfl gU) ?_;refine uAf ?_;refine uAq ?_
    repeat(first|refine tR ?_|refine bR ?_)
    refine uAu rfl ?_ trivial
    (refine uBc ?_; unfold cntE; (repeat' split) <;> omega)
   ·try simp only [nn,uAi,T.rows_len,Fs.rows_len,Sp.rows_len,Gl.rows_len] at hc3
    refine uAp ?_;refine uAd ?_;refine uAd (uAb ?_);refine uAa rfl rfl rfl (uAg rfl gU rfl rfl) ?_;refine uAa rfl rfl rfl (uAh rfl gU rfl rfl rfl rfl) ?_;refine uAI rfl rfl rfl rfl rfl gU rfl rfl ?_ (fun hh=>by simp at hh); intro hlen;refine uAa rfl rfl rfl (uAm rfl rfl gU gU rfl) ?_;refine uAa rfl rfl rfl (uAc rfl gU) ?_;refine uAa rfl rfl rfl (uAg rfl gU rfl rfl) ?_;refine uAa rfl rfl rfl (uAh rfl (fun hh=>hh) rfl rfl rfl rfl) ?_;refine uAa rfl rfl rfl (uA7 rfl (fun hh=>hh) rfl rfl) ?_;refine uAa rfl rfl rfl (uAm rfl rfl (fun hh=>hh) gU rfl) ?_;refine uAa rfl rfl rfl (uAO rfl rfl gU (fun _ hi=>gP rfl hi)) ?_;refine uAf ?_;refine uAk (s:=⟨[(36,_,_)],[],[],[]⟩) (uAj (⟨sx rfl,trivial⟩) trivial trivial) ?_;refine uAo rfl (fun hc4=>?_) (fun hc4=>?_)
    ·try simp only [nn,uAi,T.rows_len,Fs.rows_len,Sp.rows_len,Gl.rows_len] at hc4
     refine uAd (uAb ?_);refine uAa rfl rfl rfl (uAe rfl gU) ?_;refine uAf ?_;refine uAq ?_
     repeat(first|refine tR ?_|refine bR ?_)
     refine uAu rfl ?_ trivial
     (refine uBc ?_; unfold cntE; (repeat' split) <;> omega)
    ·try simp only [nn,uAi,T.rows_len,Fs.rows_len,Sp.rows_len,Gl.rows_len] at hc4
     refine uAp ?_;refine uAd (uAb ?_);refine uAa rfl rfl rfl (uAe rfl gU) ?_;refine uAf ?_;refine uAq ?_
     repeat(first|refine tR ?_|refine bR ?_)
     refine uAu rfl ?_ trivial
     (refine uBc ?_; unfold cntE; (repeat' split) <;> omega)
theorem uLY (g : Gl) (hg : T.sizes g.data≤900000) : Ctr sys 86 [xg g] [] (xi (uCh uAN g)) none []:=by
 have hls:=T.len_sizes g.data
 have hrl:=T.rows_len g.data
 refine uAA Tryz.func86 rfl rfl rfl rfl rfl rfl ?_;refine uAd (uAb ?_);refine uAs rfl (uAH rfl rfl rfl rfl) ?_;refine uAa rfl rfl rfl (uAe rfl gU) ?_;refine uAf ?_;refine uAd ?_;refine uAd (uAb ?_);refine uAa rfl rfl rfl (uAg rfl gU rfl rfl) ?_;refine uAa rfl rfl rfl (uAh rfl gU rfl rfl rfl rfl) ?_;refine uAa rfl rfl rfl (uAm rfl rfl gU gU rfl) ?_;refine uAa rfl rfl rfl (uAc rfl gU) ?_;refine uAa rfl rfl rfl (uAg rfl gU rfl rfl) ?_;refine uAa rfl rfl rfl (uAh rfl (fun hh=>hh) rfl rfl rfl rfl) ?_;refine uAa rfl rfl rfl (uAm rfl rfl (fun hh=>hh) gU rfl) ?_;refine uAa rfl rfl rfl (uAO rfl rfl gU (fun _ hi=>gP rfl hi)) ?_;refine uAf ?_;refine uAk (s:=⟨[(1,_,_),(12,_,_)],[(.l 1,_)],[],[]⟩) (uAj (⟨sx rfl,sx rfl,trivial⟩) (⟨sx rfl,trivial⟩) trivial) ?_;refine uAo rfl (fun hc=>?_) (fun hc=>?_)
 ·try simp only [nn,uAi,T.rows_len,Fs.rows_len,Sp.rows_len,Gl.rows_len] at hc
  refine uAd (uAb ?_);refine uAa rfl rfl rfl (uAe rfl gU) ?_;refine uAf ?_;refine uAq ?_
  repeat(first|refine tR ?_|refine bR ?_)
  refine uAu rfl ?_ trivial
  (rw[uCh,if_pos (by grind)]; rfl)
 ·try simp only [nn,uAi,T.rows_len,Fs.rows_len,Sp.rows_len,Gl.rows_len] at hc
  refine uAp ?_;refine uAd ?_;refine uAd (uAb ?_);refine uAa rfl rfl rfl (uAg rfl gU rfl rfl) ?_;refine uAa rfl rfl rfl (uAh rfl gU rfl rfl rfl rfl) ?_;refine uAx rfl rfl rfl rfl rfl rfl gU gU (uDa _) rfl ?_;refine uAa rfl rfl rfl (uA1 rfl gU) ?_;refine uAa rfl rfl rfl (uAc rfl gU) ?_;refine uAa rfl rfl rfl (uAn rfl gU rfl rfl rfl rfl rfl) ?_;refine uAx rfl rfl rfl rfl rfl rfl gU (fun hh=>gA ((fun hh=>hh) hh) (rfl)) (uCI _) rfl ?_;refine uAa rfl rfl rfl (uAc rfl (fun hh=>hh)) ?_;refine uAa rfl rfl rfl (uAg rfl gU rfl rfl) ?_;refine uAa rfl rfl rfl (uAh rfl (fun hh=>hh) rfl rfl rfl rfl) ?_;refine uAx rfl rfl rfl rfl rfl rfl gU (fun hh=>gA ((fun hh=>hh) hh) (rfl)) (uDa _) rfl ?_;refine uAa rfl rfl rfl (uA1 rfl (fun hh=>hh)) ?_;refine uBd (s:=⟨[(1,_,_),(17,_,_),(20,_,_),(24,_,_)],[(.l 1,_)],[],[]⟩) (uAj (⟨sx rfl,sx rfl,sx rfl,sx rfl,trivial⟩) (⟨sx rfl,trivial⟩) trivial) ?_;refine uAa rfl rfl rfl (uAJ rfl rfl (fun hh=>hh) (fun hh hi=>gP hh hi)) ?_;refine uAa rfl rfl rfl (uAO rfl rfl gU (fun _ hi=>gP rfl hi)) ?_;refine uAf ?_;refine uAo rfl (fun hc2=>?_) (fun hc2=>?_)
  ·try simp only [nn,uAi,T.rows_len,Fs.rows_len,Sp.rows_len,Gl.rows_len] at hc2
   refine uAd (uAb ?_);refine uAa rfl rfl rfl (uAe rfl gU) ?_;refine uAf ?_;refine uAq ?_
   repeat(first|refine tR ?_|refine bR ?_)
   refine uAu rfl ?_ trivial
   (rw[uCh,if_neg (by omega),if_pos (by grind)]; rfl)
  ·try simp only [nn,uAi,T.rows_len,Fs.rows_len,Sp.rows_len,Gl.rows_len] at hc2
   refine uAp ?_;refine uAd ?_;refine uAd (uAb ?_);refine uAa rfl rfl rfl (uAn rfl gU rfl rfl rfl rfl rfl) ?_;refine uAx rfl rfl rfl rfl rfl rfl gU gU (uCI _) rfl ?_;refine uAa rfl rfl rfl (uA1 rfl gU) ?_;refine uAa rfl rfl rfl (uAc rfl gU) ?_;refine uAa rfl rfl rfl (uAg rfl gU rfl rfl) ?_;refine uAa rfl rfl rfl (uAh rfl (fun hh=>hh) rfl rfl rfl rfl) ?_;refine uAa rfl rfl rfl (uA3 rfl rfl (fun hh=>hh) gU rfl) ?_;refine uAa rfl rfl rfl (uAJ rfl rfl gU (fun _ hi=>gP rfl hi)) ?_;refine uAf ?_;refine uAk (s:=⟨[(1,_,_),(34,_,_)],[(.l 1,_)],[],[]⟩) (uAj (⟨sx rfl,sx rfl,trivial⟩) (⟨sx rfl,trivial⟩) trivial) ?_;refine uAo rfl (fun hc3=>?_) (fun hc3=>?_)
   ·try simp only [nn,uAi,T.rows_len,Fs.rows_len,Sp.rows_len,Gl.rows_len] at hc3
    refine uAd (uAb ?_);refine uAa rfl rfl rfl (uAe rfl gU) ?_;refine uAf ?_;refine uAq ?_
    repeat(first|refine tR ?_|refine bR ?_)
    refine uAu rfl ?_ trivial
    (rw[uCh,if_neg (by omega),if_neg (by grind),if_pos (by grind)]; rfl)
   ·try simp only [nn,uAi,T.rows_len,Fs.rows_len,Sp.rows_len,Gl.rows_len] at hc3
    refine uAp ?_;refine uAd ?_;refine uAd (uAb ?_);refine uAa rfl rfl rfl (uAg rfl gU rfl rfl) ?_;refine uAa rfl rfl rfl (uAh rfl gU rfl rfl rfl rfl) ?_;refine uAI rfl rfl rfl rfl rfl gU rfl rfl ?_ (fun hh=>by simp at hh); intro hlen;refine uAa rfl rfl rfl (uAm rfl rfl gU gU rfl) ?_;refine uAa rfl rfl rfl (uAc rfl gU) ?_;refine uAa rfl rfl rfl (uAg rfl gU rfl rfl) ?_;refine uAa rfl rfl rfl (uAh rfl (fun hh=>hh) rfl rfl rfl rfl) ?_;refine uAa rfl rfl rfl (uA7 rfl (fun hh=>hh) rfl rfl) ?_;refine uAa rfl rfl rfl (uAm rfl rfl (fun hh=>hh) gU rfl) ?_;refine uAa rfl rfl rfl (uAO rfl rfl gU (fun _ hi=>gP rfl hi)) ?_;refine uAa rfl rfl rfl (uAc rfl gU) ?_;refine uAa rfl rfl rfl (uAn rfl gU rfl rfl rfl rfl rfl) ?_;refine uBd (s:=⟨[(1,_,_),(45,_,_),(46,_,_)],[(.l 1,_)],[],[]⟩) (uAj (⟨sx rfl,sx rfl,sx rfl,trivial⟩) (⟨sx rfl,trivial⟩) trivial) ?_;refine uAx rfl rfl rfl rfl rfl rfl gU (fun hh=>gA ((fun hh=>hh) hh) (rfl)) (uCI _) rfl ?_;refine uAa rfl rfl rfl (uA1 rfl (fun hh=>hh)) ?_;refine uAa rfl rfl rfl (uAc rfl (fun hh=>hh)) ?_;refine uAa rfl rfl rfl (uAg rfl gU rfl rfl) ?_;refine uAa rfl rfl rfl (uAh rfl (fun hh=>hh) rfl rfl rfl rfl) ?_;refine uAa rfl rfl rfl (uA7 rfl (fun hh=>hh) rfl rfl) ?_;refine uAa rfl rfl rfl (uAm rfl rfl (fun hh=>hh) gU rfl) ?_
    refine uAa rfl rfl rfl (uAJ rfl rfl (fun hh=>hh) (fun hh hi=>gP hh hi)) ?_;refine uAa rfl rfl rfl (uAO rfl rfl gU (fun _ hi=>gP rfl hi)) ?_;refine uAf ?_;refine uAk (s:=⟨[(1,_,_),(55,_,_)],[(.l 1,_)],[],[]⟩) (uAj (⟨sx rfl,sx rfl,trivial⟩) (⟨sx rfl,trivial⟩) trivial) ?_;refine uAo rfl (fun hc4=>?_) (fun hc4=>?_)
    ·try simp only [nn,uAi,T.rows_len,Fs.rows_len,Sp.rows_len,Gl.rows_len] at hc4
     refine uAd (uAb ?_);refine uAa rfl rfl rfl (uAe rfl gU) ?_;refine uAf ?_;refine uAq ?_
     repeat(first|refine tR ?_|refine bR ?_)
     refine uAu rfl ?_ trivial
     (rw[uCh,if_neg (by omega),if_neg (by grind),if_neg (by grind),if_pos (by cases ha : uBs g.kind <;> simp only [ha,Bool.true_eq_false,Bool.false_eq_true,false_and,true_and,and_true,or_false,false_or,not_true_eq_false,not_false_eq_true,ne_eq,reduceCtorEq,and_false] at hc4 ⊢ <;> omega)]; rfl)
    ·try simp only [nn,uAi,T.rows_len,Fs.rows_len,Sp.rows_len,Gl.rows_len] at hc4
     have he : uCh uAN g=errs (msgE uAN) g.data:=by
      rw[uCh,if_neg (by omega),if_neg (by grind),if_neg (by grind),if_neg (by cases ha : uBs g.kind <;> simp only [ha,Bool.true_eq_false,Bool.false_eq_true,false_and,true_and,and_true,or_false,false_or,not_true_eq_false,not_false_eq_true,ne_eq,reduceCtorEq,and_false] at hc4 ⊢ <;> omega)]
     refine uAp ?_;refine uAd ?_;refine uAd (uAb ?_);refine uAa rfl rfl rfl (uAe rfl gU) ?_;refine uAf ?_;refine uAt ?_;refine uAW (ι:=Nat) { t:=[(1,_,_)],bx:=[(.l 1,_)],ow:=[] } (fun k=>[(3,true,xi (k : Int))]) (fun k=>[]) (fun k=>k≤g.data.length∧errs (msgE uAN) (g.data.drop k)=uCh uAN g) (fun k=>g.data.length - k) (0) (⟨by simp,by rw[he]; rfl⟩) (uAj (⟨sx rfl,sx rfl,trivial⟩) (⟨sx rfl,trivial⟩) trivial) ?_
     intro k hok
     dsimp only [List.cons_append,List.nil_append]
     obtain ⟨hk,hi⟩:=hok
     refine uAd ?_;refine uAd (uAb ?_);refine uAa rfl rfl rfl (uAc rfl gU) ?_;refine uAa rfl rfl rfl (uAg rfl gU rfl rfl) ?_;refine uAa rfl rfl rfl (uAh rfl gU rfl rfl rfl rfl) ?_;refine uAI rfl rfl rfl rfl rfl gU rfl rfl ?_ (fun hh=>by simp at hh); intro hlen;refine uAa rfl rfl rfl (uAm rfl rfl gU gU rfl) ?_;refine uAf ?_;refine uAk (s:=⟨[(1,_,_),(3,_,_),(60,_,_)],[(.l 1,_)],[],[]⟩) (uAj (⟨sx rfl,sx rfl,sx rfl,trivial⟩) (⟨sx rfl,trivial⟩) trivial) ?_;refine uAo rfl (fun hc5=>?_) (fun hc5=>?_)
     ·try simp only [nn,uAi,T.rows_len,Fs.rows_len,Sp.rows_len,Gl.rows_len] at hc5
      have hlt : k < g.data.length:=by omega
      have h2:=T.getD_size hlt
      have hd:=uCp (d:=default) hlt hi
      refine uAp ?_;refine uAd ?_;refine uAt ?_;refine uAd (uAb ?_);refine uAa rfl rfl rfl (uAg rfl gU rfl rfl) ?_;refine uAa rfl rfl rfl (uAh rfl gU rfl rfl rfl rfl) ?_;refine uAa rfl rfl rfl (uAc rfl gU) ?_;refine uAa rfl rfl rfl (uAr rfl rfl gU gU rfl rfl rfl (fun hh=>T.rows_at (by first|omega|(simp at hh ⊢; omega)))) ?_;refine uAa rfl rfl rfl (uAD rfl gU rfl rfl rfl rfl) ?_;refine uAx rfl rfl rfl rfl rfl rfl gU gU (uFh _ (by omega)) rfl ?_;refine uAa rfl rfl rfl (uAe rfl gU) ?_;refine uAf ?_;refine uAk (s:=⟨[(1,_,_),(3,_,_),(4,_,_)],[(.l 1,_)],[],[]⟩) (uAj (⟨sx rfl,sx rfl,sx rfl,trivial⟩) (⟨sx rfl,trivial⟩) trivial) ?_;refine uAd (uAb ?_);refine uAa rfl rfl rfl (uAc rfl gU) ?_;refine uAa rfl rfl rfl (uAm rfl rfl gU gU rfl) ?_;refine uAf ?_;refine uAo rfl (fun hc1=>?_) (fun hc1=>?_)
      ·try simp only [nn,uAi,T.rows_len,Fs.rows_len,Sp.rows_len,Gl.rows_len] at hc1
       refine uAd (uAb ?_);refine uAa rfl rfl rfl (uAc rfl gU) ?_;refine uAa rfl rfl rfl (uAe rfl gU) ?_;refine uAf ?_;refine uAq ?_
       repeat(first|refine tR ?_|refine bR ?_)
       refine uAu rfl ?_ trivial;exact uBc (hd.1 (by assumption)).symm
      ·try simp only [nn,uAi,T.rows_len,Fs.rows_len,Sp.rows_len,Gl.rows_len] at hc1
       refine uAp ?_;refine uAb ?_;refine uAa rfl rfl rfl (uAc rfl gU) ?_;refine uAa rfl rfl rfl (uAz rfl rfl gU gU rfl (IntWalk.i64_in _ (by omega))) ?_;refine uAa rfl rfl rfl (uAe rfl gU) ?_;refine uAf ?_;refine ⟨k + 1,?_,?_,uAj (⟨⟨_,rfl,?_⟩,⟨sx rfl,trivial⟩⟩) (⟨sx rfl,trivial⟩) trivial⟩
       all_goals (first|rfl|omega|exact ⟨by omega,hd.2 (by assumption)⟩)
     ·try simp only [nn,uAi,T.rows_len,Fs.rows_len,Sp.rows_len,Gl.rows_len] at hc5
      refine uAL ?_
      repeat(first|refine uAE ?_|refine uAF ?_|refine uAB rfl ?_)
      refine uAd (uAb ?_);refine uAa rfl rfl rfl (uAe rfl gU) ?_;refine uAf ?_;refine uAq ?_
      repeat(first|refine tR ?_|refine bR ?_)
      refine uAu rfl ?_ trivial;exact uBc (uDH (by omega) hi).symm
theorem uHb {α : Type} {f : α→Int} {l : List α} {k : Nat} (h : l.length≤k) : errs f (l.drop k)=0:=by rw[List.drop_of_length_le h]; rfl
set_option maxHeartbeats 4000000 in
theorem uGv (n : Nar) (hs : ∀ s ∈ n.steps,s.msg.size≤900000) (hg : ∀ g ∈ n.goals,T.sizes g.data≤900000) : Ctr sys 43 [xn n] [] (xi (narE uAN n)) none []:=by
 have hr1:=uAi n.roles
 have hr2:=Fs.rows_len n.fresh
 have hr3:=uAi n.tags
 have hr4:=Sp.rows_len n.steps
 have hr5:=Gl.rows_len n.goals
 refine uAA Tryz.func43 rfl rfl rfl rfl rfl rfl ?_;refine uAd (uAb ?_);refine uAs rfl (uAH rfl rfl rfl rfl) ?_;refine uAa rfl rfl rfl (uAe rfl gU) ?_;refine uAf ?_;refine uAd ?_;refine uAd (uAb ?_);refine uAa rfl rfl rfl (uAg rfl gU rfl rfl) ?_;refine uAa rfl rfl rfl (uAh rfl gU rfl rfl rfl rfl) ?_;refine uAx rfl rfl rfl rfl rfl rfl gU gU (uDa _) rfl ?_;refine uAa rfl rfl rfl (uA1 rfl gU) ?_;refine uAf ?_;refine uAk (s:=⟨[(1,_,_),(13,_,_)],[(.l 1,_)],[],[]⟩) (uAj (⟨sx rfl,sx rfl,trivial⟩) (⟨sx rfl,trivial⟩) trivial) ?_;refine uAo rfl (fun hc=>?_) (fun hc=>?_)
 ·try simp only [nn,uAi,T.rows_len,Fs.rows_len,Sp.rows_len,Gl.rows_len] at hc
  refine uAd (uAb ?_);refine uAa rfl rfl rfl (uAe rfl gU) ?_;refine uAf ?_;refine uAq ?_
  repeat(first|refine tR ?_|refine bR ?_)
  refine uAu rfl ?_ trivial
  (rw[narE,if_pos (by rw[uD6,if_pos hc]; simp),uD6,if_pos hc]; rfl)
 ·try simp only [nn,uAi,T.rows_len,Fs.rows_len,Sp.rows_len,Gl.rows_len] at hc
  refine uAp ?_;refine uAd ?_;refine uAd (uAb ?_);refine uAa rfl rfl rfl (uAn rfl gU rfl rfl rfl rfl rfl) ?_;refine uAx rfl rfl rfl rfl rfl rfl gU gU (uJd _) rfl ?_;refine uAa rfl rfl rfl (uAe rfl gU) ?_;refine uAf ?_;refine uAd (uAb ?_);refine uAa rfl rfl rfl (uAc rfl gU) ?_;refine uAa rfl rfl rfl (uAm rfl rfl gU gU rfl) ?_;refine uAf ?_;refine uAk (s:=⟨[(1,_,_),(3,_,_),(17,_,_)],[(.l 1,_)],[],[]⟩) (uAj (⟨sx rfl,sx rfl,sx rfl,trivial⟩) (⟨sx rfl,trivial⟩) trivial) ?_;refine uAo rfl (fun hc2=>?_) (fun hc2=>?_)
  ·try simp only [nn,uAi,T.rows_len,Fs.rows_len,Sp.rows_len,Gl.rows_len] at hc2
   have hh : uD6 uAN n=cntE n:=by rw[uD6,if_neg (by rw[hc]; simp),if_pos hc2]
   refine uAd (uAb ?_);refine uAa rfl rfl rfl (uAc rfl gU) ?_;refine uAa rfl rfl rfl (uAe rfl gU) ?_;refine uAf ?_;refine uAq ?_
   repeat(first|refine tR ?_|refine bR ?_)
   refine uAu rfl ?_ trivial
   (rw[narE,if_pos (by rw[hh]; exact hc2),hh]; rfl)
  ·try simp only [nn,uAi,T.rows_len,Fs.rows_len,Sp.rows_len,Gl.rows_len] at hc2
   have hh : uD6 uAN n=(if n.roles.all uAN=false then 2 else if errs (frE uAN) n.fresh≠0 then errs (frE uAN) n.fresh else if n.tags.all uAN=false then 2 else 0):=by rw[uD6,if_neg (by rw[hc]; simp),if_neg (by rw[hc2]; simp)]
   refine uAp ?_;refine uAd ?_;refine uAd (uAb ?_);refine uAa rfl rfl rfl (uAg rfl gU rfl rfl) ?_;refine uAa rfl rfl rfl (uAh rfl gU rfl rfl rfl rfl) ?_;refine uAx rfl rfl rfl rfl rfl rfl gU gU (uDJ _) rfl ?_;refine uAa rfl rfl rfl (uA1 rfl gU) ?_;refine uAf ?_;refine uAo rfl (fun hc3=>?_) (fun hc3=>?_)
   ·try simp only [nn,uAi,T.rows_len,Fs.rows_len,Sp.rows_len,Gl.rows_len] at hc3
    rw[if_pos hc3] at hh
    refine uAd (uAb ?_);refine uAa rfl rfl rfl (uAe rfl gU) ?_;refine uAf ?_;refine uAq ?_
    repeat(first|refine tR ?_|refine bR ?_)
    refine uAu rfl ?_ trivial
    (rw[narE,if_pos (by rw[hh]; simp),hh]; rfl)
   ·try simp only [nn,uAi,T.rows_len,Fs.rows_len,Sp.rows_len,Gl.rows_len] at hc3
    rw[if_neg (by rw[hc3]; simp)] at hh
    refine uAp ?_;refine uAd ?_;refine uAd (uAb ?_);refine uAa rfl rfl rfl (uAe rfl gU) ?_;refine uAf ?_;refine uAk (s:=⟨[(1,_,_),(4,_,_)],[(.l 1,_)],[],[]⟩) (uAj (⟨sx rfl,sx rfl,trivial⟩) (⟨sx rfl,trivial⟩) trivial) ?_;refine uAt ?_;refine uAW (ι:=Nat) { t:=[(1,_,_)],bx:=[(.l 1,_)],ow:=[] } (fun k=>[(4,true,xi (k : Int))]) (fun k=>[]) (fun k=>k≤n.fresh.length∧errs (frE uAN) (n.fresh.drop k)=errs (frE uAN) n.fresh) (fun k=>n.fresh.length - k) (0) (⟨by simp,rfl⟩) (uAj (⟨sx rfl,sx rfl,trivial⟩) (⟨sx rfl,trivial⟩) trivial) ?_
    intro k hokk
    dsimp only [List.cons_append,List.nil_append]
    obtain ⟨hk,hi⟩:=hokk
    refine uAd ?_;refine uAd (uAb ?_);refine uAa rfl rfl rfl (uAc rfl gU) ?_;refine uAa rfl rfl rfl (uAg rfl gU rfl rfl) ?_;refine uAa rfl rfl rfl (uAh rfl gU rfl rfl rfl rfl) ?_;refine uAI rfl rfl rfl rfl rfl gU rfl rfl ?_ (fun hh=>by simp at hh); intro hlen;refine uAa rfl rfl rfl (uAm rfl rfl gU gU rfl) ?_;refine uAf ?_;refine uAk (s:=⟨[(1,_,_),(4,_,_),(27,_,_)],[(.l 1,_)],[],[]⟩) (uAj (⟨sx rfl,sx rfl,sx rfl,trivial⟩) (⟨sx rfl,trivial⟩) trivial) ?_;refine uAo rfl (fun hc4=>?_) (fun hc4=>?_)
    ·try simp only [nn,uAi,T.rows_len,Fs.rows_len,Sp.rows_len,Gl.rows_len] at hc4
     have hlt : k < n.fresh.length:=by omega
     have hd:=uCp (d:=default) hlt hi
     have hn2:=uDJ [(n.fresh.getD k default).role,(n.fresh.getD k default).name]
     refine uAp ?_;refine uAd ?_;refine uAt ?_;refine uAd (uAb ?_);refine uAa rfl rfl rfl (uAg rfl gU rfl rfl) ?_;refine uAa rfl rfl rfl (uAh rfl gU rfl rfl rfl rfl) ?_;refine uAa rfl rfl rfl (uAc rfl gU) ?_;refine uAa rfl rfl rfl (uAr rfl rfl gU gU rfl rfl rfl (fun hh=>Fs.rows_at (by first|omega|(simp at hh ⊢; omega)))) ?_;refine uAa rfl rfl rfl (uAD rfl gU rfl rfl rfl rfl) ?_;refine uAs rfl (uAK rfl rfl rfl) ?_;refine uAs rfl (uAw rfl rfl rfl rfl rfl rfl rfl) ?_;refine uAf ?_;refine uAk (s:=⟨[(1,_,_),(4,_,_),(5,_,_)],[(.l 1,_),(.l 5,_)],[],[]⟩) (uAj (⟨sx rfl,sx rfl,sx rfl,trivial⟩) (⟨sx rfl,sx rfl,trivial⟩) trivial) ?_;refine uAd ?_;refine uAd (uAb ?_);refine uAa rfl rfl rfl (uAg rfl gU rfl rfl) ?_;refine uAa rfl rfl rfl (uAh rfl gU rfl rfl rfl rfl) ?_;refine uAa rfl rfl rfl (uAg rfl gU rfl rfl) ?_;refine uAa rfl rfl rfl (uAh rfl gU rfl rfl rfl rfl) ?_;refine uAR (xs:=[_,_]) rfl rfl rfl rfl rfl rfl rfl rfl rfl gU rfl ?_;refine uAx rfl rfl rfl rfl rfl rfl gU gU (hn2) rfl ?_;refine uAa rfl rfl rfl (uA1 rfl gU) ?_;refine uAf ?_;refine uAk (s:=⟨[(1,_,_),(4,_,_),(5,_,_),(41,_,_)],[(.l 1,_),(.l 5,_)],[],[]⟩) (uAj (⟨sx rfl,sx rfl,sx rfl,sx rfl,trivial⟩) (⟨sx rfl,sx rfl,trivial⟩) trivial) ?_
     refine uAo rfl (fun hc5=>?_) (fun hc5=>?_)
     ·try simp only [nn,uAi,T.rows_len,Fs.rows_len,Sp.rows_len,Gl.rows_len] at hc5
      have hf : frE uAN (n.fresh.getD k default)=2:=by rw[frE,if_pos (by simpa [Decidable.or_iff_not_imp_left] using hc5)]
      have he:=hd.1 (by rw[hf]; simp)
      rw[he,hf] at hh
      rw[if_pos (by simp)] at hh
      refine uAd (uAb ?_);refine uAa rfl rfl rfl (uAe rfl gU) ?_;refine uAf ?_;refine uAq ?_
      repeat(first|refine tR ?_|refine bR ?_)
      refine uAu rfl ?_ trivial
      (rw[narE,if_pos (by rw[hh]; simp),hh]; rfl)
     ·try simp only [nn,uAi,T.rows_len,Fs.rows_len,Sp.rows_len,Gl.rows_len] at hc5
      have hnn : ¬(uAN (n.fresh.getD k default).role=false∨uAN (n.fresh.getD k default).name=false):=by
       simp at hc5 ⊢; simp [hc5]
      refine uAp ?_;refine uAd (uAb ?_);refine uAa rfl rfl rfl (uAg rfl gU rfl rfl) ?_;refine uAa rfl rfl rfl (uAh rfl gU rfl rfl rfl rfl) ?_;refine uAa rfl rfl rfl (uAm rfl rfl gU gU rfl) ?_;refine uAa rfl rfl rfl (uAc rfl gU) ?_;refine uAa rfl rfl rfl (uAg rfl gU rfl rfl) ?_;refine uAa rfl rfl rfl (uAh rfl (fun hh=>hh) rfl rfl rfl rfl) ?_;refine uAa rfl rfl rfl (uAm rfl rfl (fun hh=>hh) gU rfl) ?_;refine uAa rfl rfl rfl (uAJ rfl rfl gU (fun _ hi=>gP rfl hi)) ?_;refine uAa rfl rfl rfl (uAc rfl gU) ?_;refine uAa rfl rfl rfl (uAg rfl gU rfl rfl) ?_;refine uAa rfl rfl rfl (uAh rfl (fun hh=>hh) rfl rfl rfl rfl) ?_;refine uAa rfl rfl rfl (uAm rfl rfl (fun hh=>hh) gU rfl) ?_;refine uBd (s:=⟨[(1,_,_),(4,_,_),(50,_,_),(53,_,_)],[(.l 1,_)],[],[]⟩) (uAj (⟨sx rfl,sx rfl,sx rfl,sx rfl,trivial⟩) (⟨sx rfl,trivial⟩) trivial) ?_;refine uAa rfl rfl rfl (uAJ rfl rfl gU (fun _ hi=>gP rfl hi)) ?_;refine uAf ?_;refine uAo rfl (fun hc6=>?_) (fun hc6=>?_)
      ·try simp only [nn,uAi,T.rows_len,Fs.rows_len,Sp.rows_len,Gl.rows_len] at hc6
       have hf : frE uAN (n.fresh.getD k default)=10:=by rw[frE,if_neg hnn,if_pos (by omega)]
       have he:=hd.1 (by rw[hf]; simp)
       rw[he,hf] at hh
       rw[if_pos (by simp)] at hh
       refine uAd (uAb ?_);refine uAa rfl rfl rfl (uAe rfl gU) ?_;refine uAf ?_;refine uAq ?_
       repeat(first|refine tR ?_|refine bR ?_)
       refine uAu rfl ?_ trivial
       (rw[narE,if_pos (by rw[hh]; simp),hh]; rfl)
      ·try simp only [nn,uAi,T.rows_len,Fs.rows_len,Sp.rows_len,Gl.rows_len] at hc6
       have hf : frE uAN (n.fresh.getD k default)=0:=by rw[frE,if_neg hnn,if_neg (by omega)]
       refine uAp ?_;refine uAb ?_;refine uAa rfl rfl rfl (uAc rfl gU) ?_;refine uAa rfl rfl rfl (uAz rfl rfl gU gU rfl (IntWalk.i64_in _ (by omega))) ?_;refine uAa rfl rfl rfl (uAe rfl gU) ?_;refine uAf ?_;refine ⟨k + 1,?_,?_,uAj (⟨⟨_,rfl,?_⟩,⟨sx rfl,trivial⟩⟩) (⟨sx rfl,trivial⟩) trivial⟩
       all_goals first|rfl|omega|exact ⟨by omega,hd.2 hf⟩
    ·try simp only [nn,uAi,T.rows_len,Fs.rows_len,Sp.rows_len,Gl.rows_len] at hc4
     rw[uHb (by omega)] at hi
     rw[← hi,if_neg (by simp)] at hh
     refine uAL ?_
     repeat(first|refine uAE ?_|refine uAF ?_|refine uAB rfl ?_)
     refine uAd ?_;refine uAd (uAb ?_);refine uAa rfl rfl rfl (uAg rfl gU rfl rfl) ?_;refine uAa rfl rfl rfl (uAh rfl gU rfl rfl rfl rfl) ?_;refine uAx rfl rfl rfl rfl rfl rfl gU gU (uDJ _) rfl ?_;refine uAa rfl rfl rfl (uA1 rfl gU) ?_;refine uAf ?_;refine uAo rfl (fun hc5=>?_) (fun hc5=>?_)
     ·try simp only [nn,uAi,T.rows_len,Fs.rows_len,Sp.rows_len,Gl.rows_len] at hc5
      rw[if_pos hc5] at hh
      refine uAd (uAb ?_);refine uAa rfl rfl rfl (uAe rfl gU) ?_;refine uAf ?_;refine uAq ?_
      repeat(first|refine tR ?_|refine bR ?_)
      refine uAu rfl ?_ trivial
      (rw[narE,if_pos (by rw[hh]; simp),hh]; rfl)
     ·try simp only [nn,uAi,T.rows_len,Fs.rows_len,Sp.rows_len,Gl.rows_len] at hc5
      rw[if_neg (by rw[hc5]; simp)] at hh
      have hN : narE uAN n=(if errs (spE uAN) n.steps≠0 then errs (spE uAN) n.steps else errs (uCh uAN) n.goals):=by rw[narE,if_neg (by rw[hh]; simp)]
      refine uAp ?_;refine uAd ?_;refine uAd (uAb ?_);refine uAa rfl rfl rfl (uAe rfl gU) ?_;refine uAf ?_;refine uAk (s:=⟨[(1,_,_),(6,_,_)],[(.l 1,_)],[],[]⟩) (uAj (⟨sx rfl,sx rfl,trivial⟩) (⟨sx rfl,trivial⟩) trivial) ?_;refine uAt ?_;refine uAW (ι:=Nat) { t:=[(1,_,_)],bx:=[(.l 1,_)],ow:=[] } (fun j=>[(6,true,xi (j : Int))]) (fun j=>[]) (fun j=>j≤n.steps.length∧errs (spE uAN) (n.steps.drop j)=errs (spE uAN) n.steps) (fun j=>n.steps.length - j) (0) (⟨by simp,rfl⟩) (uAj (⟨sx rfl,sx rfl,trivial⟩) (⟨sx rfl,trivial⟩) trivial) ?_
      intro j hokj
      dsimp only [List.cons_append,List.nil_append]
      obtain ⟨hj,hij⟩:=hokj
      refine uAd ?_;refine uAd (uAb ?_);refine uAa rfl rfl rfl (uAc rfl gU) ?_;refine uAa rfl rfl rfl (uAg rfl gU rfl rfl) ?_;refine uAa rfl rfl rfl (uAh rfl gU rfl rfl rfl rfl) ?_;refine uAI rfl rfl rfl rfl rfl gU rfl rfl ?_ (fun hh=>by simp at hh); intro hlen;refine uAa rfl rfl rfl (uAm rfl rfl gU gU rfl) ?_;refine uAf ?_;refine uAk (s:=⟨[(1,_,_),(6,_,_),(63,_,_)],[(.l 1,_)],[],[]⟩) (uAj (⟨sx rfl,sx rfl,sx rfl,trivial⟩) (⟨sx rfl,trivial⟩) trivial) ?_;refine uAo rfl (fun hc6=>?_) (fun hc6=>?_)
      ·try simp only [nn,uAi,T.rows_len,Fs.rows_len,Sp.rows_len,Gl.rows_len] at hc6
       have hlt : j < n.steps.length:=by omega
       have hd:=uCp (d:=default) hlt hij
       have hmem:=hs _ (uF0 (d:=default) hlt)
       have hn2:=uDJ [(n.steps.getD j default).frm,(n.steps.getD j default).dst]
       refine uAp ?_;refine uAd ?_;refine uAt ?_;refine uAd ?_;refine uAd ?_;refine awp_drawn' (by kernel_rfl) ?_;refine uAl rfl rfl rfl rfl (uAg rfl gU rfl rfl) ?_;refine uA5 rfl rfl rfl rfl rfl rfl rfl gU rfl rfl rfl rfl ?_;refine uAl rfl rfl rfl rfl (uAc rfl gU) ?_;refine uAl rfl rfl rfl rfl (uAr rfl rfl gU gU rfl rfl rfl (fun hh=>Sp.rows_at (by first|omega|(simp at hh ⊢; omega)))) ?_;refine uAl rfl rfl rfl rfl (uAU rfl gU rfl rfl) ?_;refine uAl rfl rfl rfl rfl (uAM rfl gU rfl rfl rfl) ?_;refine uAl rfl rfl rfl rfl (uAg rfl gU rfl rfl) ?_;refine uA5 rfl rfl rfl rfl rfl rfl rfl gU rfl rfl rfl rfl ?_;refine uAl rfl rfl rfl rfl (uAc rfl gU) ?_;refine uAl rfl rfl rfl rfl (uAr rfl rfl gU gU rfl rfl rfl (fun hh=>Sp.rows_at (by first|omega|(simp at hh ⊢; omega)))) ?_;refine uAl rfl rfl rfl rfl (uAU rfl gU rfl rfl) ?_;refine uAl rfl rfl rfl rfl (uAM rfl gU rfl rfl rfl) ?_;refine uDh (xs:=[_,_]) rfl rfl rfl rfl rfl rfl rfl rfl rfl rfl gU rfl ?_;refine uAQ rfl rfl rfl rfl rfl rfl rfl gU gU (hn2) rfl ?_;refine uAl rfl rfl rfl rfl (uA1 rfl gU) ?_;refine uA2 (by kernel_rfl) ?_;refine uAk (s:=⟨[(1,_,_),(6,_,_),(80,_,_)],[(.l 1,_)],[],[]⟩) (uAj (⟨sx rfl,sx rfl,sx rfl,trivial⟩) (⟨sx rfl,trivial⟩) trivial) ?_;refine uAo rfl (fun hc7=>?_) (fun hc7=>?_)
       ·try simp only [nn,uAi,T.rows_len,Fs.rows_len,Sp.rows_len,Gl.rows_len] at hc7
        have hf : spE uAN (n.steps.getD j default)=2:=by rw[spE,if_pos (by simpa [Decidable.or_iff_not_imp_left] using hc7)]
        have he:=hd.1 (by rw[hf]; simp)
        rw[he,hf,if_pos (by simp)] at hN
        refine uAd (uAb ?_);refine uAa rfl rfl rfl (uAe rfl gU) ?_;refine uAf ?_;refine uAq ?_
        repeat(first|refine tR ?_|refine bR ?_)
        refine uAu rfl ?_ trivial
        (rw[hN]; rfl)
       ·try simp only [nn,uAi,T.rows_len,Fs.rows_len,Sp.rows_len,Gl.rows_len] at hc7
        have hnn : ¬(uAN (n.steps.getD j default).frm=false∨uAN (n.steps.getD j default).dst=false):=by
         simp at hc7 ⊢; simp [hc7]
        have hf : spE uAN (n.steps.getD j default)=msgE uAN (n.steps.getD j default).msg:=by rw[spE,if_neg hnn]
        rw[hf] at hd
        refine uAp ?_;refine uAd (uAb ?_);refine uAa rfl rfl rfl (uAg rfl gU rfl rfl) ?_;refine uAa rfl rfl rfl (uAh rfl gU rfl rfl rfl rfl) ?_;refine uAa rfl rfl rfl (uAc rfl gU) ?_;refine uAa rfl rfl rfl (uAr rfl rfl gU gU rfl rfl rfl (fun hh=>Sp.rows_at (by first|omega|(simp at hh ⊢; omega)))) ?_;refine uAa rfl rfl rfl (uAU rfl gU rfl rfl) ?_;refine uAa rfl rfl rfl (uAD rfl gU rfl rfl rfl rfl) ?_;refine uAx rfl rfl rfl rfl rfl rfl gU gU (uFh _ hmem) rfl ?_;refine uAa rfl rfl rfl (uAe rfl gU) ?_;refine uAf ?_;refine uAk (s:=⟨[(1,_,_),(6,_,_),(7,_,_)],[(.l 1,_)],[],[]⟩) (uAj (⟨sx rfl,sx rfl,sx rfl,trivial⟩) (⟨sx rfl,trivial⟩) trivial) ?_;refine uAd (uAb ?_);refine uAa rfl rfl rfl (uAc rfl gU) ?_;refine uAa rfl rfl rfl (uAm rfl rfl gU gU rfl) ?_;refine uAf ?_;refine uAo rfl (fun hc8=>?_) (fun hc8=>?_)
        ·try simp only [nn,uAi,T.rows_len,Fs.rows_len,Sp.rows_len,Gl.rows_len] at hc8
         have he:=hd.1 hc8
         rw[he,if_pos hc8] at hN
         refine uAd (uAb ?_);refine uAa rfl rfl rfl (uAc rfl gU) ?_;refine uAa rfl rfl rfl (uAe rfl gU) ?_;refine uAf ?_;refine uAq ?_
         repeat(first|refine tR ?_|refine bR ?_)
         refine uAu rfl ?_ trivial
         (rw[hN]; rfl)
        ·try simp only [nn,uAi,T.rows_len,Fs.rows_len,Sp.rows_len,Gl.rows_len] at hc8
         refine uAp ?_;refine uAb ?_;refine uAa rfl rfl rfl (uAc rfl gU) ?_;refine uAa rfl rfl rfl (uAz rfl rfl gU gU rfl (IntWalk.i64_in _ (by omega))) ?_;refine uAa rfl rfl rfl (uAe rfl gU) ?_;refine uAf ?_;refine ⟨j + 1,?_,?_,uAj (⟨⟨_,rfl,?_⟩,⟨sx rfl,trivial⟩⟩) (⟨sx rfl,trivial⟩) trivial⟩
         all_goals first|rfl|omega|exact ⟨by omega,hd.2 hc8⟩
      ·try simp only [nn,uAi,T.rows_len,Fs.rows_len,Sp.rows_len,Gl.rows_len] at hc6
       rw[uHb (by omega)] at hij
       rw[← hij,if_neg (by simp)] at hN
       refine uAL ?_
       repeat(first|refine uAE ?_|refine uAF ?_|refine uAB rfl ?_)
       refine uAd ?_;refine uAd (uAb ?_);refine uAa rfl rfl rfl (uAe rfl gU) ?_;refine uAf ?_;refine uAt ?_;refine uAW (ι:=Nat) { t:=[(1,_,_)],bx:=[(.l 1,_)],ow:=[] } (fun i=>[(8,true,xi (i : Int))]) (fun i=>[]) (fun i=>i≤n.goals.length∧errs (uCh uAN) (n.goals.drop i)=errs (uCh uAN) n.goals) (fun i=>n.goals.length - i) (0) (⟨by simp,rfl⟩) (uAj (⟨sx rfl,sx rfl,trivial⟩) (⟨sx rfl,trivial⟩) trivial) ?_
       intro i hoki
       dsimp only [List.cons_append,List.nil_append]
       obtain ⟨hi2,hii⟩:=hoki
       refine uAd ?_;refine uAd (uAb ?_);refine uAa rfl rfl rfl (uAc rfl gU) ?_;refine uAa rfl rfl rfl (uAg rfl gU rfl rfl) ?_;refine uAa rfl rfl rfl (uAh rfl gU rfl rfl rfl rfl) ?_;refine uAI rfl rfl rfl rfl rfl gU rfl rfl ?_ (fun hh=>by simp at hh); intro hlen;refine uAa rfl rfl rfl (uAm rfl rfl gU gU rfl) ?_;refine uAf ?_;refine uAk (s:=⟨[(1,_,_),(8,_,_),(95,_,_)],[(.l 1,_)],[],[]⟩) (uAj (⟨sx rfl,sx rfl,sx rfl,trivial⟩) (⟨sx rfl,trivial⟩) trivial) ?_;refine uAo rfl (fun hc7=>?_) (fun hc7=>?_)
       ·try simp only [nn,uAi,T.rows_len,Fs.rows_len,Sp.rows_len,Gl.rows_len] at hc7
        have hlt : i < n.goals.length:=by omega
        have hd:=uCp (d:=default) hlt hii
        have hmem:=hg _ (uF0 (d:=default) hlt)
        refine uAp ?_;refine uAd ?_;refine uAt ?_;refine uAd (uAb ?_);refine uAa rfl rfl rfl (uAg rfl gU rfl rfl) ?_;refine uAa rfl rfl rfl (uAh rfl gU rfl rfl rfl rfl) ?_;refine uAa rfl rfl rfl (uAc rfl gU) ?_;refine uAa rfl rfl rfl (uAr rfl rfl gU gU rfl rfl rfl (fun hh=>Gl.rows_at (by first|omega|(simp at hh ⊢; omega)))) ?_;refine uAa rfl rfl rfl (uAD rfl gU rfl rfl rfl rfl) ?_;refine uAx rfl rfl rfl rfl rfl rfl gU gU (uLY _ hmem) rfl ?_;refine uAa rfl rfl rfl (uAe rfl gU) ?_;refine uAf ?_;refine uAk (s:=⟨[(1,_,_),(8,_,_),(9,_,_)],[(.l 1,_)],[],[]⟩) (uAj (⟨sx rfl,sx rfl,sx rfl,trivial⟩) (⟨sx rfl,trivial⟩) trivial) ?_;refine uAd (uAb ?_);refine uAa rfl rfl rfl (uAc rfl gU) ?_;refine uAa rfl rfl rfl (uAm rfl rfl gU gU rfl) ?_;refine uAf ?_;refine uAo rfl (fun hc1=>?_) (fun hc1=>?_)
        ·try simp only [nn,uAi,T.rows_len,Fs.rows_len,Sp.rows_len,Gl.rows_len] at hc1
         refine uAd (uAb ?_);refine uAa rfl rfl rfl (uAc rfl gU) ?_;refine uAa rfl rfl rfl (uAe rfl gU) ?_;refine uAf ?_;refine uAq ?_
         repeat(first|refine tR ?_|refine bR ?_)
         refine uAu rfl ?_ trivial
         (rw[hN,hd.1 (by assumption)]; rfl)
        ·try simp only [nn,uAi,T.rows_len,Fs.rows_len,Sp.rows_len,Gl.rows_len] at hc1
         refine uAp ?_;refine uAb ?_;refine uAa rfl rfl rfl (uAc rfl gU) ?_;refine uAa rfl rfl rfl (uAz rfl rfl gU gU rfl (IntWalk.i64_in _ (by omega))) ?_;refine uAa rfl rfl rfl (uAe rfl gU) ?_;refine uAf ?_;refine ⟨i + 1,?_,?_,uAj (⟨⟨_,rfl,?_⟩,⟨sx rfl,trivial⟩⟩) (⟨sx rfl,trivial⟩) trivial⟩
         all_goals (first|rfl|omega|exact ⟨by omega,hd.2 (by assumption)⟩)
       ·try simp only [nn,uAi,T.rows_len,Fs.rows_len,Sp.rows_len,Gl.rows_len] at hc7
        rw[uHb (by omega)] at hii
        refine uAL ?_
        repeat(first|refine uAE ?_|refine uAF ?_|refine uAB rfl ?_)
        refine uAd (uAb ?_);refine uAa rfl rfl rfl (uAe rfl gU) ?_;refine uAf ?_;refine uAq ?_
        repeat(first|refine tR ?_|refine bR ?_)
        refine uAu rfl ?_ trivial
        (rw[hN,← hii]; rfl)
theorem uIr {α : Type} {l : List Tk} {f : PS→α × PS} (hf : Fwd l f) : ∀ (n : Nat) (p : PS) (out : List α),(uBV l f n p out).1.length + p.at'≤out.length + (uBV l f n p out).2.at'
 | 0,p,out=>by simp [uBV]
 | n + 1,p,out=>by
  rw[uBV]
  split
  ·have h1:=(hf p.go).1
   have h2:=uIr hf n (f p.go).2 (out++[(f p.go).1])
   have hg : p.go.at'=p.at' + 1:=rfl
   rw[List.length_append,List.length_singleton] at h2
   omega
  ·simp
theorem uE7 {α : Type} {l : List Tk} {f : PS→α × PS} (hf : Fwd l f) (p : PS) : (uBb l f p).1.length + p.at'≤1 + (uBb l f p).2.at':=by
 have h1:=(hf p).1
 have h2:=uIr hf (l.length + 1) (f p).2 [(f p).1]
 unfold uBb
 rw[List.length_singleton] at h2
 omega
theorem uHV (l : List Tk) (role : List UInt8) : ∀ (n : Nat) (p : PS) (out : List Fs),(uCb l role n p out).1.length + p.at'≤out.length + 1 + (uCb l role n p out).2.at'
 | 0,p,out=>by simp [uCb]
 | n + 1,p,out=>by
  have h1:=(uA9 l [] p).1
  have h2:=(uA9 l sortW (uAy l [] p).2).1
  rw[uCb]
  split
  ·dsimp only; omega
  split
  ·have hg : (uAy l sortW (uAy l [] p).2).2.go.at'=(uAy l sortW (uAy l [] p).2).2.at' + 1:=rfl
   have h4:=uHV l role n (uAy l sortW (uAy l [] p).2).2.go (out++[⟨role,(uAy l [] p).1,2 + uBr sortW (uAy l sortW (uAy l [] p).2).1⟩])
   rw[List.length_append,List.length_singleton] at h4
   omega
  ·simp only [List.length_append,List.length_singleton]; omega
theorem uLK (l : List Tk) (p : PS) (out : List Fs) : (uEg l p out).1.length + p.at'≤out.length + 1 + (uEg l p out).2.at':=by
 have h1:=(uA9 l [] p).1
 have h2:=(uBy l [58] (uAy l [] p).2).1
 have h3:=uHV l (uAy l [] p).1 (l.length + 1) (uAS l [58] (uAy l [] p).2) out
 unfold uEg
 omega
structure Nar.Le (n : Nar) (k : Nat) : Prop where
 roles : n.roles.length≤k
 fresh : n.fresh.length≤k
 tags : n.tags.length≤k
 steps : n.steps.length≤k
 goals : n.goals.length≤k
theorem Nar.Le.mono {n : Nar} {k j : Nat} (h : n.Le k) (hj : k≤j) : n.Le j:=⟨Nat.le_trans h.roles hj,Nat.le_trans h.fresh hj,Nat.le_trans h.tags hj,Nat.le_trans h.steps hj,Nat.le_trans h.goals hj⟩
theorem uM0 {l : List Tk} {ws : List (List UInt8)} {p : PS} (h : (uAy l ws p).1≠[]) : (uAy l ws p).2.at'=p.at' + 1:=by
 cases hq : namQ l p ws with
 | true=>rw[uAy,if_pos hq]; rfl
 | false=>rw[uAy,hq] at h; exact absurd rfl h
theorem uPc {l : List Tk} {n : Nar} {line : Int} {w : List UInt8} {q : PS} {k : Nat} (h : n.Le k) (hk : w≠[]→k + 1≤q.at') (hq : k≤q.at') : (uDn l n line w q).1.Le (uDn l n line w q).2.at':=by
 have hz:=uHo l n line w q
 unfold uDn at hz ⊢
 split
 ·rename_i hw
  rw[if_pos hw] at hz
  have h1 : (uBB l q).1.length + q.at'≤1 + (uBB l q).2.at':=uE7 (uA9 l []) q
  have h2:=hk (by rw[hw]; decide)
  have h3:=hz.1
  have := h.mono (j := (uBB l q).2.at') (by dsimp only at h3; omega)
  have h4:=h.roles
  exact ⟨by dsimp only; rw[List.length_append]; omega,this.fresh,this.tags,this.steps,this.goals⟩
 rename_i hw1
 rw[if_neg hw1] at hz
 split
 ·rename_i hw
  rw[if_pos hw] at hz
  have h1:=uLK l q n.fresh
  have h2:=hk (by rw[hw]; decide)
  have h3:=hz.1
  have := h.mono (j := (uEg l q n.fresh).2.at') (by dsimp only at h3; omega)
  have h4:=h.fresh
  exact ⟨this.roles,by dsimp only; omega,this.tags,this.steps,this.goals⟩
 rename_i hw2
 rw[if_neg hw2] at hz
 split
 ·rename_i hw
  rw[if_pos hw] at hz
  have h1 : (uBB l q).1.length + q.at'≤1 + (uBB l q).2.at':=uE7 (uA9 l []) q
  have h2:=hk (by rw[hw]; decide)
  have h3:=hz.1
  have := h.mono (j := (uBB l q).2.at') (by dsimp only at h3; omega)
  have h4:=h.tags
  exact ⟨this.roles,this.fresh,by dsimp only; rw[List.length_append]; omega,this.steps,this.goals⟩
 rename_i hw3
 rw[if_neg hw3] at hz
 split
 ·rename_i hw
  rw[if_pos hw] at hz
  have h2:=hk (by rw[hw]; decide)
  have h3:=hz.1
  have := h.mono (j := (uGZ l line q).2.at') (by dsimp only at h3; omega)
  have h4:=h.steps
  exact ⟨this.roles,this.fresh,this.tags,by dsimp only at h3 ⊢; rw[List.length_append,List.length_singleton]; omega,this.goals⟩
 rename_i hw4
 rw[if_neg hw4] at hz
 split
 ·rename_i hw
  rw[if_pos hw] at hz
  have h2:=hk (by rw[hw]; decide)
  have h3:=hz.1
  have := h.mono (j := (uGB l line q).2.at') (by dsimp only at h3; omega)
  have h4:=h.goals
  exact ⟨this.roles,this.fresh,this.tags,this.steps,by dsimp only at h3 ⊢; rw[List.length_append,List.length_singleton]; omega⟩
 exact h.mono hq
theorem uOu {l : List Tk} {n : Nar} {p : PS} (h : n.Le p.at') : (uDZ l n p).1.Le (uDZ l n p).2.at':=by
 have h1:=(uA9 l uBF p).1
 have h2:=uPc (l:=l) (line:=uCB l p) (w:=(uAy l uBF p).1) (q:=(uAy l uBF p).2) h (fun hw=>by rw[uM0 hw]; exact Nat.le_refl _) h1
 exact h2.mono (uBy l [59] _).1
theorem uHL (t : T) : ∀ l : List T,T.sizes (l++[t])=T.sizes l + t.size
 | []=>by simp [T.sizes]
 | x :: l=>by rw[List.cons_append,T.sizes,T.sizes,uHL t l]; omega
theorem uIK : ∀ l : List T,l≠[]→(tupT l).size + 1=T.sizes l + l.length
 | [],h=>absurd rfl h
 | [t],_=>by simp [tupT,T.sizes]
 | t :: u :: l,_=>by
  have ih:=uIK (u :: l) (by simp)
  have e : (uP7 t (tupT (u :: l))).size=1 + (t.size + (tupT (u :: l)).size):=by rw[T.size_eq]; show 1 + T.sizes [t,tupT (u :: l)]=_; simp [T.sizes]
  rw[tupT,e,T.sizes,List.length_cons (a:=t)]
  omega
def Szd (f : PS→T × PS) : Prop:=∀ p : PS,(f p).1.size + 2 * p.at'≤2 * (f p).2.at' + 1
theorem uG8 {l : List Tk} {f : PS→T × PS} (hs : Szd f) : ∀ (n : Nat) (p : PS) (out : List T),T.sizes (uBV l f n p out).1 + (uBV l f n p out).1.length + 2 * p.at'≤T.sizes out + out.length + 2 * (uBV l f n p out).2.at'
 | 0,p,out=>by simp [uBV]
 | n + 1,p,out=>by
  rw[uBV]
  split
  ·have h1:=hs p.go
   have h2:=uG8 (l:=l) hs n (f p.go).2 (out++[(f p.go).1])
   have hg : p.go.at'=p.at' + 1:=rfl
   rw[List.length_append,List.length_singleton,uHL] at h2
   omega
  ·simp
theorem uFp {l : List Tk} {f : PS→T × PS} (hs : Szd f) (p : PS) : T.sizes (uBb l f p).1 + (uBb l f p).1.length + 2 * p.at'≤2 + 2 * (uBb l f p).2.at':=by
 have h1:=hs p
 have h2:=uG8 (l:=l) hs (l.length + 1) (f p).2 [(f p).1]
 unfold uBb
 rw[List.length_singleton,T.sizes,T.sizes] at h2
 omega
theorem uMg {α : Type} {l : List Tk} {f : PS→α × PS} : ∀ (n : Nat) (p : PS) (out : List α),out≠[]→(uBV l f n p out).1≠[]
 | 0,p,out,h=>h
 | n + 1,p,out,h=>by
  rw[uBV]
  split
  ·exact uMg n _ _ (by simp)
  ·exact h
theorem uFw (l : List Tk) : ∀ n : Nat,Szd (uBw l n)
 | 0,p=>by
  have : (default : T).size=1:=by rw[T.size_eq]; rfl
  show (default : T).size + _≤_
  rw[this]; show 1 + 2 * p.at'≤2 * p.at' + 1; omega
 | n + 1,p=>by
  have ih:=uFw l n
  have hf:=uEz l n
  rw[uBw]
  split
  ·have hg : p.go.at'=p.at' + 1:=rfl
   have h1:=ih p.go
   have h2:=(uBy l [44] (uBw l n p.go).2).1
   have h3:=uFp (l:=l) ih (uAS l [44] (uBw l n p.go).2)
   have h4:=(uBy l [62] (uBb l (uBw l n) (uAS l [44] (uBw l n p.go).2)).2).1
   have h5:=uIK ((uBw l n p.go).1 :: (uBb l (uBw l n) (uAS l [44] (uBw l n p.go).2)).1) (by simp)
   rw[T.sizes,List.length_cons] at h5
   dsimp only
   omega
  ·have h1:=(uA9 l [] p).1
   split
   ·have hg : (uAy l [] p).2.go.at'=(uAy l [] p).2.at' + 1:=rfl
    split
    ·have hg2 : (uAy l [] p).2.go.go.at'=(uAy l [] p).2.at' + 2:=rfl
     have : (⟨3,(uAy l [] p).1,0,[]⟩ : T).size=1:=by rw[T.size_eq]; rfl
     dsimp only; omega
    ·have h3:=uFp (l:=l) ih (uAy l [] p).2.go
     have h4:=(uBy l [41] (uBb l (uBw l n) (uAy l [] p).2.go).2).1
     have h5 : (uBb l (uBw l n) (uAy l [] p).2.go).1≠[]:=uMg _ _ _ (by simp)
     have h6:=List.length_pos_iff.2 h5
     have : (⟨3,(uAy l [] p).1,0,(uBb l (uBw l n) (uAy l [] p).2.go).1⟩ : T).size=1 + T.sizes (uBb l (uBw l n) (uAy l [] p).2.go).1:=by rw[T.size_eq]; rfl
     dsimp only; omega
   ·have : (⟨2,(uAy l [] p).1,0,[]⟩ : T).size=1:=by rw[T.size_eq]; rfl
    dsimp only; omega
structure Nar.Sm (n : Nar) (M : Nat) : Prop where
 steps : ∀ s ∈ n.steps,s.msg.size≤M
 goals : ∀ g ∈ n.goals,T.sizes g.data≤M
theorem uLj {l : List Tk} (line : Int) {p : PS} (hp : p.at'≤l.length) : (uGZ l line p).1.msg.size≤2 * l.length + 2:=by
 have h:=(uHr l line p).2 hp
 have := uFw l (l.length + 1) (uAS l [58] (uAy l [] (uAS l [62] (uAS l [45] (uAy l [] p).2))).2)
 have h2 : (uBw l (l.length + 1) (uAS l [58] (uAy l [] (uAS l [62] (uAS l [45] (uAy l [] p).2))).2)).2.at'≤l.length:=h
 show (uBw l (l.length + 1) (uAS l [58] (uAy l [] (uAS l [62] (uAS l [45] (uAy l [] p).2))).2)).1.size≤_
 omega
theorem uLQ {l : List Tk} (line : Int) {p : PS} (hp : p.at'≤l.length) : T.sizes (uGB l line p).1.data≤2 * l.length + 2:=by
 have h:=(uG3 l line p).2 hp
 have := uFp (l := l) (uFw l (l.length + 1)) (uAS l [58] (if uBs (1 + uBr kindW (uAy l kindW p).1)=true then uAy l [] (uAy l [] (uAy l kindW p).2).2 else ([],(uAy l [] (uAy l kindW p).2).2)).2)
 have h2 : (uBb l (uBw l (l.length + 1)) (uAS l [58] (if uBs (1 + uBr kindW (uAy l kindW p).1)=true then uAy l [] (uAy l [] (uAy l kindW p).2).2 else ([],(uAy l [] (uAy l kindW p).2).2)).2)).2.at'≤l.length:=h
 show T.sizes (uBb l (uBw l (l.length + 1)) (uAS l [58] (if uBs (1 + uBr kindW (uAy l kindW p).1)=true then uAy l [] (uAy l [] (uAy l kindW p).2).2 else ([],(uAy l [] (uAy l kindW p).2).2)).2)).1≤_
 omega
theorem uOq {l : List Tk} {n : Nar} {p : PS} (h : n.Sm (2 * l.length + 2)) (hp : p.at'≤l.length) : (uDZ l n p).1.Sm (2 * l.length + 2):=by
 have hq:=(uA9 l uBF p).2 hp
 show (uDn l n (uCB l p) (uAy l uBF p).1 (uAy l uBF p).2).1.Sm _
 unfold uDn
 repeat' split
 ·exact ⟨h.steps,h.goals⟩
 ·exact ⟨h.steps,h.goals⟩
 ·exact ⟨h.steps,h.goals⟩
 ·refine ⟨fun s hs=>?_,h.goals⟩
  rcases List.mem_append.1 hs with q | q
  ·exact h.steps s q
  ·simp at q; subst q; exact uLj _ hq
 ·refine ⟨h.steps,fun g hg=>?_⟩
  rcases List.mem_append.1 hg with q | q
  ·exact h.goals g q
  ·simp at q; subst q; exact uLQ _ hq
 ·exact h
end Go.Proofs.YteidahabkfgfjaaGreat
namespace Go.Proofs.YteidahabkfgfjaaGreat
open Go Go.Proofs Go.RowKit Go.Shelf
attribute [local go_sem] Oper.semAt_some
def KeepB (n₀ Bo : Nat) (W W' : World) : Prop:=∀ b,b < n₀→b≠Bo→W'.heap[b]? = W.heap[b]?
theorem KeepB.refl (n₀ Bo : Nat) (W : World) : KeepB n₀ Bo W W:=fun _ _ _=>rfl
theorem KeepB.trans {n₀ Bo : Nat} {A B C : World} (h : KeepB n₀ Bo A B) (k : KeepB n₀ Bo B C) : KeepB n₀ Bo A C:=fun b h1 h2=>(k b h1 h2).trans (h b h1 h2)
theorem KeepB.cell {n₀ Bo : Nat} {A B : World} (h : KeepB n₀ Bo A B) {b : Nat} (o : Nat) (h1 : b < n₀) (h2 : b≠Bo) : B.cell? ⟨b,o,none⟩=A.cell? ⟨b,o,none⟩:=by
 unfold World.cell?; dsimp only; rw[h b h1 h2]
theorem KeepB.alloc {n₀ Bo : Nat} (W : World) (ob : Obj) (h : n₀≤W.heap.size) : KeepB n₀ Bo W (W.alloc ob):=fun b h1 _=>Below.heap_alloc W ob b (by omega)
abbrev tStr (l : List UInt8) : Value:=.string ⟨l.toArray⟩
end Go.Proofs.YteidahabkfgfjaaGreat
namespace Go.Proofs.YteidahabkfgfjaaGreat
open Go Go.Abs
theorem map_take {α β : Type} (f : α→β) {l : List α} {d : α} {k : Nat} (h : k < l.length) : (l.take (k + 1)).map f=(l.take k).map f++[f (l.getD k d)]:=by rw[uBk (d:=d) h,List.map_append]; rfl
def Nar.lk (n : Nar) (k : Nat) : List (List UInt8):=[uKx n,(Itm.roles n.roles).text]++(frI n.fresh k).map Itm.text
def Nar.rest (n : Nar) (j k : Nat) : List (List UInt8):=n.lk n.fresh.length++((if n.tags=[] then [] else [(Itm.tags n.tags).text])++((n.steps.take j).map (fun s=>(Itm.step s).text)++(n.goals.take k).map fun g=>(Itm.goal g).text))
theorem uKJ (t : T) (s : List UInt8) : Ctr sys 163 [xm t,xs s] [] (xb (decide (t.kind=3) && decide (t.name=s))) none []:=by
 refine uAA Tryz.func163 rfl rfl rfl rfl rfl rfl ?_;refine uAd (uAb ?_);refine uAs rfl (uAH rfl rfl rfl rfl) ?_;refine uAa rfl rfl rfl (uAe rfl gU) ?_;refine uAf ?_;refine uAd (uAb ?_);refine uAa rfl rfl rfl (uAg rfl gU rfl rfl) ?_;refine uAa rfl rfl rfl (uAh rfl gU rfl rfl rfl rfl) ?_;refine uAa rfl rfl rfl (uAm rfl rfl gU gU rfl) ?_;refine uAa rfl rfl rfl (uAc rfl gU) ?_;refine uAa rfl rfl rfl (uAg rfl gU rfl rfl) ?_;refine uAa rfl rfl rfl (uAh rfl (fun hh=>hh) rfl rfl rfl rfl) ?_;refine uAa rfl rfl rfl (uAc rfl gU) ?_;refine uAa rfl rfl rfl (uA3 rfl rfl (fun hh=>hh) (fun hh=>hh) rfl) ?_;refine uAa rfl rfl rfl (uAJ rfl rfl gU (fun _ hi=>gP rfl hi)) ?_;refine uAa rfl rfl rfl (uAe rfl gU) ?_;refine uAf ?_;refine uAq ?_
 repeat(first|refine tR ?_|refine bR ?_)
 refine uAu rfl ?_ trivial;refine uBY ?_
 rw[Bool.eq_iff_iff]; simp
theorem uLZ : Ctr sys 154 [] [] (xss uBH) none []:=by
 refine uAA Tryz.func154 rfl rfl rfl rfl rfl rfl ?_;refine uAd (uAb ?_);refine uAa rfl rfl rfl (uAe rfl gU) ?_;refine uAf ?_;refine uAd (uAb ?_);refine uAR (xs:=[_,_,_,_,_,_]) rfl rfl rfl rfl rfl rfl rfl rfl rfl gU rfl ?_;refine uAa rfl rfl rfl (uAe rfl gU) ?_;refine uAf ?_;refine uAq ?_
 repeat(first|refine tR ?_|refine bR ?_)
 refine uAu rfl ?_ trivial
 rfl
theorem uGz : Ctr sys 152 [] [] (xss uBu) none []:=by
 refine uAA Tryz.func152 rfl rfl rfl rfl rfl rfl ?_;refine uAd (uAb ?_);refine uAa rfl rfl rfl (uAe rfl gU) ?_;refine uAf ?_;refine uAd (uAb ?_);refine uAR (xs:=[_,_,_,_,_]) rfl rfl rfl rfl rfl rfl rfl rfl rfl gU rfl ?_;refine uAa rfl rfl rfl (uAe rfl gU) ?_;refine uAf ?_;refine uAq ?_
 repeat(first|refine tR ?_|refine bR ?_)
 refine uAu rfl ?_ trivial
 rfl
def ixS (l : List (List UInt8)) (s : List UInt8) : Int:=idxF (fun x=>decide (s=x)) l
theorem uDt (l : List (List UInt8)) (s : List UInt8) : ixS l s < 0 ↔ l.contains s=false:=by
 have h:=(uD0 (fun x=>decide (s=x)) l).trans (uCT s l)
 rw[← h,ixS]; simp
theorem uE1 (l : List (List UInt8)) (s : List UInt8) : 0≤ixS l s ↔ l.contains s=true:=by
 have h:=(uD0 (fun x=>decide (s=x)) l).trans (uCT s l)
 rw[← h,ixS]; simp
theorem uCQ (l : List (List UInt8)) (s : List UInt8) : Ctr sys 52 [xss l,xs s] [] (xi (ixS l s)) none []:=by
 have hrl:=uAi l
 refine uAA Tryz.func52 rfl rfl rfl rfl rfl rfl ?_;refine uAd (uAb ?_);refine uAa rfl rfl rfl (uAe rfl gU) ?_;refine uAf ?_;refine uAd ?_;refine uAd (uAb ?_);refine uAa rfl rfl rfl (uAe rfl gU) ?_;refine uAf ?_;refine uAt ?_;refine uAW (ι:=Nat) { t:=[(0,_,_),(1,_,_)],bx:=[],ow:=[] } (fun k=>[(5,true,xi (k : Int))]) (fun k=>[]) (fun k=>k≤l.length∧(if idxF (fun x=>decide (s=x)) (l.drop k) < 0 then -1 else idxF (fun x=>decide (s=x)) (l.drop k) + k)=idxF (fun x=>decide (s=x)) l) (fun k=>l.length - k) (0) (⟨by simp,(uFv _ _).trans (uGo _ _)⟩) (uAj (⟨sx rfl,sx rfl,sx rfl,trivial⟩) trivial trivial) ?_
 intro k hok
 dsimp only [List.cons_append,List.nil_append]
 obtain ⟨hk,hi⟩:=hok
 refine uAd ?_;refine uAd (uAb ?_);refine uAa rfl rfl rfl (uAc rfl gU) ?_;refine uAa rfl rfl rfl (uAc rfl gU) ?_;refine uAI rfl rfl rfl rfl rfl gU rfl rfl ?_ (fun hh=>by simp at hh); intro hlen;refine uAa rfl rfl rfl (uAm rfl rfl gU gU rfl) ?_;refine uAf ?_;refine uAo rfl (fun hc=>?_) (fun hc=>?_)
 ·try simp only [nn,uAi,uAC,T.rows_len,Gl.rows_len,Fs.rows_len,Sp.rows_len] at hc
  have hd:=uF8 (k:=k) (l:=l) (by omega) hi
  refine uAp ?_;refine uAd ?_;refine uAt ?_;refine uAd (uAb ?_);refine uAa rfl rfl rfl (uAc rfl gU) ?_;refine uAa rfl rfl rfl (uAc rfl gU) ?_;refine uAa rfl rfl rfl (uAr rfl rfl gU gU rfl rfl rfl (fun hh=>uBP (by first|omega|(simp at hh ⊢; omega)|(simp [isT] at hh ⊢; omega)))) ?_;refine uAa rfl rfl rfl (uAM rfl gU rfl rfl rfl) ?_;refine uAa rfl rfl rfl (uAc rfl gU) ?_;refine uAa rfl rfl rfl (uA3 rfl rfl gU gU rfl) ?_;refine uAf ?_;refine uAk (s:=⟨[(0,_,_),(1,_,_),(5,_,_),(17,_,_)],[],[],[]⟩) (uAj (⟨sx rfl,sx rfl,sx rfl,sx rfl,trivial⟩) trivial trivial) ?_;refine uAo rfl (fun hc2=>?_) (fun hc2=>?_)
  ·try simp only [nn,uAi,uAC,T.rows_len,Gl.rows_len,Fs.rows_len,Sp.rows_len] at hc2
   refine uAd (uAb ?_);refine uAa rfl rfl rfl (uAc rfl gU) ?_;refine uAa rfl rfl rfl (uAe rfl gU) ?_;refine uAf ?_;refine uAq ?_
   repeat(first|refine tR ?_|refine bR ?_)
   refine uAu rfl ?_ trivial;exact uBc (hd.1 (decide_eq_true hc2.symm)).symm
  ·try simp only [nn,uAi,uAC,T.rows_len,Gl.rows_len,Fs.rows_len,Sp.rows_len] at hc2
   refine uAp ?_;refine uAb ?_;refine uAa rfl rfl rfl (uAc rfl gU) ?_;refine uAa rfl rfl rfl (uAz rfl rfl gU gU rfl (IntWalk.i64_in _ (by omega))) ?_;refine uAa rfl rfl rfl (uAe rfl gU) ?_;refine uAf ?_;refine ⟨k + 1,?_,?_,uAj (⟨⟨_,rfl,?_⟩,⟨sx rfl,sx rfl,trivial⟩⟩) trivial trivial⟩
   all_goals (first|rfl|omega|exact ⟨by omega,hd.2 (decide_eq_false fun q=>hc2 q.symm)⟩)
 ·try simp only [nn,uAi,uAC,T.rows_len,Gl.rows_len,Fs.rows_len,Sp.rows_len] at hc
  refine uAL ?_
  repeat(first|refine uAE ?_|refine uAF ?_|refine uAB rfl ?_)
  refine uAd (uAb ?_);refine uAa rfl rfl rfl (uAe rfl gU) ?_;refine uAf ?_;refine uAq ?_
  repeat(first|refine tR ?_|refine bR ?_)
  refine uAu rfl ?_ trivial;exact uBc (uHd (by omega) hi).symm
def srtL (n : Nar) : List Int:=(nmsL n).map (·.2)
abbrev x2l (a : List (List UInt8)) (b : List Int) : X:=.tup [.c (.sl 1 (strR a)), .c (.sl 1 (intR b))]
theorem uFU (n : Nar) : uBa n=n.roles++(n.fresh.map Fs.name++n.tags):=by
 rw[uBa,nmsL]
 simp [List.map_append,List.map_map,Function.comp_def]
theorem uPj (n : Nar) : srtL n=n.roles.map (fun _=>(1 : Int))++(n.fresh.map Fs.sort++n.tags.map fun _=>(5 : Int)):=by
 rw[srtL,nmsL]
 simp [List.map_append,List.map_map,Function.comp_def]
theorem uEQ (n : Nar) (h1 : n.roles.length≤900000) (h2 : n.fresh.length≤900000) (h3 : n.tags.length≤900000) : Ctr sys 51 [xn n] [] (x2l (uBa n) (srtL n)) none []:=by
 have l1:=uAi n.roles
 have l2:=Fs.rows_len n.fresh
 have l3:=uAi n.tags
 rw[uFU,uPj]
 refine uAA Tryz.func51 rfl rfl rfl rfl rfl rfl ?_;refine uAd (uAb ?_);refine uAs rfl (uAH rfl rfl rfl rfl) ?_;refine uAs rfl (uBe (.inr rfl) rfl rfl) ?_;refine uAs rfl (uBe (.inr rfl) rfl rfl) ?_;refine uAf ?_;refine uAd (uAb ?_);refine uAs rfl (uBe (.inr rfl) rfl rfl) ?_;refine uAf ?_;refine uAd (uAb ?_);refine uAs rfl (uBe (.inr rfl) rfl rfl) ?_;refine uAf ?_;refine uAk (s:=⟨[(1,_,_),(4,_,_),(5,_,_)],[(.l 1,_)],[(.t 4,_),(.t 5,_)],[]⟩) (uAj (⟨sx rfl,sx rfl,sx rfl,trivial⟩) (⟨sx rfl,trivial⟩) (⟨rfl,rfl,trivial⟩)) ?_;refine uAd ?_;refine uAd (uAb ?_);refine uAa rfl rfl rfl (uAe rfl gU) ?_;refine uAf ?_;refine uAt ?_;refine uAW (ι:=Nat) { t:=[(1,_,_)],bx:=[(.l 1,_)],ow:=[(.t 4,_),(.t 5,_)] } (fun k=>[(6,true,xi (k : Int)),(4,true,xss (n.roles.take k)),(5,true,xis ((n.roles.take k).map fun _=>(1 : Int)))]) (fun k=>[]) (fun k=>k≤n.roles.length) (fun k=>n.roles.length - k) (0) (by simp) (uAj (⟨sx rfl,sx rfl,sx rfl,sx rfl,trivial⟩) (⟨sx rfl,trivial⟩) (⟨rfl,rfl,trivial⟩)) ?_
 intro k hoka
 dsimp only [List.cons_append,List.nil_append]
 refine uAd ?_;refine uAd (uAb ?_);refine uAa rfl rfl rfl (uAc rfl gU) ?_;refine uAa rfl rfl rfl (uAg rfl gU rfl rfl) ?_;refine uAa rfl rfl rfl (uAh rfl gU rfl rfl rfl rfl) ?_;refine uAI rfl rfl rfl rfl rfl gU rfl rfl ?_ (fun hh=>by simp at hh); intro hlen;refine uAa rfl rfl rfl (uAm rfl rfl gU gU rfl) ?_;refine uAf ?_;refine uAk (s:=⟨[(1,_,_),(4,_,_),(5,_,_),(6,_,_),(13,_,_)],[(.l 1,_)],[(.t 4,_),(.t 5,_)],[]⟩) (uAj (⟨sx rfl,sx rfl,sx rfl,sx rfl,sx rfl,trivial⟩) (⟨sx rfl,trivial⟩) (⟨rfl,rfl,trivial⟩)) ?_;refine uAo rfl (fun hc=>?_) (fun hc=>?_)
 ·try simp only [nn,uAi,uAC,T.rows_len,Gl.rows_len,Fs.rows_len,Sp.rows_len] at hc
  have hT:=uBk (l:=n.roles) (d:=[]) (k:=k) (by omega)
  refine uAp ?_;refine uAd ?_;refine uAt ?_;refine uAb ?_;refine uAs rfl (uAV (.inl rfl) rfl rfl rfl) ?_;refine uAa rfl rfl rfl (uAg rfl gU rfl rfl) ?_;refine uAa rfl rfl rfl (uAh rfl gU rfl rfl rfl rfl) ?_;refine uAa rfl rfl rfl (uAc rfl gU) ?_;refine uAa rfl rfl rfl (uAr rfl rfl gU gU rfl rfl rfl (fun hh=>uBP (by first|omega|(simp at hh ⊢; omega)|(simp [isT] at hh ⊢; omega)))) ?_;refine uAa rfl rfl rfl (uAM rfl gU rfl rfl rfl) ?_;refine uAR (xs:=[_]) rfl rfl rfl rfl rfl rfl rfl rfl rfl gU rfl ?_;refine uAs rfl (uA0 rfl rfl rfl rfl rfl rfl rfl (by first|omega|(simp only [List.length_append,List.length_singleton,uAi,uAC,List.length_map,List.length_take]; omega)) (by first|omega|(simp only [List.length_append,List.length_singleton,uAi,uAC,List.length_map,List.length_take]; omega))) ?_;refine uAs rfl (uAV (.inl rfl) rfl rfl rfl) ?_;refine uAR (xs:=[_]) rfl rfl rfl rfl rfl rfl rfl rfl rfl gU rfl ?_;refine uAs rfl (uA0 rfl rfl rfl rfl rfl rfl rfl (by first|omega|(simp only [List.length_append,List.length_singleton,uAi,uAC,List.length_map,List.length_take]; omega)) (by first|omega|(simp only [List.length_append,List.length_singleton,uAi,uAC,List.length_map,List.length_take]; omega))) ?_;refine uAs rfl (uAV (.inr rfl) rfl rfl rfl) ?_;refine uBd (s:=⟨[(1,_,_),(4,_,_),(6,_,_),(26,_,_)],[(.l 1,_)],[(.t 26,_),(.t 4,_)],[]⟩) (uAj (⟨sx rfl,sx rfl,sx rfl,sx rfl,trivial⟩) (⟨sx rfl,trivial⟩) (⟨rfl,rfl,trivial⟩)) ?_
  refine uAs rfl (uAV (.inr rfl) rfl rfl rfl) ?_;refine uAf ?_;refine uAb ?_;refine uAa rfl rfl rfl (uAc rfl gU) ?_;refine uAa rfl rfl rfl (uAz rfl rfl gU gU rfl (IntWalk.i64_in _ (by omega))) ?_;refine uAa rfl rfl rfl (uAe rfl gU) ?_;refine uAf ?_;refine ⟨k + 1,?_,?_,uAj (⟨⟨_,rfl,?_⟩,⟨⟨_,rfl,?_⟩,⟨⟨_,rfl,?_⟩,⟨sx rfl,trivial⟩⟩⟩⟩) (⟨sx rfl,trivial⟩) (⟨rfl,rfl,trivial⟩)⟩
  all_goals (first|rfl|omega|exact tx ((uDY _ _).trans (by rw[hT]))|exact tx ((uD5 _ _).trans (by rw[hT,List.map_append]; rfl)))
 ·try simp only [nn,uAi,uAC,T.rows_len,Gl.rows_len,Fs.rows_len,Sp.rows_len] at hc
  have hk : k=n.roles.length:=by omega
  subst hk
  rw[List.take_length]
  refine uAL ?_
  repeat(first|refine uAE ?_|refine uAF ?_|refine uAB rfl ?_)
  refine uAd ?_;refine uAd (uAb ?_);refine uAa rfl rfl rfl (uAe rfl gU) ?_;refine uAf ?_;refine uAt ?_;refine uAW (ι:=Nat) { t:=[(1,_,_)],bx:=[(.l 1,_)],ow:=[(.t 4,_),(.t 5,_)] } (fun j=>[(7,true,xi (j : Int)),(4,true,xss (n.roles++(n.fresh.take j).map Fs.name)),(5,true,xis (n.roles.map (fun _=>(1 : Int))++(n.fresh.take j).map Fs.sort))]) (fun j=>[]) (fun j=>j≤n.fresh.length) (fun j=>n.fresh.length - j) (0) (by simp) (uAj (⟨sx rfl,⟨⟨_,rfl,by simp⟩,⟨⟨_,rfl,by simp⟩,⟨sx rfl,trivial⟩⟩⟩⟩) (⟨sx rfl,trivial⟩) (⟨rfl,rfl,trivial⟩)) ?_
  intro j hokb
  dsimp only [List.cons_append,List.nil_append]
  refine uAd ?_;refine uAd (uAb ?_);refine uAa rfl rfl rfl (uAc rfl gU) ?_;refine uAa rfl rfl rfl (uAg rfl gU rfl rfl) ?_;refine uAa rfl rfl rfl (uAh rfl gU rfl rfl rfl rfl) ?_;refine uAI rfl rfl rfl rfl rfl gU rfl rfl ?_ (fun hh=>by simp at hh); intro hlen;refine uAa rfl rfl rfl (uAm rfl rfl gU gU rfl) ?_;refine uAf ?_;refine uAk (s:=⟨[(1,_,_),(4,_,_),(5,_,_),(7,_,_),(31,_,_)],[(.l 1,_)],[(.t 4,_),(.t 5,_)],[]⟩) (uAj (⟨sx rfl,sx rfl,sx rfl,sx rfl,sx rfl,trivial⟩) (⟨sx rfl,trivial⟩) (⟨rfl,rfl,trivial⟩)) ?_;refine uAo rfl (fun hc2=>?_) (fun hc2=>?_)
  ·try simp only [nn,uAi,uAC,T.rows_len,Gl.rows_len,Fs.rows_len,Sp.rows_len] at hc2
   have hT:=uBk (l:=n.fresh) (d:=default) (k:=j) (by omega)
   refine uAp ?_;refine uAd ?_;refine uAt ?_;refine awp_drawn' (by kernel_rfl) ?_;refine uCH rfl (.inl rfl) rfl rfl rfl rfl rfl ?_;refine uAl rfl rfl rfl rfl (uAg rfl gU rfl rfl) ?_;refine uA5 rfl rfl rfl rfl rfl rfl rfl gU rfl rfl rfl rfl ?_;refine uAl rfl rfl rfl rfl (uAc rfl gU) ?_;refine uAl rfl rfl rfl rfl (uAr rfl rfl gU gU rfl rfl rfl (fun hh=>Fs.rows_at (by first|omega|(simp at hh ⊢; omega)|(simp [isT] at hh ⊢; omega)))) ?_;refine uAl rfl rfl rfl rfl (uAU rfl gU rfl rfl) ?_;refine uAl rfl rfl rfl rfl (uAM rfl gU rfl rfl rfl) ?_;refine uDh (xs:=[_]) rfl rfl rfl rfl rfl rfl rfl rfl rfl rfl gU rfl ?_;refine uDx rfl rfl rfl rfl rfl (rko (ak2 rfl (ak rfl (ak rfl (ak rfl (ak rfl (ak rfl (ak rfl (rfl))))))))) rfl rfl rfl rfl rfl (by first|omega|(simp only [List.length_append,List.length_singleton,uAi,uAC,List.length_map,List.length_take]; omega)) (by first|omega|(simp only [List.length_append,List.length_singleton,uAi,uAC,List.length_map,List.length_take]; omega)) ?_;refine uCH rfl (.inl rfl) rfl rfl rfl rfl rfl ?_;refine uAl rfl rfl rfl rfl (uAg rfl gU rfl rfl) ?_;refine uA5 rfl rfl rfl rfl rfl rfl rfl gU rfl rfl rfl rfl ?_;refine uAl rfl rfl rfl rfl (uAc rfl gU) ?_;refine uAl rfl rfl rfl rfl (uAr rfl rfl gU gU rfl rfl rfl (fun hh=>Fs.rows_at (by first|omega|(simp at hh ⊢; omega)|(simp [isT] at hh ⊢; omega)))) ?_
   refine uAl rfl rfl rfl rfl (uAU rfl gU rfl rfl) ?_;refine uAl rfl rfl rfl rfl (uAM rfl gU rfl rfl rfl) ?_;refine uDh (xs:=[_]) rfl rfl rfl rfl rfl rfl rfl rfl rfl rfl gU rfl ?_;refine uDx rfl rfl rfl rfl rfl (rko (ak2 rfl (ak rfl (ak rfl (ak rfl (ak rfl (ak rfl (ak rfl (rfl))))))))) rfl rfl rfl rfl rfl (by first|omega|(simp only [List.length_append,List.length_singleton,uAi,uAC,List.length_map,List.length_take]; omega)) (by first|omega|(simp only [List.length_append,List.length_singleton,uAi,uAC,List.length_map,List.length_take]; omega)) ?_;refine uCH rfl (.inr rfl) rfl rfl rfl rfl rfl ?_;refine uCH rfl (.inr rfl) rfl rfl rfl rfl rfl ?_;refine uA2 (by kernel_rfl) ?_;refine uAk (s:=⟨[(1,_,_),(4,_,_),(5,_,_),(7,_,_)],[(.l 1,_)],[(.t 4,_),(.t 5,_)],[]⟩) (uAj (⟨sx rfl,sx rfl,sx rfl,sx rfl,trivial⟩) (⟨sx rfl,trivial⟩) (⟨rfl,rfl,trivial⟩)) ?_;refine uAb ?_;refine uAa rfl rfl rfl (uAc rfl gU) ?_;refine uAa rfl rfl rfl (uAz rfl rfl gU gU rfl (IntWalk.i64_in _ (by omega))) ?_;refine uAa rfl rfl rfl (uAe rfl gU) ?_;refine uAf ?_;refine ⟨j + 1,?_,?_,uAj (⟨⟨_,rfl,?_⟩,⟨⟨_,rfl,?_⟩,⟨⟨_,rfl,?_⟩,⟨sx rfl,trivial⟩⟩⟩⟩) (⟨sx rfl,trivial⟩) (⟨rfl,rfl,trivial⟩)⟩
   all_goals (first|rfl|omega|exact tx ((uDY _ _).trans (by rw[hT,List.map_append,List.append_assoc]; rfl))|exact tx ((uD5 _ _).trans (by rw[hT,List.map_append,List.append_assoc]; rfl)))
  ·try simp only [nn,uAi,uAC,T.rows_len,Gl.rows_len,Fs.rows_len,Sp.rows_len] at hc2
   have hj : j=n.fresh.length:=by omega
   subst hj
   rw[List.take_length]
   refine uAL ?_
   repeat(first|refine uAE ?_|refine uAF ?_|refine uAB rfl ?_)
   refine uAd ?_;refine uAd (uAb ?_);refine uAa rfl rfl rfl (uAe rfl gU) ?_;refine uAf ?_;refine uAt ?_;refine uAW (ι:=Nat) { t:=[(1,_,_)],bx:=[(.l 1,_)],ow:=[(.t 4,_),(.t 5,_)] } (fun i=>[(8,true,xi (i : Int)),(4,true,xss (n.roles++(n.fresh.map Fs.name++n.tags.take i))),(5,true,xis (n.roles.map (fun _=>(1 : Int))++(n.fresh.map Fs.sort++(n.tags.take i).map fun _=>(5 : Int))))]) (fun i=>[]) (fun i=>i≤n.tags.length) (fun i=>n.tags.length - i) (0) (by simp) (uAj (⟨sx rfl,⟨⟨_,rfl,by simp⟩,⟨⟨_,rfl,by simp⟩,⟨sx rfl,trivial⟩⟩⟩⟩) (⟨sx rfl,trivial⟩) (⟨rfl,rfl,trivial⟩)) ?_
   intro i hokc
   dsimp only [List.cons_append,List.nil_append]
   refine uAd ?_;refine uAd (uAb ?_);refine uAa rfl rfl rfl (uAc rfl gU) ?_;refine uAa rfl rfl rfl (uAg rfl gU rfl rfl) ?_;refine uAa rfl rfl rfl (uAh rfl gU rfl rfl rfl rfl) ?_;refine uAI rfl rfl rfl rfl rfl gU rfl rfl ?_ (fun hh=>by simp at hh); intro hlen;refine uAa rfl rfl rfl (uAm rfl rfl gU gU rfl) ?_;refine uAf ?_;refine uAk (s:=⟨[(1,_,_),(4,_,_),(5,_,_),(8,_,_),(56,_,_)],[(.l 1,_)],[(.t 4,_),(.t 5,_)],[]⟩) (uAj (⟨sx rfl,sx rfl,sx rfl,sx rfl,sx rfl,trivial⟩) (⟨sx rfl,trivial⟩) (⟨rfl,rfl,trivial⟩)) ?_;refine uAo rfl (fun hc3=>?_) (fun hc3=>?_)
   ·try simp only [nn,uAi,uAC,T.rows_len,Gl.rows_len,Fs.rows_len,Sp.rows_len] at hc3
    have hT:=uBk (l:=n.tags) (d:=[]) (k:=i) (by omega)
    refine uAp ?_;refine uAd ?_;refine uAt ?_;refine uAb ?_;refine uAs rfl (uAV (.inl rfl) rfl rfl rfl) ?_;refine uAa rfl rfl rfl (uAg rfl gU rfl rfl) ?_;refine uAa rfl rfl rfl (uAh rfl gU rfl rfl rfl rfl) ?_;refine uAa rfl rfl rfl (uAc rfl gU) ?_;refine uAa rfl rfl rfl (uAr rfl rfl gU gU rfl rfl rfl (fun hh=>uBP (by first|omega|(simp at hh ⊢; omega)|(simp [isT] at hh ⊢; omega)))) ?_;refine uAa rfl rfl rfl (uAM rfl gU rfl rfl rfl) ?_;refine uAR (xs:=[_]) rfl rfl rfl rfl rfl rfl rfl rfl rfl gU rfl ?_;refine uAs rfl (uA0 rfl rfl rfl rfl rfl rfl rfl (by first|omega|(simp only [List.length_append,List.length_singleton,uAi,uAC,List.length_map,List.length_take]; omega)) (by first|omega|(simp only [List.length_append,List.length_singleton,uAi,uAC,List.length_map,List.length_take]; omega))) ?_;refine uAs rfl (uAV (.inl rfl) rfl rfl rfl) ?_;refine uAR (xs:=[_]) rfl rfl rfl rfl rfl rfl rfl rfl rfl gU rfl ?_;refine uAs rfl (uA0 rfl rfl rfl rfl rfl rfl rfl (by first|omega|(simp only [List.length_append,List.length_singleton,uAi,uAC,List.length_map,List.length_take]; omega)) (by first|omega|(simp only [List.length_append,List.length_singleton,uAi,uAC,List.length_map,List.length_take]; omega))) ?_;refine uAs rfl (uAV (.inr rfl) rfl rfl rfl) ?_;refine uBd (s:=⟨[(1,_,_),(4,_,_),(8,_,_),(69,_,_)],[(.l 1,_)],[(.t 4,_),(.t 69,_)],[]⟩) (uAj (⟨sx rfl,sx rfl,sx rfl,sx rfl,trivial⟩) (⟨sx rfl,trivial⟩) (⟨rfl,rfl,trivial⟩)) ?_
    refine uAs rfl (uAV (.inr rfl) rfl rfl rfl) ?_;refine uAf ?_;refine uAb ?_;refine uAa rfl rfl rfl (uAc rfl gU) ?_;refine uAa rfl rfl rfl (uAz rfl rfl gU gU rfl (IntWalk.i64_in _ (by omega))) ?_;refine uAa rfl rfl rfl (uAe rfl gU) ?_;refine uAf ?_;refine ⟨i + 1,?_,?_,uAj (⟨⟨_,rfl,?_⟩,⟨⟨_,rfl,?_⟩,⟨⟨_,rfl,?_⟩,⟨sx rfl,trivial⟩⟩⟩⟩) (⟨sx rfl,trivial⟩) (⟨rfl,rfl,trivial⟩)⟩
    all_goals (first|rfl|omega|exact tx ((uDY _ _).trans (by rw[hT,List.append_assoc,List.append_assoc]))|exact tx ((uD5 _ _).trans (by rw[hT,List.map_append,List.append_assoc,List.append_assoc]; rfl)))
   ·try simp only [nn,uAi,uAC,T.rows_len,Gl.rows_len,Fs.rows_len,Sp.rows_len] at hc3
    have hi : i=n.tags.length:=by omega
    subst hi
    rw[List.take_length]
    refine uAL ?_
    repeat(first|refine uAE ?_|refine uAF ?_|refine uAB rfl ?_)
    refine uAd (uAb ?_);refine uAs rfl (uAV (.inl rfl) rfl rfl rfl) ?_;refine uAs rfl (uAV (.inl rfl) rfl rfl rfl) ?_;refine uAs rfl (uAV (.inr rfl) rfl rfl rfl) ?_;refine uAs rfl (uAV (.inr rfl) rfl rfl rfl) ?_;refine uAf ?_;refine uAq ?_
    repeat(first|refine tR ?_|refine bR ?_)
    refine uAu rfl ?_ trivial
    rfl
theorem uFo (n : Nar) (t : T) : Ctr sys 147 [xn n,xm t] [] (xb (uEJ n.roles t)) none []:=by
 refine uAA Tryz.func147 rfl rfl rfl rfl rfl rfl ?_;refine uAd (uAb ?_);refine uAs rfl (uAH rfl rfl rfl rfl) ?_;refine uAs rfl (uAH rfl rfl rfl rfl) ?_;refine uAa rfl rfl rfl (uAe rfl gU) ?_;refine uAf ?_;refine uAd (uAb ?_);refine uAa rfl rfl rfl (uAg rfl gU rfl rfl) ?_;refine uAa rfl rfl rfl (uAh rfl gU rfl rfl rfl rfl) ?_;refine uAa rfl rfl rfl (uAm rfl rfl gU gU rfl) ?_;refine uAa rfl rfl rfl (uAc rfl gU) ?_;refine uAa rfl rfl rfl (uAg rfl gU rfl rfl) ?_;refine uAa rfl rfl rfl (uAh rfl (fun hh=>hh) rfl rfl rfl rfl) ?_;refine uAa rfl rfl rfl (uAg rfl gU rfl rfl) ?_;refine uAa rfl rfl rfl (uAh rfl (fun hh=>hh) rfl rfl rfl rfl) ?_;refine uAx rfl rfl rfl rfl rfl rfl gU (fun hh=>gA ((fun hh=>hh) hh) (gA ((fun hh=>hh) hh) (rfl))) (uCQ _ _) rfl ?_;refine uBd (s:=⟨[(8,_,_),(13,_,_)],[],[],[]⟩) (uAj (⟨sx rfl,sx rfl,trivial⟩) trivial trivial) ?_;refine uAa rfl rfl rfl (uAm rfl rfl (fun hh=>hh) gU rfl) ?_;refine uAa rfl rfl rfl (uAJ rfl rfl gU (fun _ hi=>gP rfl hi)) ?_;refine uAa rfl rfl rfl (uAe rfl gU) ?_;refine uAf ?_;refine uAq ?_
 repeat(first|refine tR ?_|refine bR ?_)
 refine uAu rfl ?_ trivial;refine uBY ?_
 rw[uEJ,← (uD0 _ n.roles).trans (uCT t.name n.roles)]
 rw[Bool.eq_iff_iff]
 simp [ixS]
 intro _; exact decide_eq_true_iff
theorem uHG (n : Nar) (t : T) : Ctr sys 146 [xn n,xm t] [] (xb (uEa n.roles t)) none []:=by
 have hr:=T.rows_len t.kids
 refine uAA Tryz.func146 rfl rfl rfl rfl rfl rfl ?_;refine uAd (uAb ?_);refine uAs rfl (uAH rfl rfl rfl rfl) ?_;refine uAs rfl (uAH rfl rfl rfl rfl) ?_;refine uAa rfl rfl rfl (uAe rfl gU) ?_;refine uAf ?_;refine uAd ?_;refine awp_drawn' (by kernel_rfl) ?_;refine uAG rfl rfl rfl rfl rfl rfl rfl gU rfl rfl rfl rfl rfl ?_;refine uAQ rfl rfl rfl rfl rfl rfl rfl gU gU (uKJ _ _) rfl ?_;refine uAl rfl rfl rfl rfl (uAc rfl gU) ?_;refine uAl rfl rfl rfl rfl (uAg rfl gU rfl rfl) ?_;refine uA5 rfl rfl rfl rfl rfl rfl rfl (fun hh=>hh) rfl rfl rfl rfl ?_;refine uAl rfl rfl rfl rfl (uA7 rfl (fun hh=>hh) rfl rfl) ?_;refine uAl rfl rfl rfl rfl (uAm rfl rfl (fun hh=>hh) gU rfl) ?_;refine uAl rfl rfl rfl rfl (uAJ rfl rfl gU (fun _ hi=>gP rfl hi)) ?_;refine uAl rfl rfl rfl rfl (uAc rfl gU) ?_;refine uAG rfl rfl rfl rfl rfl rfl rfl gU rfl rfl rfl rfl rfl ?_;refine uAl rfl rfl rfl rfl (uAg rfl gU rfl rfl) ?_;refine uA5 rfl rfl rfl rfl rfl rfl rfl (fun hh=>hh) rfl rfl rfl rfl ?_;refine uAl rfl rfl rfl rfl (uAr (j:=0) rfl rfl (fun hh=>hh) gU rfl rfl (by first|omega|(simp at hh ⊢; omega)|(simp [isT] at hh ⊢; omega)) (fun hh=>T.rows_at (by first|omega|(simp at hh ⊢; omega)|(simp [isT] at hh ⊢; omega)))) ?_;refine uAl rfl rfl rfl rfl (uAD rfl (fun hh=>hh) rfl rfl rfl rfl) ?_;refine uAQ rfl rfl rfl rfl rfl rfl rfl gU (fun hh=>gA ((fun hh=>hh) hh) (gA ((fun hh=>hh) hh) (rfl))) (uFo _ _) rfl ?_
 refine uAl rfl rfl rfl rfl (uAJ rfl rfl gU (fun _ hi=>gP rfl hi)) ?_;refine uAl rfl rfl rfl rfl (uAe rfl gU) ?_;refine uA2 (by kernel_rfl) ?_;refine uAq ?_
 repeat(first|refine tR ?_|refine bR ?_)
 refine uAu rfl ?_ trivial;refine uBY ?_
 rw[uEa,isT,kid,Bool.eq_iff_iff]
 simp [and_assoc]
 intro _; rw[hr]; exact Iff.rfl
theorem uIe (n : Nar) (t : T) : Ctr sys 145 [xn n,xm t] [] (xb (pubT n.roles t)) none []:=by
 have hr:=T.rows_len t.kids
 refine uAA Tryz.func145 rfl rfl rfl rfl rfl rfl ?_;refine uAd (uAb ?_);refine uAs rfl (uAH rfl rfl rfl rfl) ?_;refine uAs rfl (uAH rfl rfl rfl rfl) ?_;refine uAa rfl rfl rfl (uAe rfl gU) ?_;refine uAf ?_;refine uAd ?_;refine awp_drawn' (by kernel_rfl) ?_;refine uAG rfl rfl rfl rfl rfl rfl rfl gU rfl rfl rfl rfl rfl ?_;refine uAQ rfl rfl rfl rfl rfl rfl rfl gU gU (uKJ _ _) rfl ?_;refine uAl rfl rfl rfl rfl (uAc rfl gU) ?_;refine uAl rfl rfl rfl rfl (uAg rfl gU rfl rfl) ?_;refine uA5 rfl rfl rfl rfl rfl rfl rfl (fun hh=>hh) rfl rfl rfl rfl ?_;refine uAl rfl rfl rfl rfl (uA7 rfl (fun hh=>hh) rfl rfl) ?_;refine uAl rfl rfl rfl rfl (uAm rfl rfl (fun hh=>hh) gU rfl) ?_;refine uAl rfl rfl rfl rfl (uAJ rfl rfl gU (fun _ hi=>gP rfl hi)) ?_;refine uAl rfl rfl rfl rfl (uAc rfl gU) ?_;refine uAG rfl rfl rfl rfl rfl rfl rfl gU rfl rfl rfl rfl rfl ?_;refine uAl rfl rfl rfl rfl (uAg rfl gU rfl rfl) ?_;refine uA5 rfl rfl rfl rfl rfl rfl rfl (fun hh=>hh) rfl rfl rfl rfl ?_;refine uAl rfl rfl rfl rfl (uAr (j:=0) rfl rfl (fun hh=>hh) gU rfl rfl (by first|omega|(simp at hh ⊢; omega)|(simp [isT] at hh ⊢; omega)) (fun hh=>T.rows_at (by first|omega|(simp at hh ⊢; omega)|(simp [isT] at hh ⊢; omega)))) ?_;refine uAl rfl rfl rfl rfl (uAD rfl (fun hh=>hh) rfl rfl rfl rfl) ?_;refine uAQ rfl rfl rfl rfl rfl rfl rfl gU (fun hh=>gA ((fun hh=>hh) hh) (gA ((fun hh=>hh) hh) (rfl))) (uHG _ _) rfl ?_
 refine uAl rfl rfl rfl rfl (uAJ rfl rfl gU (fun _ hi=>gP rfl hi)) ?_;refine uAl rfl rfl rfl rfl (uAe rfl gU) ?_;refine uA2 (by kernel_rfl) ?_;refine uAq ?_
 repeat(first|refine tR ?_|refine bR ?_)
 refine uAu rfl ?_ trivial;refine uBY ?_
 rw[pubT,isT,kid,Bool.eq_iff_iff]
 simp [and_assoc]
 intro _; rw[hr]; exact Iff.rfl
def lkI (R : List (List UInt8)) (t : T) : Int:=match uBv R t with
 | none=>-1
 | some k=>(k : Int)
theorem uCG {t : T} (h3 : t.kind=3) (w : List UInt8) (k : Int) : isT t w k=true ↔ t.name=w∧(t.kids.length : Int)=k:=by simp [isT,h3]
theorem shkT_iff {R : List (List UInt8)} {t : T} : shkT R t=true ↔ ((isT t wShk 2=true∧uEJ R (kid t 0)=true)∧uEJ R (kid t 1)=true) ∧ ¬ (kid t 0).name=(kid t 1).name:=by simp [shkT]
theorem uLP (n : Nar) (t : T) (h3 : t.kind=3) : Ctr sys 120 [xn n,xm t] [] (xi (lkI n.roles t)) none []:=by
 have hr:=T.rows_len t.kids
 refine uAA Tryz.func120 rfl rfl rfl rfl rfl rfl ?_;refine uAd (uAb ?_);refine uAs rfl (uAH rfl rfl rfl rfl) ?_;refine uAs rfl (uAH rfl rfl rfl rfl) ?_;refine uAa rfl rfl rfl (uAe rfl gU) ?_;refine uAf ?_;refine uAd (uAb ?_);refine uAa rfl rfl rfl (uAg rfl gU rfl rfl) ?_;refine uAa rfl rfl rfl (uAh rfl gU rfl rfl rfl rfl) ?_;refine uAI rfl rfl rfl rfl rfl gU rfl rfl ?_ (fun hh=>by simp at hh); intro hlen;refine uAa rfl rfl rfl (uAe rfl gU) ?_;refine uAf ?_;refine uAk (s:=⟨[(2,_,_),(3,_,_),(5,_,_)],[(.l 2,_),(.l 3,_)],[],[]⟩) (uAj (⟨sx rfl,sx rfl,sx rfl,trivial⟩) (⟨sx rfl,sx rfl,trivial⟩) trivial) ?_;refine uAd ?_;refine uAt ?_;refine uAd (uAb ?_);refine uAa rfl rfl rfl (uAg rfl gU rfl rfl) ?_;refine uAa rfl rfl rfl (uAh rfl gU rfl rfl rfl rfl) ?_;refine uAa rfl rfl rfl (uA3 rfl rfl gU gU rfl) ?_;refine uAa rfl rfl rfl (uAc rfl gU) ?_;refine uAa rfl rfl rfl (uAc rfl gU) ?_;refine uAa rfl rfl rfl (uAm rfl rfl (fun hh=>hh) gU rfl) ?_;refine uAa rfl rfl rfl (uAJ rfl rfl gU (fun _ hi=>gP rfl hi)) ?_;refine uAa rfl rfl rfl (uAc rfl gU) ?_;refine uAa rfl rfl rfl (uAg rfl gU rfl rfl) ?_;refine uAa rfl rfl rfl (uAh rfl (fun hh=>hh) rfl rfl rfl rfl) ?_;refine uAa rfl rfl rfl (uA3 rfl rfl (fun hh=>hh) gU rfl) ?_
 refine uAa rfl rfl rfl (uAc rfl (fun hh=>hh)) ?_;refine uBd (s:=⟨[(2,_,_),(3,_,_),(5,_,_),(17,_,_),(21,_,_)],[(.l 2,_),(.l 3,_)],[],[]⟩) (uAj (⟨sx rfl,sx rfl,sx rfl,sx rfl,sx rfl,trivial⟩) (⟨sx rfl,sx rfl,trivial⟩) trivial) ?_;refine uAa rfl rfl rfl (uAc rfl gU) ?_;refine uAa rfl rfl rfl (uAm rfl rfl (fun hh=>hh) gU rfl) ?_;refine uAa rfl rfl rfl (uAJ rfl rfl (fun hh=>hh) (fun hh hi=>gP hh hi)) ?_;refine uAa rfl rfl rfl (uAO rfl rfl gU (fun _ hi=>gP rfl hi)) ?_;refine uAa rfl rfl rfl (uAe rfl gU) ?_;refine uAf ?_;refine uAk (s:=⟨[(2,_,_),(3,_,_),(5,_,_),(9,_,_)],[(.l 2,_),(.l 3,_)],[],[]⟩) (uAj (⟨sx rfl,sx rfl,sx rfl,sx rfl,trivial⟩) (⟨sx rfl,sx rfl,trivial⟩) trivial) ?_;refine uAo rfl (fun hc=>?_) (fun hc=>?_)
 ·try simp only [nn,uAi,uAC,T.rows_len,Gl.rows_len,Fs.rows_len,Sp.rows_len] at hc
  have h1 : isT t uGy 2=true∨isT t wEnc 2=true:=by rw[uCG h3,uCG h3]; first|exact hc|(rw[hr] at hc; exact hc)|omega
  have hk : uBv n.roles t=some 2:=by rw[uBv,if_pos h1]
  refine uAd (uAb ?_);refine uAa rfl rfl rfl (uAe rfl gU) ?_;refine uAf ?_;refine uAq ?_
  repeat(first|refine tR ?_|refine bR ?_)
  refine uAu rfl ?_ trivial
  (rw[lkI,hk]; rfl)
 ·try simp only [nn,uAi,uAC,T.rows_len,Gl.rows_len,Fs.rows_len,Sp.rows_len] at hc
  have h1 : ¬(isT t uGy 2=true∨isT t wEnc 2=true):=by rw[uCG h3,uCG h3]; exact fun q=>q.elim (fun q=>hc.1.elim (fun z=>z q.1) fun z=>z q.2) (fun q=>hc.2.elim (fun z=>z q.1) fun z=>z q.2)
  refine uAd (uAb ?_);refine uAa rfl rfl rfl (uAg rfl gU rfl rfl) ?_;refine uAa rfl rfl rfl (uAh rfl gU rfl rfl rfl rfl) ?_;refine uAa rfl rfl rfl (uA3 rfl rfl gU gU rfl) ?_;refine uAa rfl rfl rfl (uAc rfl gU) ?_;refine uAa rfl rfl rfl (uAc rfl gU) ?_;refine uAa rfl rfl rfl (uAm rfl rfl (fun hh=>hh) gU rfl) ?_;refine uAa rfl rfl rfl (uAJ rfl rfl gU (fun _ hi=>gP rfl hi)) ?_;refine uAa rfl rfl rfl (uAe rfl gU) ?_;refine uAf ?_;refine uAk (s:=⟨[(2,_,_),(3,_,_),(5,_,_),(26,_,_)],[(.l 2,_),(.l 3,_)],[],[]⟩) (uAj (⟨sx rfl,sx rfl,sx rfl,sx rfl,trivial⟩) (⟨sx rfl,sx rfl,trivial⟩) trivial) ?_;refine uAo rfl (fun hc2=>?_) (fun hc2=>?_)
  ·try simp only [nn,uAi,uAC,T.rows_len,Gl.rows_len,Fs.rows_len,Sp.rows_len] at hc2
   have h2 : isT t uJP 1=true:=by rw[uCG h3]; first|exact hc2|(rw[hr] at hc2; exact hc2)|omega
   have hk : uBv n.roles t=some 1:=by rw[uBv,if_neg h1,if_pos h2]
   refine uAd (uAb ?_);refine uAa rfl rfl rfl (uAe rfl gU) ?_;refine uAf ?_;refine uAq ?_
   repeat(first|refine tR ?_|refine bR ?_)
   refine uAu rfl ?_ trivial
   (rw[lkI,hk]; rfl)
  ·try simp only [nn,uAi,uAC,T.rows_len,Gl.rows_len,Fs.rows_len,Sp.rows_len] at hc2
   have h2 : ¬ isT t uJP 1=true:=by rw[uCG h3]; exact fun q=>hc2.elim (fun z=>z q.1) fun z=>z q.2
   refine uAd ?_;refine awp_drawn' (by kernel_rfl) ?_;refine uAl rfl rfl rfl rfl (uAg rfl gU rfl rfl) ?_;refine uA5 rfl rfl rfl rfl rfl rfl rfl gU rfl rfl rfl rfl ?_;refine uAl rfl rfl rfl rfl (uA3 rfl rfl gU gU rfl) ?_;refine uAl rfl rfl rfl rfl (uAc rfl gU) ?_;refine uAl rfl rfl rfl rfl (uAc rfl gU) ?_;refine uAl rfl rfl rfl rfl (uAm rfl rfl (fun hh=>hh) gU rfl) ?_;refine uAl rfl rfl rfl rfl (uAJ rfl rfl gU (fun _ hi=>gP rfl hi)) ?_;refine uAl rfl rfl rfl rfl (uAc rfl gU) ?_;refine uAG rfl rfl rfl rfl rfl rfl rfl gU rfl rfl rfl rfl rfl ?_;refine uAl rfl rfl rfl rfl (uAg rfl gU rfl rfl) ?_;refine uA5 rfl rfl rfl rfl rfl rfl rfl (fun hh=>hh) rfl rfl rfl rfl ?_;refine uAl rfl rfl rfl rfl (uAr (j:=1) rfl rfl (fun hh=>hh) gU rfl rfl (by first|omega|(simp at hh ⊢; omega)|(simp [isT] at hh ⊢; omega)) (fun hh=>T.rows_at (by first|omega|(simp at hh ⊢; omega)|(simp [isT] at hh ⊢; omega)))) ?_;refine uAl rfl rfl rfl rfl (uAD rfl (fun hh=>hh) rfl rfl rfl rfl) ?_;refine uAQ rfl rfl rfl rfl rfl rfl rfl gU (fun hh=>gA ((fun hh=>hh) hh) (gA ((fun hh=>hh) hh) (rfl))) (uIe _ _) rfl ?_;refine uAl rfl rfl rfl rfl (uAJ rfl rfl gU (fun _ hi=>gP rfl hi)) ?_;refine uAl rfl rfl rfl rfl (uAe rfl gU) ?_;refine uA2 (by kernel_rfl) ?_;refine uAk (s:=⟨[(2,_,_),(3,_,_),(5,_,_),(34,_,_)],[(.l 2,_),(.l 3,_)],[],[]⟩) (uAj (⟨sx rfl,sx rfl,sx rfl,sx rfl,trivial⟩) (⟨sx rfl,sx rfl,trivial⟩) trivial) ?_
   refine uAo rfl (fun hc3=>?_) (fun hc3=>?_)
   ·try simp only [nn,uAi,uAC,T.rows_len,Gl.rows_len,Fs.rows_len,Sp.rows_len] at hc3
    have a1 : isT t uHq 2=true∧pubT n.roles (kid t 1)=true:=by rw[uCG h3]; first|exact hc3|(rw[hr] at hc3; exact hc3)|omega
    have hk : uBv n.roles t=some 1:=by rw[uBv,if_neg h1,if_neg h2,if_pos (.inl a1)]
    refine uAd (uAb ?_);refine uAa rfl rfl rfl (uAe rfl gU) ?_;refine uAf ?_;refine uAq ?_
    repeat(first|refine tR ?_|refine bR ?_)
    refine uAu rfl ?_ trivial
    (rw[lkI,hk]; rfl)
   ·try simp only [nn,uAi,uAC,T.rows_len,Gl.rows_len,Fs.rows_len,Sp.rows_len] at hc3
    have a1 : ¬(isT t uHq 2=true∧pubT n.roles (kid t 1)=true):=by rw[uCG h3]; exact fun q=>hc3.elim (fun z=>z.elim (fun z=>z q.1.1) fun z=>z q.1.2) fun z=>Bool.noConfusion (q.2.symm.trans z)
    refine uAd ?_;refine awp_drawn' (by kernel_rfl) ?_;refine uAl rfl rfl rfl rfl (uAg rfl gU rfl rfl) ?_;refine uA5 rfl rfl rfl rfl rfl rfl rfl gU rfl rfl rfl rfl ?_;refine uAl rfl rfl rfl rfl (uA3 rfl rfl gU gU rfl) ?_;refine uAl rfl rfl rfl rfl (uAc rfl gU) ?_;refine uAl rfl rfl rfl rfl (uAc rfl gU) ?_;refine uAl rfl rfl rfl rfl (uAm rfl rfl (fun hh=>hh) gU rfl) ?_;refine uAl rfl rfl rfl rfl (uAJ rfl rfl gU (fun _ hi=>gP rfl hi)) ?_;refine uAl rfl rfl rfl rfl (uAc rfl gU) ?_;refine uAG rfl rfl rfl rfl rfl rfl rfl gU rfl rfl rfl rfl rfl ?_;refine uAl rfl rfl rfl rfl (uAg rfl gU rfl rfl) ?_;refine uA5 rfl rfl rfl rfl rfl rfl rfl (fun hh=>hh) rfl rfl rfl rfl ?_;refine uAl rfl rfl rfl rfl (uAr (j:=1) rfl rfl (fun hh=>hh) gU rfl rfl (by first|omega|(simp at hh ⊢; omega)|(simp [isT] at hh ⊢; omega)) (fun hh=>T.rows_at (by first|omega|(simp at hh ⊢; omega)|(simp [isT] at hh ⊢; omega)))) ?_;refine uAl rfl rfl rfl rfl (uAD rfl (fun hh=>hh) rfl rfl rfl rfl) ?_;refine uAQ rfl rfl rfl rfl rfl rfl rfl gU (fun hh=>gA ((fun hh=>hh) hh) (gA ((fun hh=>hh) hh) (rfl))) (uHG _ _) rfl ?_;refine uAl rfl rfl rfl rfl (uAJ rfl rfl gU (fun _ hi=>gP rfl hi)) ?_;refine uAl rfl rfl rfl rfl (uAe rfl gU) ?_;refine uA2 (by kernel_rfl) ?_;refine uAk (s:=⟨[(2,_,_),(3,_,_),(5,_,_),(50,_,_)],[(.l 2,_),(.l 3,_)],[],[]⟩) (uAj (⟨sx rfl,sx rfl,sx rfl,sx rfl,trivial⟩) (⟨sx rfl,sx rfl,trivial⟩) trivial) ?_
    refine uAo rfl (fun hc4=>?_) (fun hc4=>?_)
    ·try simp only [nn,uAi,uAC,T.rows_len,Gl.rows_len,Fs.rows_len,Sp.rows_len] at hc4
     have a2 : isT t uG0 2=true∧uEa n.roles (kid t 1)=true:=by rw[uCG h3]; first|exact hc4|(rw[hr] at hc4; exact hc4)|omega
     have hk : uBv n.roles t=some 1:=by rw[uBv,if_neg h1,if_neg h2,if_pos (.inr a2)]
     refine uAd (uAb ?_);refine uAa rfl rfl rfl (uAe rfl gU) ?_;refine uAf ?_;refine uAq ?_
     repeat(first|refine tR ?_|refine bR ?_)
     refine uAu rfl ?_ trivial
     (rw[lkI,hk]; rfl)
    ·try simp only [nn,uAi,uAC,T.rows_len,Gl.rows_len,Fs.rows_len,Sp.rows_len] at hc4
     have a2 : ¬(isT t uG0 2=true∧uEa n.roles (kid t 1)=true):=by rw[uCG h3]; exact fun q=>hc4.elim (fun z=>z.elim (fun z=>z q.1.1) fun z=>z q.1.2) fun z=>Bool.noConfusion (q.2.symm.trans z)
     have a3 : ¬((isT t uHq 2=true∧pubT n.roles (kid t 1)=true)∨(isT t uG0 2=true∧uEa n.roles (kid t 1)=true)):=fun q=>q.elim a1 a2
     refine uAd (uAb ?_);refine uAa rfl rfl rfl (uAn rfl gU rfl rfl rfl rfl rfl) ?_;refine uAa rfl rfl rfl (uAn rfl gU rfl rfl rfl rfl rfl) ?_;refine uAx rfl rfl rfl rfl rfl rfl gU gU (uIe _ _) rfl ?_;refine uAa rfl rfl rfl (uAe rfl gU) ?_;refine uAf ?_;refine uAo rfl (fun hc5=>?_) (fun hc5=>?_)
     ·try simp only [nn,uAi,uAC,T.rows_len,Gl.rows_len,Fs.rows_len,Sp.rows_len] at hc5
      have hk : uBv n.roles t=some 0:=by rw[uBv,if_neg h1,if_neg h2,if_neg a3,if_pos (.inl hc5)]
      refine uAd (uAb ?_);refine uAa rfl rfl rfl (uAe rfl gU) ?_;refine uAf ?_;refine uAq ?_
      repeat(first|refine tR ?_|refine bR ?_)
      refine uAu rfl ?_ trivial
      (rw[lkI,hk]; rfl)
     ·try simp only [nn,uAi,uAC,T.rows_len,Gl.rows_len,Fs.rows_len,Sp.rows_len] at hc5
      have a4 : ¬ pubT n.roles t=true:=by rw[Bool.not_eq_true]; exact hc5
      refine uAd ?_;refine awp_drawn' (by kernel_rfl) ?_;refine uAl rfl rfl rfl rfl (uAg rfl gU rfl rfl) ?_;refine uA5 rfl rfl rfl rfl rfl rfl rfl gU rfl rfl rfl rfl ?_;refine uAl rfl rfl rfl rfl (uA3 rfl rfl gU gU rfl) ?_;refine uAl rfl rfl rfl rfl (uAc rfl gU) ?_;refine uAl rfl rfl rfl rfl (uAc rfl gU) ?_;refine uAl rfl rfl rfl rfl (uAm rfl rfl (fun hh=>hh) gU rfl) ?_;refine uAl rfl rfl rfl rfl (uAJ rfl rfl gU (fun _ hi=>gP rfl hi)) ?_;refine uAl rfl rfl rfl rfl (uAc rfl gU) ?_;refine uAG rfl rfl rfl rfl rfl rfl rfl gU rfl rfl rfl rfl rfl ?_;refine uAl rfl rfl rfl rfl (uAg rfl gU rfl rfl) ?_;refine uA5 rfl rfl rfl rfl rfl rfl rfl (fun hh=>hh) rfl rfl rfl rfl ?_;refine uAl rfl rfl rfl rfl (uAr (j:=0) rfl rfl (fun hh=>hh) gU rfl rfl (by first|omega|(simp at hh ⊢; omega)|(simp [isT] at hh ⊢; omega)) (fun hh=>T.rows_at (by first|omega|(simp at hh ⊢; omega)|(simp [isT] at hh ⊢; omega)))) ?_;refine uAl rfl rfl rfl rfl (uAD rfl (fun hh=>hh) rfl rfl rfl rfl) ?_;refine uAQ rfl rfl rfl rfl rfl rfl rfl gU (fun hh=>gA ((fun hh=>hh) hh) (gA ((fun hh=>hh) hh) (rfl))) (uFo _ _) rfl ?_;refine uAl rfl rfl rfl rfl (uAJ rfl rfl gU (fun _ hi=>gP rfl hi)) ?_;refine uAl rfl rfl rfl rfl (uAc rfl gU) ?_;refine uAG rfl rfl rfl rfl rfl rfl rfl gU rfl rfl rfl rfl rfl ?_;refine uAl rfl rfl rfl rfl (uAg rfl gU rfl rfl) ?_
      refine uA5 rfl rfl rfl rfl rfl rfl rfl (fun hh=>hh) rfl rfl rfl rfl ?_;refine uAl rfl rfl rfl rfl (uAr (j:=1) rfl rfl (fun hh=>hh) gU rfl rfl (by first|omega|(simp at hh ⊢; omega)|(simp [isT] at hh ⊢; omega)) (fun hh=>T.rows_at (by first|omega|(simp at hh ⊢; omega)|(simp [isT] at hh ⊢; omega)))) ?_;refine uAl rfl rfl rfl rfl (uAD rfl (fun hh=>hh) rfl rfl rfl rfl) ?_;refine uAQ rfl rfl rfl rfl rfl rfl rfl gU (fun hh=>gA ((fun hh=>hh) hh) (gA ((fun hh=>hh) hh) (rfl))) (uFo _ _) rfl ?_;refine uAl rfl rfl rfl rfl (uAJ rfl rfl gU (fun _ hi=>gP rfl hi)) ?_;refine uAl rfl rfl rfl rfl (uAc rfl gU) ?_;refine uAl rfl rfl rfl rfl (uAg rfl gU rfl rfl) ?_;refine uA5 rfl rfl rfl rfl rfl rfl rfl (fun hh=>hh) rfl rfl rfl rfl ?_;refine uAl rfl rfl rfl rfl (uAr (j:=0) rfl rfl (fun hh=>hh) gU rfl rfl (by first|omega|(simp at hh ⊢; omega)|(simp [isT] at hh ⊢; omega)) (fun hh=>T.rows_at (by first|omega|(simp at hh ⊢; omega)|(simp [isT] at hh ⊢; omega)))) ?_;refine uAl rfl rfl rfl rfl (uAU rfl (fun hh=>hh) rfl rfl) ?_;refine uAl rfl rfl rfl rfl (uAM rfl (fun hh=>hh) rfl rfl rfl) ?_;refine uAl rfl rfl rfl rfl (uAg rfl gU rfl rfl) ?_;refine uA5 rfl rfl rfl rfl rfl rfl rfl (fun hh=>hh) rfl rfl rfl rfl ?_;refine uAl rfl rfl rfl rfl (uAr (j:=1) rfl rfl (fun hh=>hh) gU rfl rfl (by first|omega|(simp at hh ⊢; omega)|(simp [isT] at hh ⊢; omega)) (fun hh=>T.rows_at (by first|omega|(simp at hh ⊢; omega)|(simp [isT] at hh ⊢; omega)))) ?_
      refine uAl rfl rfl rfl rfl (uAU rfl (fun hh=>hh) rfl rfl) ?_;refine uAl rfl rfl rfl rfl (uAM rfl (fun hh=>hh) rfl rfl rfl) ?_;refine uAl rfl rfl rfl rfl (uA3 rfl rfl (fun hh=>hh) (fun hh=>hh) rfl) ?_;refine uAl rfl rfl rfl rfl (uAJ rfl rfl gU (fun _ hi=>gP rfl hi)) ?_;refine uAl rfl rfl rfl rfl (uAe rfl gU) ?_;refine uA2 (by kernel_rfl) ?_;refine uAk (s:=⟨[(70,_,_)],[],[],[]⟩) (uAj (⟨sx rfl,trivial⟩) trivial trivial) ?_;refine uAo rfl (fun hc6=>?_) (fun hc6=>?_)
      ·try simp only [nn,uAi,uAC,T.rows_len,Gl.rows_len,Fs.rows_len,Sp.rows_len] at hc6
       have a5 : shkT n.roles t=true:=by rw[shkT_iff,uCG h3]; exact ⟨⟨⟨hc6.1.1.1,hc6.1.1.2⟩,hc6.1.2⟩,hc6.2⟩
       have hk : uBv n.roles t=some 0:=by rw[uBv,if_neg h1,if_neg h2,if_neg a3,if_pos (.inr a5)]
       refine uAd (uAb ?_);refine uAa rfl rfl rfl (uAe rfl gU) ?_;refine uAf ?_;refine uAq ?_
       repeat(first|refine tR ?_|refine bR ?_)
       refine uAu rfl ?_ trivial
       (rw[lkI,hk]; rfl)
      ·try simp only [nn,uAi,uAC,T.rows_len,Gl.rows_len,Fs.rows_len,Sp.rows_len] at hc6
       have a5 : ¬ shkT n.roles t=true:=by rw[shkT_iff,uCG h3]; exact fun q=>hc6.elim (fun z=>z.elim (fun z=>z.elim (fun z=>z.elim (fun z=>z q.1.1.1.1) fun z=>z q.1.1.1.2) fun z=>Bool.noConfusion (q.1.1.2.symm.trans z)) fun z=>Bool.noConfusion (q.1.2.symm.trans z)) fun z=>q.2 z
       have hk : uBv n.roles t=none:=by rw[uBv,if_neg h1,if_neg h2,if_neg a3,if_neg (fun q=>q.elim a4 a5)]
       refine uAp ?_;refine uAd (uAb ?_);refine uAa rfl rfl rfl (uAe rfl gU) ?_;refine uAf ?_;refine uAq ?_
       repeat(first|refine tR ?_|refine bR ?_)
       refine uAu rfl ?_ trivial
       (rw[lkI,hk]; rfl)
theorem uPk {R : List (List UInt8)} {t : T} {k : Nat} (h : uBv R t=some k) : k≤t.kids.length:=by
 unfold uBv at h
 split at h
 ·rename_i q
  have : 2=k:=Option.some.inj h
  simp [isT] at q; omega
 split at h
 ·rename_i q
  have : 1=k:=Option.some.inj h
  simp [isT] at q; omega
 split at h
 ·rename_i q
  have : 1=k:=Option.some.inj h
  simp [isT] at q; omega
 split at h
 ·have : 0=k:=Option.some.inj h
  omega
 ·cases h
theorem uPu {R : List (List UInt8)} {t : T} (h : lkI R t < 0) : uBv R t=none:=by
 unfold lkI at h
 split at h
 ·assumption
 ·omega
theorem uPY {R : List (List UInt8)} {t : T} (h : ¬ lkI R t < 0) : ∃ k,uBv R t=some k∧lkI R t=(k : Int):=by
 unfold lkI at h ⊢
 split at h
 ·omega
 ·rename_i k hk; exact ⟨k,hk,rfl⟩
theorem uJ9 {α : Type} {l : List α} {d : α} {k j : Nat} (h : j < k) : (l.take k).getD j d=l.getD j d:=by
 simp only [List.getD_eq_getElem?_getD,List.getElem?_take_of_lt h]
theorem uEn (n : Nar) (h1 : n.roles.length≤900000) (h2 : n.fresh.length≤900000) (h4 : n.tags.length≤900000) : ∀ (m : Nat) (t : T),t.size≤m→m≤900000→Ctr sys 87 [xn n,xm t] [] (xi (uCj n.roles (uBa n) t)) none []:=by
 intro m
 induction m with
 | zero=>intro t h; have := t.size_pos; omega
 | succ m ih =>
  intro t ht hm
  have hr:=T.rows_len t.kids
  have hls:=T.len_sizes t.kids
  have hse:=t.size_eq
  refine uAA Tryz.func87 rfl rfl rfl rfl rfl rfl ?_;refine uAd (uAb ?_);refine uAs rfl (uAH rfl rfl rfl rfl) ?_;refine uAs rfl (uAH rfl rfl rfl rfl) ?_;refine uAa rfl rfl rfl (uAe rfl gU) ?_;refine uAf ?_;refine uAd ?_;refine uAd (uAb ?_);refine uAa rfl rfl rfl (uAg rfl gU rfl rfl) ?_;refine uAa rfl rfl rfl (uAh rfl gU rfl rfl rfl rfl) ?_;refine uAa rfl rfl rfl (uAm rfl rfl gU gU rfl) ?_;refine uAf ?_;refine uAk (s:=⟨[(2,_,_),(3,_,_),(12,_,_)],[(.l 2,_),(.l 3,_)],[],[]⟩) (uAj (⟨sx rfl,sx rfl,sx rfl,trivial⟩) (⟨sx rfl,sx rfl,trivial⟩) trivial) ?_;refine uAo rfl (fun hc=>?_) (fun hc=>?_)
  ·try simp only [nn,uAi,uAC,T.rows_len,Gl.rows_len,Fs.rows_len,Sp.rows_len] at hc
   refine uAd (uAb ?_);refine uAa rfl rfl rfl (uAn rfl gU rfl rfl rfl rfl rfl) ?_;refine uAx rfl rfl rfl rfl rfl rfl gU gU (uEQ n h1 h2 h4) rfl ?_;refine uAa rfl rfl rfl (uAc rfl gU) ?_;refine uAa rfl rfl rfl (uAv rfl gU rfl) ?_;refine uAa rfl rfl rfl (uAv rfl gU rfl) ?_;refine uAa rfl rfl rfl (uAe rfl gU) ?_;refine uAa rfl rfl rfl (uAe rfl gU) ?_;refine uAf ?_;refine uAk (s:=⟨[(3,_,_),(5,_,_)],[(.l 3,_)],[],[]⟩) (uAj (⟨sx rfl,sx rfl,trivial⟩) (⟨sx rfl,trivial⟩) trivial) ?_;refine uAd ?_;refine uAd (uAb ?_);refine uAa rfl rfl rfl (uAc rfl gU) ?_;refine uAa rfl rfl rfl (uAg rfl gU rfl rfl) ?_;refine uAa rfl rfl rfl (uAh rfl gU rfl rfl rfl rfl) ?_;refine uAx rfl rfl rfl rfl rfl rfl gU gU (uCQ _ _) rfl ?_;refine uAa rfl rfl rfl (uAm rfl rfl gU gU rfl) ?_;refine uAf ?_;refine uAk (s:=⟨[(22,_,_)],[],[],[]⟩) (uAj (⟨sx rfl,trivial⟩) trivial trivial) ?_;refine uAo rfl (fun hc2=>?_) (fun hc2=>?_)
   ·try simp only [nn,uAi,uAC,T.rows_len,Gl.rows_len,Fs.rows_len,Sp.rows_len] at hc2
    have hx:=(uDt _ _).1 hc2
    refine uAd (uAb ?_);refine uAa rfl rfl rfl (uAe rfl gU) ?_;refine uAf ?_;refine uAq ?_
    repeat(first|refine tR ?_|refine bR ?_)
    refine uAu rfl ?_ trivial
    (rw[uCS,if_pos hc,if_neg (by rw[hx]; simp)]; rfl)
   ·try simp only [nn,uAi,uAC,T.rows_len,Gl.rows_len,Fs.rows_len,Sp.rows_len] at hc2
    have hx:=(uE1 (uBa n) t.name).1 (by omega)
    refine uAp ?_;refine uAd (uAb ?_);refine uAa rfl rfl rfl (uAe rfl gU) ?_;refine uAf ?_;refine uAq ?_
    repeat(first|refine tR ?_|refine bR ?_)
    refine uAu rfl ?_ trivial
    (rw[uCS,if_pos hc,if_pos hx]; rfl)
  ·try simp only [nn,uAi,uAC,T.rows_len,Gl.rows_len,Fs.rows_len,Sp.rows_len] at hc
   have h3 : t.kind=3:=by omega
   refine uAp ?_;refine uAd (uAb ?_);refine uAa rfl rfl rfl (uAn rfl gU rfl rfl rfl rfl rfl) ?_;refine uAa rfl rfl rfl (uAn rfl gU rfl rfl rfl rfl rfl) ?_;refine uAx rfl rfl rfl rfl rfl rfl gU gU (uLP n t h3) rfl ?_;refine uAa rfl rfl rfl (uAe rfl gU) ?_;refine uAf ?_;refine uAd ?_;refine uAd (uAb ?_);refine uAa rfl rfl rfl (uAc rfl gU) ?_;refine uAa rfl rfl rfl (uAm rfl rfl gU gU rfl) ?_;refine uAf ?_;refine uAk (s:=⟨[(2,_,_),(3,_,_),(7,_,_),(27,_,_)],[(.l 2,_),(.l 3,_)],[],[]⟩) (uAj (⟨sx rfl,sx rfl,sx rfl,sx rfl,trivial⟩) (⟨sx rfl,sx rfl,trivial⟩) trivial) ?_;refine uAo rfl (fun hc2=>?_) (fun hc2=>?_)
   ·try simp only [nn,uAi,uAC,T.rows_len,Gl.rows_len,Fs.rows_len,Sp.rows_len] at hc2
    have hk:=uPu hc2
    refine uAd (uAb ?_);refine uAa rfl rfl rfl (uAe rfl gU) ?_;refine uAf ?_;refine uAq ?_
    repeat(first|refine tR ?_|refine bR ?_)
    refine uAu rfl ?_ trivial
    (rw[uCS,if_neg (by omega),hk]; rfl)
   ·try simp only [nn,uAi,uAC,T.rows_len,Gl.rows_len,Fs.rows_len,Sp.rows_len] at hc2
    obtain ⟨k,hk,hk2⟩:=uPY (R:=n.roles) (t:=t) (by omega)
    have hle:=uPk hk
    rw[hk2]
    have hE : uCj n.roles (uBa n) t=errs (uCj n.roles (uBa n)) (t.kids.take k):=by rw[uCS,if_neg (by omega),hk]
    rw[hE]
    refine uAp ?_;refine uAd ?_;refine uAd (uAb ?_);refine uAa rfl rfl rfl (uAe rfl gU) ?_;refine uAf ?_;refine uAt ?_;refine uAW (ι:=Nat) { t:=[(2,_,_),(3,_,_),(7,_,_)],bx:=[(.l 2,_),(.l 3,_)],ow:=[] } (fun j=>[(8,true,xi (j : Int))]) (fun j=>[]) (fun j=>j≤k ∧ ∀ i,i < j→uCj n.roles (uBa n) ((t.kids.take k).getD i default)=0) (fun j=>k - j) (0) (⟨by omega,fun j hj=>by omega⟩) (uAj (⟨sx rfl,sx rfl,sx rfl,sx rfl,trivial⟩) (⟨sx rfl,sx rfl,trivial⟩) trivial) ?_
    intro j hok
    dsimp only [List.cons_append,List.nil_append]
    obtain ⟨hj,hi⟩:=hok
    refine uAd ?_;refine uAd (uAb ?_);refine uAa rfl rfl rfl (uAc rfl gU) ?_;refine uAa rfl rfl rfl (uAc rfl gU) ?_;refine uAa rfl rfl rfl (uAm rfl rfl gU gU rfl) ?_;refine uAf ?_;refine uAo rfl (fun hc3=>?_) (fun hc3=>?_)
    ·try simp only [nn,uAi,uAC,T.rows_len,Gl.rows_len,Fs.rows_len,Sp.rows_len] at hc3
     have hlt : j < k:=by omega
     have hg : (t.kids.take k).getD j default=t.kids.getD j default:=uJ9 hlt
     have hlen : (t.kids.take k).length=k:=by rw[List.length_take]; omega
     have hks:=uB3 (uBz (d:=default) (l:=t.kids) (k:=j) (by omega))
     refine uAp ?_;refine uAd ?_;refine uAt ?_;refine uAd ?_;refine awp_drawn' (by kernel_rfl) ?_;refine uAG rfl rfl rfl rfl rfl rfl rfl gU rfl rfl rfl rfl rfl ?_;refine uAl rfl rfl rfl rfl (uAg rfl gU rfl rfl) ?_;refine uA5 rfl rfl rfl rfl rfl rfl rfl gU rfl rfl rfl rfl ?_;refine uAl rfl rfl rfl rfl (uAc rfl gU) ?_;refine uAl rfl rfl rfl rfl (uAr rfl rfl gU gU rfl rfl rfl (fun hh=>T.rows_at (by first|omega|(simp at hh ⊢; omega)|(simp [isT] at hh ⊢; omega)))) ?_;refine uAl rfl rfl rfl rfl (uAD rfl gU rfl rfl rfl rfl) ?_;refine uAQ rfl rfl rfl rfl rfl rfl rfl gU gU (ih (t.kids.getD j default) (by omega) (by omega)) rfl ?_;refine uAl rfl rfl rfl rfl (uAe rfl gU) ?_;refine uA2 (by kernel_rfl) ?_;refine uAk (s:=⟨[(2,_,_),(3,_,_),(7,_,_),(8,_,_),(9,_,_)],[(.l 2,_),(.l 3,_)],[],[]⟩) (uAj (⟨sx rfl,sx rfl,sx rfl,sx rfl,sx rfl,trivial⟩) (⟨sx rfl,sx rfl,trivial⟩) trivial) ?_;refine uAd (uAb ?_);refine uAa rfl rfl rfl (uAc rfl gU) ?_;refine uAa rfl rfl rfl (uAm rfl rfl gU gU rfl) ?_;refine uAf ?_;refine uAo rfl (fun hc4=>?_) (fun hc4=>?_)
     ·try simp only [nn,uAi,uAC,T.rows_len,Gl.rows_len,Fs.rows_len,Sp.rows_len] at hc4
      have he:=uD3 (d:=default) (by omega) hi (by rw[hg]; exact hc4)
      rw[hg] at he
      refine uAd (uAb ?_);refine uAa rfl rfl rfl (uAc rfl gU) ?_;refine uAa rfl rfl rfl (uAe rfl gU) ?_;refine uAf ?_;refine uAq ?_
      repeat(first|refine tR ?_|refine bR ?_)
      refine uAu rfl ?_ trivial
      (rw[he]; rfl)
     ·try simp only [nn,uAi,uAC,T.rows_len,Gl.rows_len,Fs.rows_len,Sp.rows_len] at hc4
      refine uAp ?_;refine uAb ?_;refine uAa rfl rfl rfl (uAc rfl gU) ?_;refine uAa rfl rfl rfl (uAz rfl rfl gU gU rfl (IntWalk.i64_in _ (by omega))) ?_;refine uAa rfl rfl rfl (uAe rfl gU) ?_;refine uAf ?_;refine ⟨j + 1,?_,?_,uAj (⟨⟨_,rfl,?_⟩,⟨sx rfl,sx rfl,sx rfl,trivial⟩⟩) (⟨sx rfl,sx rfl,trivial⟩) trivial⟩
      all_goals (first|rfl|omega|exact ⟨by omega,uCE hi (by rw[hg]; exact hc4)⟩)
    ·try simp only [nn,uAi,uAC,T.rows_len,Gl.rows_len,Fs.rows_len,Sp.rows_len] at hc3
     have hlen : (t.kids.take k).length=k:=by rw[List.length_take]; omega
     refine uAL ?_
     repeat(first|refine uAE ?_|refine uAF ?_|refine uAB rfl ?_)
     refine uAd (uAb ?_);refine uAa rfl rfl rfl (uAe rfl gU) ?_;refine uAf ?_;refine uAq ?_
     repeat(first|refine tR ?_|refine bR ?_)
     refine uAu rfl ?_ trivial
     (rw[uDw (d:=default) (fun i q=>hi i (by omega))]; rfl)
theorem uJf (n : Nar) (s : Sp) (h1 : n.roles.length≤900000) (h2 : n.fresh.length≤900000) (h4 : n.tags.length≤900000) (hs : s.msg.size≤900000) : Ctr sys 45 [xn n,xsp s] [] (xi (uDc n s)) none []:=by
 refine uAA Tryz.func45 rfl rfl rfl rfl rfl rfl ?_;refine uAd (uAb ?_);refine uAs rfl (uAH rfl rfl rfl rfl) ?_;refine uAs rfl (uAH rfl rfl rfl rfl) ?_;refine uAa rfl rfl rfl (uAe rfl gU) ?_;refine uAf ?_;refine uAd ?_;refine uAd (uAb ?_);refine uAa rfl rfl rfl (uAg rfl gU rfl rfl) ?_;refine uAa rfl rfl rfl (uAh rfl gU rfl rfl rfl rfl) ?_;refine uAa rfl rfl rfl (uAg rfl gU rfl rfl) ?_;refine uAa rfl rfl rfl (uAh rfl gU rfl rfl rfl rfl) ?_;refine uAx rfl rfl rfl rfl rfl rfl gU gU (uCQ _ _) rfl ?_;refine uAa rfl rfl rfl (uAm rfl rfl gU gU rfl) ?_;refine uAa rfl rfl rfl (uAc rfl gU) ?_;refine uAa rfl rfl rfl (uAg rfl gU rfl rfl) ?_;refine uAa rfl rfl rfl (uAh rfl (fun hh=>hh) rfl rfl rfl rfl) ?_;refine uBd (s:=⟨[(2,_,_),(3,_,_),(11,_,_),(13,_,_)],[(.l 2,_),(.l 3,_)],[],[]⟩) (uAj (⟨sx rfl,sx rfl,sx rfl,sx rfl,trivial⟩) (⟨sx rfl,sx rfl,trivial⟩) trivial) ?_;refine uAa rfl rfl rfl (uAg rfl gU rfl rfl) ?_;refine uAa rfl rfl rfl (uAh rfl (fun hh=>hh) rfl rfl rfl rfl) ?_;refine uAx rfl rfl rfl rfl rfl rfl gU (fun hh=>gA ((fun hh=>hh) hh) (gA ((fun hh=>hh) hh) (rfl))) (uCQ _ _) rfl ?_;refine uAa rfl rfl rfl (uAm rfl rfl (fun hh=>hh) gU rfl) ?_;refine uAa rfl rfl rfl (uAO rfl rfl gU (fun _ hi=>gP rfl hi)) ?_
 refine uAf ?_;refine uAk (s:=⟨[(2,_,_),(3,_,_),(18,_,_)],[(.l 2,_),(.l 3,_)],[],[]⟩) (uAj (⟨sx rfl,sx rfl,sx rfl,trivial⟩) (⟨sx rfl,sx rfl,trivial⟩) trivial) ?_;refine uAo rfl (fun hc=>?_) (fun hc=>?_)
 ·try simp only [nn,uAi,uAC,T.rows_len,Gl.rows_len,Fs.rows_len,Sp.rows_len] at hc
  have h : n.roles.contains s.frm=false∨n.roles.contains s.dst=false:=by rw[← uDt,← uDt]; exact hc
  have ht : twoE n.roles s.frm s.dst=13:=by rw[twoE,if_pos h]
  refine uAd (uAb ?_);refine uAa rfl rfl rfl (uAe rfl gU) ?_;refine uAf ?_;refine uAq ?_
  repeat(first|refine tR ?_|refine bR ?_)
  refine uAu rfl ?_ trivial
  (rw[uDc,ht]; rfl)
 ·try simp only [nn,uAi,uAC,T.rows_len,Gl.rows_len,Fs.rows_len,Sp.rows_len] at hc
  have h : ¬(n.roles.contains s.frm=false∨n.roles.contains s.dst=false):=by rw[← uDt,← uDt]; omega
  refine uAp ?_;refine uAd ?_;refine uAd (uAb ?_);refine uAa rfl rfl rfl (uAg rfl gU rfl rfl) ?_;refine uAa rfl rfl rfl (uAh rfl gU rfl rfl rfl rfl) ?_;refine uAa rfl rfl rfl (uAg rfl gU rfl rfl) ?_;refine uAa rfl rfl rfl (uAh rfl gU rfl rfl rfl rfl) ?_;refine uAa rfl rfl rfl (uA3 rfl rfl gU gU rfl) ?_;refine uAf ?_;refine uAk (s:=⟨[(2,_,_),(3,_,_),(23,_,_)],[(.l 2,_),(.l 3,_)],[],[]⟩) (uAj (⟨sx rfl,sx rfl,sx rfl,trivial⟩) (⟨sx rfl,sx rfl,trivial⟩) trivial) ?_;refine uAo rfl (fun hc2=>?_) (fun hc2=>?_)
  ·try simp only [nn,uAi,uAC,T.rows_len,Gl.rows_len,Fs.rows_len,Sp.rows_len] at hc2
   have ht : twoE n.roles s.frm s.dst=1:=by rw[twoE,if_neg h,if_pos hc2]
   refine uAd (uAb ?_);refine uAa rfl rfl rfl (uAe rfl gU) ?_;refine uAf ?_;refine uAq ?_
   repeat(first|refine tR ?_|refine bR ?_)
   refine uAu rfl ?_ trivial
   (rw[uDc,ht]; rfl)
  ·try simp only [nn,uAi,uAC,T.rows_len,Gl.rows_len,Fs.rows_len,Sp.rows_len] at hc2
   have ht : twoE n.roles s.frm s.dst=0:=by rw[twoE,if_neg h,if_neg hc2]
   refine uAp ?_;refine uAd (uAb ?_);refine uAa rfl rfl rfl (uAn rfl gU rfl rfl rfl rfl rfl) ?_;refine uAa rfl rfl rfl (uAg rfl gU rfl rfl) ?_;refine uAa rfl rfl rfl (uAn rfl gU rfl rfl rfl rfl rfl) ?_;refine uAx rfl rfl rfl rfl rfl rfl gU gU (uEn n h1 h2 h4 _ _ (Nat.le_refl _) hs) rfl ?_;refine uAa rfl rfl rfl (uAe rfl gU) ?_;refine uAf ?_;refine uAq ?_
   repeat(first|refine tR ?_|refine bR ?_)
   refine uAu rfl ?_ trivial
   (rw[uDc,ht]; rfl)
theorem uJu (n : Nar) (g : Gl) (h1 : n.roles.length≤900000) (h2 : n.fresh.length≤900000) (h4 : n.tags.length≤900000) (hg : T.sizes g.data≤900000) : Ctr sys 46 [xn n,xg g] [] (xi (uCy n g)) none []:=by
 have hr:=T.rows_len g.data
 have hls:=T.len_sizes g.data
 refine uAA Tryz.func46 rfl rfl rfl rfl rfl rfl ?_;refine uAd (uAb ?_);refine uAs rfl (uAH rfl rfl rfl rfl) ?_;refine uAs rfl (uAH rfl rfl rfl rfl) ?_;refine uAa rfl rfl rfl (uAe rfl gU) ?_;refine uAf ?_;refine uAd ?_;refine uAd (uAb ?_);refine uAa rfl rfl rfl (uAg rfl gU rfl rfl) ?_;refine uAa rfl rfl rfl (uAh rfl gU rfl rfl rfl rfl) ?_;refine uAa rfl rfl rfl (uAg rfl gU rfl rfl) ?_;refine uAa rfl rfl rfl (uAh rfl gU rfl rfl rfl rfl) ?_;refine uAx rfl rfl rfl rfl rfl rfl gU gU (uCQ _ _) rfl ?_;refine uAa rfl rfl rfl (uAm rfl rfl gU gU rfl) ?_;refine uAf ?_;refine uAk (s:=⟨[(2,_,_),(3,_,_),(12,_,_)],[(.l 2,_),(.l 3,_)],[],[]⟩) (uAj (⟨sx rfl,sx rfl,sx rfl,trivial⟩) (⟨sx rfl,sx rfl,trivial⟩) trivial) ?_;refine uAo rfl (fun hc=>?_) (fun hc=>?_)
 ·try simp only [nn,uAi,uAC,T.rows_len,Gl.rows_len,Fs.rows_len,Sp.rows_len] at hc
  have h:=(uDt _ _).1 hc
  refine uAd (uAb ?_);refine uAa rfl rfl rfl (uAe rfl gU) ?_;refine uAf ?_;refine uAq ?_
  repeat(first|refine tR ?_|refine bR ?_)
  refine uAu rfl ?_ trivial
  (rw[uCy,if_pos h]; rfl)
 ·try simp only [nn,uAi,uAC,T.rows_len,Gl.rows_len,Fs.rows_len,Sp.rows_len] at hc
  have hc':=(uE1 n.roles g.role).1 (by omega)
  have c1 : ¬ n.roles.contains g.role=false:=by rw[hc']; simp
  refine uAp ?_;refine uAd ?_;refine uAd (uAb ?_);refine uAa rfl rfl rfl (uAg rfl gU rfl rfl) ?_;refine uAa rfl rfl rfl (uAh rfl gU rfl rfl rfl rfl) ?_;refine uAa rfl rfl rfl (uAm rfl rfl gU gU rfl) ?_;refine uAa rfl rfl rfl (uAc rfl gU) ?_;refine uAa rfl rfl rfl (uAg rfl gU rfl rfl) ?_;refine uAa rfl rfl rfl (uAh rfl (fun hh=>hh) rfl rfl rfl rfl) ?_;refine uAa rfl rfl rfl (uAm rfl rfl (fun hh=>hh) gU rfl) ?_;refine uAa rfl rfl rfl (uAO rfl rfl gU (fun _ hi=>gP rfl hi)) ?_;refine uAf ?_;refine uAk (s:=⟨[(2,_,_),(3,_,_),(20,_,_)],[(.l 2,_),(.l 3,_)],[],[]⟩) (uAj (⟨sx rfl,sx rfl,sx rfl,trivial⟩) (⟨sx rfl,sx rfl,trivial⟩) trivial) ?_;refine uAo rfl (fun hc2=>?_) (fun hc2=>?_)
  ·try simp only [nn,uAi,uAC,T.rows_len,Gl.rows_len,Fs.rows_len,Sp.rows_len] at hc2
   have ha : uBs g.kind=true:=sagree_iff.2 hc2
   refine uAd ?_;refine uAd (uAb ?_);refine uAa rfl rfl rfl (uAg rfl gU rfl rfl) ?_;refine uAa rfl rfl rfl (uAh rfl gU rfl rfl rfl rfl) ?_;refine uAa rfl rfl rfl (uAg rfl gU rfl rfl) ?_;refine uAa rfl rfl rfl (uAh rfl gU rfl rfl rfl rfl) ?_;refine uAx rfl rfl rfl rfl rfl rfl gU gU (uCQ _ _) rfl ?_;refine uAa rfl rfl rfl (uAm rfl rfl gU gU rfl) ?_;refine uAf ?_;refine uAk (s:=⟨[(2,_,_),(3,_,_),(26,_,_)],[(.l 2,_),(.l 3,_)],[],[]⟩) (uAj (⟨sx rfl,sx rfl,sx rfl,trivial⟩) (⟨sx rfl,sx rfl,trivial⟩) trivial) ?_;refine uAo rfl (fun hc3=>?_) (fun hc3=>?_)
   ·try simp only [nn,uAi,uAC,T.rows_len,Gl.rows_len,Fs.rows_len,Sp.rows_len] at hc3
    have h:=(uDt _ _).1 hc3
    have ht : twoE n.roles g.role g.wth=13:=by rw[twoE,if_pos (.inr h)]
    refine uAd (uAb ?_);refine uAa rfl rfl rfl (uAe rfl gU) ?_;refine uAf ?_;refine uAq ?_
    repeat(first|refine tR ?_|refine bR ?_)
    refine uAu rfl ?_ trivial
    (rw[uCy,if_neg c1,if_pos ⟨ha,by rw[ht]; simp⟩,ht]; rfl)
   ·try simp only [nn,uAi,uAC,T.rows_len,Gl.rows_len,Fs.rows_len,Sp.rows_len] at hc3
    have h:=(uE1 n.roles g.wth).1 (by omega)
    have hn : ¬(n.roles.contains g.role=false∨n.roles.contains g.wth=false):=by rw[hc',h]; simp
    refine uAp ?_;refine uAd (uAb ?_);refine uAa rfl rfl rfl (uAg rfl gU rfl rfl) ?_;refine uAa rfl rfl rfl (uAh rfl gU rfl rfl rfl rfl) ?_;refine uAa rfl rfl rfl (uAg rfl gU rfl rfl) ?_;refine uAa rfl rfl rfl (uAh rfl gU rfl rfl rfl rfl) ?_;refine uAa rfl rfl rfl (uA3 rfl rfl gU gU rfl) ?_;refine uAf ?_;refine uAk (s:=⟨[(2,_,_),(3,_,_),(31,_,_)],[(.l 2,_),(.l 3,_)],[],[]⟩) (uAj (⟨sx rfl,sx rfl,sx rfl,trivial⟩) (⟨sx rfl,sx rfl,trivial⟩) trivial) ?_;refine uAo rfl (fun hc4=>?_) (fun hc4=>?_)
    ·try simp only [nn,uAi,uAC,T.rows_len,Gl.rows_len,Fs.rows_len,Sp.rows_len] at hc4
     have ht : twoE n.roles g.role g.wth=1:=by rw[twoE,if_neg hn,if_pos hc4.symm]
     refine uAd (uAb ?_);refine uAa rfl rfl rfl (uAe rfl gU) ?_;refine uAf ?_;refine uAq ?_
     repeat(first|refine tR ?_|refine bR ?_)
     refine uAu rfl ?_ trivial
     (rw[uCy,if_neg c1,if_pos ⟨ha,by rw[ht]; simp⟩,ht]; rfl)
    ·try simp only [nn,uAi,uAC,T.rows_len,Gl.rows_len,Fs.rows_len,Sp.rows_len] at hc4
     have ht : twoE n.roles g.role g.wth=0:=by rw[twoE,if_neg hn,if_neg (fun q=>hc4 q.symm)]
     have hE : uCy n g=errs (uCj n.roles (uBa n)) g.data:=by rw[uCy,if_neg c1,if_neg (fun q=>q.2 ht)]
     rw[hE]
     refine uAp ?_;refine uAd ?_;refine uAd (uAb ?_);refine uAa rfl rfl rfl (uAe rfl gU) ?_;refine uAf ?_;refine uAt ?_;refine uAW (ι:=Nat) { t:=[(2,_,_),(3,_,_)],bx:=[(.l 2,_),(.l 3,_)],ow:=[] } (fun k=>[(5,true,xi (k : Int))]) (fun k=>[]) (fun k=>k≤g.data.length ∧ ∀ j,j < k→uCj n.roles (uBa n) (g.data.getD j default)=0) (fun k=>g.data.length - k) (0) (⟨by omega,fun j hj=>by omega⟩) (uAj (⟨sx rfl,sx rfl,sx rfl,trivial⟩) (⟨sx rfl,sx rfl,trivial⟩) trivial) ?_
     intro k hoka
     dsimp only [List.cons_append,List.nil_append]
     obtain ⟨hk,hi⟩:=hoka
     refine uAd ?_;refine uAd (uAb ?_);refine uAa rfl rfl rfl (uAc rfl gU) ?_;refine uAa rfl rfl rfl (uAg rfl gU rfl rfl) ?_;refine uAa rfl rfl rfl (uAh rfl gU rfl rfl rfl rfl) ?_;refine uAI rfl rfl rfl rfl rfl gU rfl rfl ?_ (fun hh=>by simp at hh); intro hlen;refine uAa rfl rfl rfl (uAm rfl rfl gU gU rfl) ?_;refine uAf ?_;refine uAk (s:=⟨[(2,_,_),(3,_,_),(5,_,_),(36,_,_)],[(.l 2,_),(.l 3,_)],[],[]⟩) (uAj (⟨sx rfl,sx rfl,sx rfl,sx rfl,trivial⟩) (⟨sx rfl,sx rfl,trivial⟩) trivial) ?_;refine uAo rfl (fun hc5=>?_) (fun hc5=>?_)
     ·try simp only [nn,uAi,uAC,T.rows_len,Gl.rows_len,Fs.rows_len,Sp.rows_len] at hc5
      have hlt : k < g.data.length:=by omega
      have hks:=T.getD_size hlt
      have hts:=T.sizes_take_le g.data k
      refine uAp ?_;refine uAd ?_;refine uAt ?_;refine uAd ?_;refine awp_drawn' (by kernel_rfl) ?_;refine uAG rfl rfl rfl rfl rfl rfl rfl gU rfl rfl rfl rfl rfl ?_;refine uAl rfl rfl rfl rfl (uAg rfl gU rfl rfl) ?_;refine uA5 rfl rfl rfl rfl rfl rfl rfl gU rfl rfl rfl rfl ?_;refine uAl rfl rfl rfl rfl (uAc rfl gU) ?_;refine uAl rfl rfl rfl rfl (uAr rfl rfl gU gU rfl rfl rfl (fun hh=>T.rows_at (by first|omega|(simp at hh ⊢; omega)|(simp [isT] at hh ⊢; omega)))) ?_;refine uAl rfl rfl rfl rfl (uAD rfl gU rfl rfl rfl rfl) ?_;refine uAQ rfl rfl rfl rfl rfl rfl rfl gU gU (uEn n h1 h2 h4 _ (g.data.getD k default) (Nat.le_refl _) (by omega)) rfl ?_;refine uAl rfl rfl rfl rfl (uAe rfl gU) ?_;refine uA2 (by kernel_rfl) ?_;refine uAk (s:=⟨[(2,_,_),(3,_,_),(5,_,_),(6,_,_)],[(.l 2,_),(.l 3,_)],[],[]⟩) (uAj (⟨sx rfl,sx rfl,sx rfl,sx rfl,trivial⟩) (⟨sx rfl,sx rfl,trivial⟩) trivial) ?_;refine uAd (uAb ?_);refine uAa rfl rfl rfl (uAc rfl gU) ?_;refine uAa rfl rfl rfl (uAm rfl rfl gU gU rfl) ?_;refine uAf ?_;refine uAo rfl (fun hc6=>?_) (fun hc6=>?_)
      ·try simp only [nn,uAi,uAC,T.rows_len,Gl.rows_len,Fs.rows_len,Sp.rows_len] at hc6
       refine uAd (uAb ?_);refine uAa rfl rfl rfl (uAc rfl gU) ?_;refine uAa rfl rfl rfl (uAe rfl gU) ?_;refine uAf ?_;refine uAq ?_
       repeat(first|refine tR ?_|refine bR ?_)
       refine uAu rfl ?_ trivial
       (rw[uD3 hlt hi hc6]; rfl)
      ·try simp only [nn,uAi,uAC,T.rows_len,Gl.rows_len,Fs.rows_len,Sp.rows_len] at hc6
       refine uAp ?_;refine uAb ?_;refine uAa rfl rfl rfl (uAc rfl gU) ?_;refine uAa rfl rfl rfl (uAz rfl rfl gU gU rfl (IntWalk.i64_in _ (by omega))) ?_;refine uAa rfl rfl rfl (uAe rfl gU) ?_;refine uAf ?_;refine ⟨k + 1,?_,?_,uAj (⟨⟨_,rfl,?_⟩,⟨sx rfl,sx rfl,trivial⟩⟩) (⟨sx rfl,sx rfl,trivial⟩) trivial⟩
       all_goals (first|rfl|omega|exact ⟨by omega,uCE hi hc6⟩)
     ·try simp only [nn,uAi,uAC,T.rows_len,Gl.rows_len,Fs.rows_len,Sp.rows_len] at hc5
      have hke : k=g.data.length:=by omega
      subst hke
      refine uAL ?_
      repeat(first|refine uAE ?_|refine uAF ?_|refine uAB rfl ?_)
      refine uAd (uAb ?_);refine uAa rfl rfl rfl (uAe rfl gU) ?_;refine uAf ?_;refine uAq ?_
      repeat(first|refine tR ?_|refine bR ?_)
      refine uAu rfl ?_ trivial
      (rw[uDw hi]; rfl)
  ·try simp only [nn,uAi,uAC,T.rows_len,Gl.rows_len,Fs.rows_len,Sp.rows_len] at hc2
   have ha : ¬ uBs g.kind=true := fun q=>by have := sagree_iff.1 q; omega
   have hE : uCy n g=errs (uCj n.roles (uBa n)) g.data:=by rw[uCy,if_neg c1,if_neg (fun q=>ha q.1)]
   rw[hE]
   refine uAp ?_;refine uAd ?_;refine uAd (uAb ?_);refine uAa rfl rfl rfl (uAe rfl gU) ?_;refine uAf ?_;refine uAt ?_;refine uAW (ι:=Nat) { t:=[(2,_,_),(3,_,_)],bx:=[(.l 2,_),(.l 3,_)],ow:=[] } (fun k=>[(5,true,xi (k : Int))]) (fun k=>[]) (fun k=>k≤g.data.length ∧ ∀ j,j < k→uCj n.roles (uBa n) (g.data.getD j default)=0) (fun k=>g.data.length - k) (0) (⟨by omega,fun j hj=>by omega⟩) (uAj (⟨sx rfl,sx rfl,sx rfl,trivial⟩) (⟨sx rfl,sx rfl,trivial⟩) trivial) ?_
   intro k hokb
   dsimp only [List.cons_append,List.nil_append]
   obtain ⟨hk,hi⟩:=hokb
   refine uAd ?_;refine uAd (uAb ?_);refine uAa rfl rfl rfl (uAc rfl gU) ?_;refine uAa rfl rfl rfl (uAg rfl gU rfl rfl) ?_;refine uAa rfl rfl rfl (uAh rfl gU rfl rfl rfl rfl) ?_;refine uAI rfl rfl rfl rfl rfl gU rfl rfl ?_ (fun hh=>by simp at hh); intro hlen;refine uAa rfl rfl rfl (uAm rfl rfl gU gU rfl) ?_;refine uAf ?_;refine uAk (s:=⟨[(2,_,_),(3,_,_),(5,_,_),(36,_,_)],[(.l 2,_),(.l 3,_)],[],[]⟩) (uAj (⟨sx rfl,sx rfl,sx rfl,sx rfl,trivial⟩) (⟨sx rfl,sx rfl,trivial⟩) trivial) ?_;refine uAo rfl (fun hc3=>?_) (fun hc3=>?_)
   ·try simp only [nn,uAi,uAC,T.rows_len,Gl.rows_len,Fs.rows_len,Sp.rows_len] at hc3
    have hlt : k < g.data.length:=by omega
    have hks:=T.getD_size hlt
    have hts:=T.sizes_take_le g.data k
    refine uAp ?_;refine uAd ?_;refine uAt ?_;refine uAd ?_;refine awp_drawn' (by kernel_rfl) ?_;refine uAG rfl rfl rfl rfl rfl rfl rfl gU rfl rfl rfl rfl rfl ?_;refine uAl rfl rfl rfl rfl (uAg rfl gU rfl rfl) ?_;refine uA5 rfl rfl rfl rfl rfl rfl rfl gU rfl rfl rfl rfl ?_;refine uAl rfl rfl rfl rfl (uAc rfl gU) ?_;refine uAl rfl rfl rfl rfl (uAr rfl rfl gU gU rfl rfl rfl (fun hh=>T.rows_at (by first|omega|(simp at hh ⊢; omega)|(simp [isT] at hh ⊢; omega)))) ?_;refine uAl rfl rfl rfl rfl (uAD rfl gU rfl rfl rfl rfl) ?_;refine uAQ rfl rfl rfl rfl rfl rfl rfl gU gU (uEn n h1 h2 h4 _ (g.data.getD k default) (Nat.le_refl _) (by omega)) rfl ?_;refine uAl rfl rfl rfl rfl (uAe rfl gU) ?_;refine uA2 (by kernel_rfl) ?_;refine uAk (s:=⟨[(2,_,_),(3,_,_),(5,_,_),(6,_,_)],[(.l 2,_),(.l 3,_)],[],[]⟩) (uAj (⟨sx rfl,sx rfl,sx rfl,sx rfl,trivial⟩) (⟨sx rfl,sx rfl,trivial⟩) trivial) ?_;refine uAd (uAb ?_);refine uAa rfl rfl rfl (uAc rfl gU) ?_;refine uAa rfl rfl rfl (uAm rfl rfl gU gU rfl) ?_;refine uAf ?_;refine uAo rfl (fun hc4=>?_) (fun hc4=>?_)
    ·try simp only [nn,uAi,uAC,T.rows_len,Gl.rows_len,Fs.rows_len,Sp.rows_len] at hc4
     refine uAd (uAb ?_);refine uAa rfl rfl rfl (uAc rfl gU) ?_;refine uAa rfl rfl rfl (uAe rfl gU) ?_;refine uAf ?_;refine uAq ?_
     repeat(first|refine tR ?_|refine bR ?_)
     refine uAu rfl ?_ trivial
     (rw[uD3 hlt hi hc4]; rfl)
    ·try simp only [nn,uAi,uAC,T.rows_len,Gl.rows_len,Fs.rows_len,Sp.rows_len] at hc4
     refine uAp ?_;refine uAb ?_;refine uAa rfl rfl rfl (uAc rfl gU) ?_;refine uAa rfl rfl rfl (uAz rfl rfl gU gU rfl (IntWalk.i64_in _ (by omega))) ?_;refine uAa rfl rfl rfl (uAe rfl gU) ?_;refine uAf ?_;refine ⟨k + 1,?_,?_,uAj (⟨⟨_,rfl,?_⟩,⟨sx rfl,sx rfl,trivial⟩⟩) (⟨sx rfl,sx rfl,trivial⟩) trivial⟩
     all_goals (first|rfl|omega|exact ⟨by omega,uCE hi hc4⟩)
   ·try simp only [nn,uAi,uAC,T.rows_len,Gl.rows_len,Fs.rows_len,Sp.rows_len] at hc3
    have hke : k=g.data.length:=by omega
    subst hke
    refine uAL ?_
    repeat(first|refine uAE ?_|refine uAF ?_|refine uAB rfl ?_)
    refine uAd (uAb ?_);refine uAa rfl rfl rfl (uAe rfl gU) ?_;refine uAf ?_;refine uAq ?_
    repeat(first|refine tR ?_|refine bR ?_)
    refine uAu rfl ?_ trivial
    (rw[uDw hi]; rfl)
theorem uNj (l : List (List UInt8)) (rs : List (List C)) (s : List UInt8) (h : rs=strR l) : Ctr sys 52 [.v (.c (.sl 1 rs)),xs s] [] (xi (ixS l s)) none []:=by
 subst h; exact uCQ l s
theorem uKy (n : Nar) : (uBa n).length=n.roles.length + (n.fresh.length + n.tags.length):=by rw[uFU]; simp
theorem uHl (n : Nar) : (dclL n).map (·.1)=uBa n:=by
 rw[dclL,uFU]
 simp [List.map_append,List.map_map,Function.comp_def]
theorem uQA {n : Nar} {i : Nat} (h : i < (uBa n).length) : ∃ o,(dclL n)[i]? = some ((uBa n).getD i [],o)∧(if n.roles.length≤i∧i < n.roles.length + n.fresh.length then o=some (n.fresh.getD (i - n.roles.length) default).role else o=none):=by
 have hl:=uKy n
 have hk : (uBa n)[i]? = ((dclL n)[i]?).map (·.1):=by rw[← uHl,List.getElem?_map]
 by_cases h1 : i < n.roles.length
 ·have := uKR h1
  refine ⟨none,?_,by rw[if_neg (by omega)]⟩
  rw[List.getD_eq_getElem?_getD,hk,this]; rfl
 ·by_cases h2 : i < n.roles.length + n.fresh.length
  ·have := uIC (n := n) (k := i - n.roles.length) (by omega)
   rw[show n.roles.length + (i - n.roles.length)=i by omega] at this
   refine ⟨_,?_,by rw[if_pos (by omega)]⟩
   rw[List.getD_eq_getElem?_getD,hk,this]; rfl
  ·have := uMA (n := n) (k := i - n.roles.length - n.fresh.length) (by omega)
   rw[show n.roles.length + (n.fresh.length + (i - n.roles.length - n.fresh.length))=i by omega] at this
   refine ⟨none,?_,by rw[if_neg (by omega)]⟩
   rw[List.getD_eq_getElem?_getD,hk,this]; rfl
theorem uQe {l : List UInt8} {c : UInt8} (h : ∀ j,j < l.length → ¬ (((l.getD j 0).toNat : Nat) : Int)=(c.toNat : Nat)) : l.contains c=false:=by
 rw[Bool.eq_false_iff]
 intro q
 obtain ⟨j,hj,e⟩:=List.mem_iff_getElem.1 (List.contains_iff_mem.1 q)
 exact h j hj (by rw[List.getD_eq_getElem?_getD,List.getElem?_eq_getElem hj,Option.getD_some,e])
theorem uQu {l : List UInt8} {c : UInt8} {j : Nat} (hj : j < l.length) (h : (((l.getD j 0).toNat : Nat) : Int)=(c.toNat : Nat)) : l.contains c=true:=by
 have e : l.getD j 0=c:=UInt8.toNat.inj (by omega)
 rw[List.contains_iff_mem,← e]; exact uBz hj
theorem uHJ (n : Nar) (h1 : n.roles.length≤900000) (h2 : n.fresh.length≤900000) (h4 : n.tags.length≤900000) : Ctr sys 44 [xn n] [] (xi (decE n)) none []:=by
 have l1:=uAi n.roles
 have l2:=Fs.rows_len n.fresh
 have l3:=uAi n.tags
 have lk:=uAi (uBa n)
 have hl:=uKy n
 refine uAA Tryz.func44 rfl rfl rfl rfl rfl rfl ?_;refine uAd (uAb ?_);refine uAs rfl (uAH rfl rfl rfl rfl) ?_;refine uAa rfl rfl rfl (uAe rfl gU) ?_;refine uAf ?_;refine uAd (uAb ?_);refine uAa rfl rfl rfl (uAn rfl gU rfl rfl rfl rfl rfl) ?_;refine uAx rfl rfl rfl rfl rfl rfl gU gU (uEQ n h1 h2 h4) rfl ?_;refine uAa rfl rfl rfl (uAc rfl gU) ?_;refine uAa rfl rfl rfl (uAv rfl gU rfl) ?_;refine uAa rfl rfl rfl (uAv rfl gU rfl) ?_;refine uAa rfl rfl rfl (uAe rfl gU) ?_;refine uAa rfl rfl rfl (uAe rfl gU) ?_;refine uAf ?_;refine uAk (s:=⟨[(1,_,_),(3,_,_)],[(.l 1,_)],[],[]⟩) (uAj (⟨sx rfl,sx rfl,trivial⟩) (⟨sx rfl,trivial⟩) trivial) ?_;refine uAd ?_;refine uAd (uAb ?_);refine uAa rfl rfl rfl (uAe rfl gU) ?_;refine uAf ?_;refine uAt ?_;refine uAW (ι:=Nat) { t:=[(1,_,_),(3,_,_)],bx:=[(.l 1,_)],ow:=[] } (fun i=>[(5,true,xi (i : Int))]) (fun i=>[]) (fun i=>i≤(uBa n).length∧decA n.roles ((uBa n).take i) ((dclL n).drop i)=decE n) (fun i=>(uBa n).length - i) (0) (⟨by omega,by simp [decE]⟩) (uAj (⟨sx rfl,sx rfl,sx rfl,trivial⟩) (⟨sx rfl,trivial⟩) trivial) ?_
 intro i hoka
 dsimp only [List.cons_append,List.nil_append]
 obtain ⟨hi,hd⟩:=hoka
 refine uAd ?_;refine uAd (uAb ?_);refine uAa rfl rfl rfl (uAc rfl gU) ?_;refine uAa rfl rfl rfl (uAc rfl gU) ?_;refine uAI rfl rfl rfl rfl rfl gU rfl rfl ?_ (fun hh=>by simp at hh); intro hlen;refine uAa rfl rfl rfl (uAm rfl rfl gU gU rfl) ?_;refine uAf ?_;refine uAo rfl (fun hc=>?_) (fun hc=>?_)
 ·try simp only [nn,uAi,uAC,T.rows_len,Gl.rows_len,Fs.rows_len,Sp.rows_len] at hc
  have hlt : i < (uBa n).length:=by omega
  obtain ⟨o,hx,ho⟩:=uQA hlt
  have hF : o.isSome=true ↔ (n.roles.length≤i∧i < n.roles.length + n.fresh.length):=by
   split at ho
   ·rename_i q; rw[ho]; exact ⟨fun _=>q,fun _=>rfl⟩
   ·rename_i q; rw[ho]; exact ⟨fun z=>by simp at z,fun z=>absurd z q⟩
  refine uAp ?_;refine uAd ?_;refine uAt ?_;refine uAd (uAb ?_);refine uAa rfl rfl rfl (uAc rfl gU) ?_;refine uAa rfl rfl rfl (uAg rfl gU rfl rfl) ?_;refine uAa rfl rfl rfl (uAh rfl gU rfl rfl rfl rfl) ?_;refine uAI rfl rfl rfl rfl rfl gU rfl rfl ?_ (fun hh=>by simp at hh); intro hlen;refine uAa rfl rfl rfl (uAm rfl rfl gU gU rfl) ?_;refine uAa rfl rfl rfl (uAc rfl gU) ?_;refine uAa rfl rfl rfl (uAc rfl gU) ?_;refine uAa rfl rfl rfl (uAg rfl gU rfl rfl) ?_;refine uBd (s:=⟨[(1,_,_),(3,_,_),(5,_,_),(24,_,_),(25,_,_),(26,_,_)],[(.l 1,_)],[],[]⟩) (uAj (⟨sx rfl,sx rfl,sx rfl,sx rfl,sx rfl,sx rfl,trivial⟩) (⟨sx rfl,trivial⟩) trivial) ?_;refine uAa rfl rfl rfl (uAh rfl (fun hh=>hh) rfl rfl rfl rfl) ?_;refine uAa rfl rfl rfl (uA7 rfl (fun hh=>hh) rfl rfl) ?_;refine uAa rfl rfl rfl (uAg rfl gU rfl rfl) ?_;refine uAa rfl rfl rfl (uAh rfl (fun hh=>hh) rfl rfl rfl rfl) ?_;refine uAa rfl rfl rfl (uA7 rfl (fun hh=>hh) rfl rfl) ?_;refine uAa rfl rfl rfl (uAz rfl rfl (fun hh=>hh) (fun hh=>hh) rfl (IntWalk.i64_in _ (by omega))) ?_;refine uAa rfl rfl rfl (uAm rfl rfl (fun hh=>hh) (fun hh=>hh) rfl) ?_;refine uAa rfl rfl rfl (uAJ rfl rfl gU (fun _ hi=>gP rfl hi)) ?_;refine uAa rfl rfl rfl (uAe rfl gU) ?_;refine uAf ?_
  refine uAk (s:=⟨[(1,_,_),(3,_,_),(5,_,_),(6,_,_)],[(.l 1,_)],[],[]⟩) (uAj (⟨sx rfl,sx rfl,sx rfl,sx rfl,trivial⟩) (⟨sx rfl,trivial⟩) trivial) ?_;refine uAd ?_;refine uAd (uAb ?_);refine uAa rfl rfl rfl (uAe rfl gU) ?_;refine uAf ?_;refine uAt ?_;refine uAW (ι:=Nat) { t:=[(1,_,_),(3,_,_),(5,_,_),(6,_,_)],bx:=[(.l 1,_)],ow:=[] } (fun k=>[(7,true,xi (k : Int))]) (fun k=>[]) (fun k=>k≤((uBa n).getD i []).length ∧ ∀ j,j < k → ¬ (((((uBa n).getD i []).getD j 0).toNat : Nat) : Int)=35) (fun k=>((uBa n).getD i []).length - k) (0) (⟨by omega,fun j hj=>by omega⟩) (uAj (⟨sx rfl,sx rfl,sx rfl,sx rfl,sx rfl,trivial⟩) (⟨sx rfl,trivial⟩) trivial) ?_
  intro k hokb
  dsimp only [List.cons_append,List.nil_append]
  obtain ⟨hk,hj⟩:=hokb
  refine uAd ?_;refine uAd (uAb ?_);refine uAa rfl rfl rfl (uAc rfl gU) ?_;refine uAa rfl rfl rfl (uAc rfl gU) ?_;refine uAa rfl rfl rfl (uAc rfl gU) ?_;refine uAa rfl rfl rfl (uAr rfl rfl gU gU rfl rfl rfl (fun hh=>uBP (by first|omega|(simp at hh ⊢; omega)))) ?_;refine uAa rfl rfl rfl (uAM rfl gU rfl rfl rfl) ?_;refine uBS rfl rfl rfl rfl rfl gU (Tryz.underlying9) ?_ (fun hh=>by simp at hh); intro hlen;refine uAa rfl rfl rfl (uAm rfl rfl gU gU rfl) ?_;refine uAf ?_;refine uAk (s:=⟨[(1,_,_),(3,_,_),(5,_,_),(6,_,_),(7,_,_),(41,_,_)],[(.l 1,_)],[],[]⟩) (uAj (⟨sx rfl,sx rfl,sx rfl,sx rfl,sx rfl,sx rfl,trivial⟩) (⟨sx rfl,trivial⟩) trivial) ?_;refine uAo rfl (fun hc2=>?_) (fun hc2=>?_)
  ·try simp only [nn,uAi,uAC,T.rows_len,Gl.rows_len,Fs.rows_len,Sp.rows_len] at hc2
   refine uAp ?_;refine uAd ?_;refine uAt ?_;refine uAd (uAb ?_);refine uAa rfl rfl rfl (uAc rfl gU) ?_;refine uAa rfl rfl rfl (uAc rfl gU) ?_;refine uAa rfl rfl rfl (uAr rfl rfl gU gU rfl rfl rfl (fun hh=>uBP (by first|omega|(simp at hh ⊢; omega)))) ?_;refine uAa rfl rfl rfl (uAM rfl gU rfl rfl rfl) ?_;refine uAa rfl rfl rfl (uAc rfl gU) ?_;refine uAa rfl rfl rfl (uAP rfl rfl gU gU Tryz.underlying9 rfl (fun hh=>by first|omega|(simp at hh ⊢; omega))) ?_;refine uAa rfl rfl rfl (uAm rfl rfl gU gU rfl) ?_;refine uAf ?_;refine uAk (s:=⟨[(1,_,_),(3,_,_),(5,_,_),(6,_,_),(7,_,_),(50,_,_)],[(.l 1,_)],[],[]⟩) (uAj (⟨sx rfl,sx rfl,sx rfl,sx rfl,sx rfl,sx rfl,trivial⟩) (⟨sx rfl,trivial⟩) trivial) ?_;refine uAo rfl (fun hc3=>?_) (fun hc3=>?_)
   ·try simp only [nn,uAi,uAC,T.rows_len,Gl.rows_len,Fs.rows_len,Sp.rows_len] at hc3
    have he : dclE n.roles ((uBa n).take i) ((uBa n).getD i [],o)=2:=by rw[dclE,if_pos (uQu (c:=35) (l:=(uBa n).getD i []) (j:=k) (by omega) hc3)]
    have hh:=uDg hx (by rw[he]; simp)
    rw[hd,he] at hh
    refine uAd (uAb ?_);refine uAa rfl rfl rfl (uAe rfl gU) ?_;refine uAf ?_;refine uAq ?_
    repeat(first|refine tR ?_|refine bR ?_)
    refine uAu rfl ?_ trivial
    (rw[hh]; rfl)
   ·try simp only [nn,uAi,uAC,T.rows_len,Gl.rows_len,Fs.rows_len,Sp.rows_len] at hc3
    refine uAp ?_;refine uAb ?_;refine uAa rfl rfl rfl (uAc rfl gU) ?_;refine uAa rfl rfl rfl (uAz rfl rfl gU gU rfl (IntWalk.i64_in _ (by omega))) ?_;refine uAa rfl rfl rfl (uAe rfl gU) ?_;refine uAf ?_;refine ⟨k + 1,?_,?_,uAj (⟨⟨_,rfl,?_⟩,⟨sx rfl,sx rfl,sx rfl,sx rfl,trivial⟩⟩) (⟨sx rfl,trivial⟩) trivial⟩
    all_goals (first|rfl|omega|exact ⟨by omega,fun j q=>by by_cases e : j=k; subst e; exact hc3; exact hj j (by omega)⟩)
  ·try simp only [nn,uAi,uAC,T.rows_len,Gl.rows_len,Fs.rows_len,Sp.rows_len] at hc2
   have hno : ((uBa n).getD i []).contains 35=false:=uQe (fun j q=>hj j (by omega))
   refine uAL ?_
   repeat(first|refine uAE ?_|refine uAF ?_|refine uAB rfl ?_)
   refine uAd ?_;refine uAd (uAb ?_);refine uAa rfl rfl rfl (uAc rfl gU) ?_;refine uAa rfl rfl rfl (uAc rfl gU) ?_;refine uAa rfl rfl rfl (uAc rfl gU) ?_;refine uAa rfl rfl rfl (uAc rfl gU) ?_;refine uAa rfl rfl rfl (uAr rfl rfl (fun hh=>hh) (fun hh=>hh) rfl rfl rfl (fun hh=>uBP (by first|omega|(simp at hh ⊢; omega)))) ?_;refine uAa rfl rfl rfl (uAM rfl (fun hh=>hh) rfl rfl rfl) ?_;refine uAa rfl rfl rfl (uA3 rfl rfl (fun hh=>hh) gU rfl) ?_;refine uAa rfl rfl rfl (uAc rfl (fun hh=>hh)) ?_;refine uAa rfl rfl rfl (uAc rfl gU) ?_;refine uAa rfl rfl rfl (uAc rfl gU) ?_;refine uAa rfl rfl rfl (uAr rfl rfl (fun hh=>hh) (fun hh=>hh) rfl rfl rfl (fun hh=>uBP (by first|omega|(simp at hh ⊢; omega)))) ?_;refine uAa rfl rfl rfl (uAM rfl (fun hh=>hh) rfl rfl rfl) ?_;refine uBd (s:=⟨[(1,_,_),(3,_,_),(5,_,_),(6,_,_),(52,_,_),(58,_,_),(62,_,_)],[(.l 1,_)],[],[]⟩) (uAj (⟨sx rfl,sx rfl,sx rfl,sx rfl,sx rfl,sx rfl,sx rfl,trivial⟩) (⟨sx rfl,trivial⟩) trivial) ?_;refine uAa rfl rfl rfl (uA3 rfl rfl (fun hh=>hh) gU rfl) ?_;refine uAa rfl rfl rfl (uAO rfl rfl (fun hh=>hh) (fun hh hi=>gP hh hi)) ?_;refine uAa rfl rfl rfl (uAJ rfl rfl gU (fun _ hi=>gP rfl hi)) ?_;refine uAf ?_
   have n1 : ¬((uBa n).getD i []).contains 35=true:=by rw[hno]; simp
   refine uAo rfl (fun hc3=>?_) (fun hc3=>?_)
   ·try simp only [nn,uAi,uAC,T.rows_len,Gl.rows_len,Fs.rows_len,Sp.rows_len] at hc3
    have he : dclE n.roles ((uBa n).take i) ((uBa n).getD i [],o)=1:=by rw[dclE,if_neg n1,if_pos ⟨hF.2 (by omega),hc3.2⟩]
    have hh:=uDg hx (by rw[he]; simp)
    rw[hd,he] at hh
    refine uAd (uAb ?_);refine uAa rfl rfl rfl (uAe rfl gU) ?_;refine uAf ?_;refine uAq ?_
    repeat(first|refine tR ?_|refine bR ?_)
    refine uAu rfl ?_ trivial
    (rw[hh]; rfl)
   ·try simp only [nn,uAi,uAC,T.rows_len,Gl.rows_len,Fs.rows_len,Sp.rows_len] at hc3
    have n2 : ¬(o.isSome=true∧((uBa n).getD i []=[101]∨(uBa n).getD i []=[103])):=by
     rintro ⟨q1,q2⟩
     have := hF.1 q1
     rcases hc3 with z | z
     ·omega
     ·exact q2.elim z.1 z.2
    refine uAp ?_;refine uAd ?_;refine uAd ?_;refine awp_drawn' (by kernel_rfl) ?_;refine uAl rfl rfl rfl rfl (uAc rfl gU) ?_;refine uAl rfl rfl rfl rfl (uAc rfl gU) ?_;refine uAl rfl rfl rfl rfl (uEm rfl gU rfl rfl (fun _=>rfl) (fun _=>⟨_,_,_,rfl,gU,rfl⟩) (fun hh=>by first|omega|(simp at hh ⊢; omega)) (fun hh=>by first|omega|(simp at hh ⊢; omega))) ?_;refine uAl rfl rfl rfl rfl (uAc rfl gU) ?_;refine uAl rfl rfl rfl rfl (uAc rfl gU) ?_;refine uAl rfl rfl rfl rfl (uAr rfl rfl gU gU rfl rfl rfl (fun hh=>uBP (by first|omega|(simp at hh ⊢; omega)))) ?_;refine uAl rfl rfl rfl rfl (uAM rfl gU rfl rfl rfl) ?_;refine uAQ rfl rfl rfl rfl rfl rfl rfl gU gU (uNj _ _ _ (uNd _ _)) rfl ?_;refine uAl rfl rfl rfl rfl (uAm rfl rfl gU gU rfl) ?_;refine uA2 (by kernel_rfl) ?_;refine uAk (s:=⟨[(1,_,_),(3,_,_),(5,_,_),(6,_,_),(74,_,_)],[(.l 1,_)],[],[]⟩) (uAj (⟨sx rfl,sx rfl,sx rfl,sx rfl,sx rfl,trivial⟩) (⟨sx rfl,trivial⟩) trivial) ?_;refine uAo rfl (fun hc4=>?_) (fun hc4=>?_)
    ·try simp only [nn,uAi,uAC,T.rows_len,Gl.rows_len,Fs.rows_len,Sp.rows_len] at hc4
     have h5:=(uE1 _ _).1 hc4
     have he : dclE n.roles ((uBa n).take i) ((uBa n).getD i [],o)=5:=by rw[dclE,if_neg n1,if_neg n2,if_pos h5]
     have hh:=uDg hx (by rw[he]; simp)
     rw[hd,he] at hh
     refine uAd (uAb ?_);refine uAa rfl rfl rfl (uAe rfl gU) ?_;refine uAf ?_;refine uAq ?_
     repeat(first|refine tR ?_|refine bR ?_)
     refine uAu rfl ?_ trivial
     (rw[hh]; rfl)
    ·try simp only [nn,uAi,uAC,T.rows_len,Gl.rows_len,Fs.rows_len,Sp.rows_len] at hc4
     have h5:=(uDt ((uBa n).take i) ((uBa n).getD i [])).1 (by omega)
     have n3 : ¬((uBa n).take i).contains ((uBa n).getD i [])=true:=by rw[h5]; simp
     refine uAp ?_;refine uAd ?_;refine awp_drawn' (by kernel_rfl) ?_;refine uAl rfl rfl rfl rfl (uAc rfl gU) ?_;refine uAl rfl rfl rfl rfl (uAc rfl gU) ?_;refine uAl rfl rfl rfl rfl (uAg rfl gU rfl rfl) ?_;refine uA5 rfl rfl rfl rfl rfl rfl rfl (fun hh=>hh) rfl rfl rfl rfl ?_;refine uAl rfl rfl rfl rfl (uAg rfl gU rfl rfl) ?_;refine uA5 rfl rfl rfl rfl rfl rfl rfl (fun hh=>hh) rfl rfl rfl rfl ?_;refine uAl rfl rfl rfl rfl (uAc rfl gU) ?_;refine uAl rfl rfl rfl rfl (uAg rfl gU rfl rfl) ?_;refine uA5 rfl rfl rfl rfl rfl rfl rfl (fun hh=>hh) rfl rfl rfl rfl ?_;refine uAl rfl rfl rfl rfl (uA7 rfl (fun hh=>hh) rfl rfl) ?_;refine uAl rfl rfl rfl rfl (uAz rfl rfl (fun hh=>hh) (fun hh=>hh) rfl (IntWalk.i64_in _ (by omega))) ?_;refine uAl rfl rfl rfl rfl (uGJ (j:=i - n.roles.length) rfl rfl (by first|exact fun hh=>hh|exact fun _=>rfl|exact fun hh=>gL hh|exact fun hh=>gL (gL hh)|(intro hh; simp_all)) (by first|exact fun hh=>hh|exact fun _=>rfl|exact fun hh=>gL hh|exact fun hh=>gL (gL hh)|(intro hh; simp_all)) rfl rfl (fun hh=>by simp at hh; omega) (fun hh=>Fs.rows_at (by simp at hh; omega))) ?_;refine uAl rfl rfl rfl rfl (uAU rfl (fun hh=>hh) rfl rfl) ?_;refine uAl rfl rfl rfl rfl (uAM rfl (fun hh=>hh) rfl rfl rfl) ?_;refine uAQ rfl rfl rfl rfl rfl rfl rfl gU (fun hh=>gA ((fun hh=>hh) hh) (gA ((fun hh=>hh) hh) (rfl))) (uCQ _ _) rfl ?_
     refine uAl rfl rfl rfl rfl (uAm rfl rfl (fun hh=>hh) gU rfl) ?_;refine uAl rfl rfl rfl rfl (uAJ rfl rfl gU (fun _ hi=>gP rfl hi)) ?_;refine uA2 (by kernel_rfl) ?_;refine uAk (s:=⟨[(1,_,_),(3,_,_),(5,_,_),(91,_,_)],[(.l 1,_)],[],[]⟩) (uAj (⟨sx rfl,sx rfl,sx rfl,sx rfl,trivial⟩) (⟨sx rfl,trivial⟩) trivial) ?_;refine uAo rfl (fun hc5=>?_) (fun hc5=>?_)
     ·try simp only [nn,uAi,uAC,T.rows_len,Gl.rows_len,Fs.rows_len,Sp.rows_len] at hc5
      have hr:=(uDt _ _).1 hc5.2
      rw[if_pos (by omega)] at ho
      have he : dclE n.roles ((uBa n).take i) ((uBa n).getD i [],o)=13:=by rw[dclE,if_neg n1,if_neg n2,if_neg n3,ho]; exact if_neg (by rw[hr]; simp)
      have hh:=uDg hx (by rw[he]; simp)
      rw[hd,he] at hh
      refine uAd (uAb ?_);refine uAa rfl rfl rfl (uAe rfl gU) ?_;refine uAf ?_;refine uAq ?_
      repeat(first|refine tR ?_|refine bR ?_)
      refine uAu rfl ?_ trivial
      (rw[hh]; rfl)
     ·try simp only [nn,uAi,uAC,T.rows_len,Gl.rows_len,Fs.rows_len,Sp.rows_len] at hc5
      have he : dclE n.roles ((uBa n).take i) ((uBa n).getD i [],o)=0:=by
       rw[dclE,if_neg n1,if_neg n2,if_neg n3]
       split at ho
       ·rename_i q
        have hr:=(uE1 n.roles (n.fresh.getD (i - n.roles.length) default).role).1 (by omega)
        rw[ho]; exact if_pos hr
       ·rw[ho]
      have hh:=uGT hx he
      rw[hd] at hh
      refine uAp ?_;refine uAb ?_;refine uAa rfl rfl rfl (uAc rfl gU) ?_;refine uAa rfl rfl rfl (uAz rfl rfl gU gU rfl (IntWalk.i64_in _ (by omega))) ?_;refine uAa rfl rfl rfl (uAe rfl gU) ?_;refine uAf ?_;refine ⟨i + 1,?_,?_,uAj (⟨⟨_,rfl,?_⟩,⟨sx rfl,sx rfl,trivial⟩⟩) (⟨sx rfl,trivial⟩) trivial⟩
      all_goals (first|rfl|omega|exact ⟨by omega,by rw[uBk (d:=[]) hlt]; exact hh.symm⟩)
 ·try simp only [nn,uAi,uAC,T.rows_len,Gl.rows_len,Fs.rows_len,Sp.rows_len] at hc
  rw[List.drop_of_length_le (by have := congrArg List.length (uHl n); rw[List.length_map] at this; omega)] at hd
  refine uAL ?_
  repeat(first|refine uAE ?_|refine uAF ?_|refine uAB rfl ?_)
  refine uAd (uAb ?_);refine uAa rfl rfl rfl (uAe rfl gU) ?_;refine uAf ?_;refine uAq ?_
  repeat(first|refine tR ?_|refine bR ?_)
  refine uAu rfl ?_ trivial
  (rw[← hd]; rfl)
set_option maxHeartbeats 4000000 in
theorem uKC (n : Nar) (hs : ∀ s ∈ n.steps,s.msg.size≤900000) (hg : ∀ g ∈ n.goals,T.sizes g.data≤900000) : Ctr sys 14 [xn n] [] (xii (chkE uAN n)) none []:=by
 have l5:=Sp.rows_len n.steps
 have l6:=Gl.rows_len n.goals
 refine uAA Tryz.func14 rfl rfl rfl rfl rfl rfl ?_;refine uAd (uAb ?_);refine uAs rfl (uAH rfl rfl rfl rfl) ?_;refine uAa rfl rfl rfl (uAe rfl gU) ?_;refine uAa rfl rfl rfl (uAe rfl gU) ?_;refine uAf ?_;refine uAd ?_;refine uAd (uAb ?_);refine uAa rfl rfl rfl (uAn rfl gU rfl rfl rfl rfl rfl) ?_;refine uAx rfl rfl rfl rfl rfl rfl gU gU (uGv _ hs hg) rfl ?_;refine uAa rfl rfl rfl (uAe rfl gU) ?_;refine uAf ?_;refine uAk (s:=⟨[(1,_,_),(4,_,_)],[(.l 1,_)],[],[]⟩) (uAj (⟨sx rfl,sx rfl,trivial⟩) (⟨sx rfl,trivial⟩) trivial) ?_;refine uAd (uAb ?_);refine uAa rfl rfl rfl (uAc rfl gU) ?_;refine uAa rfl rfl rfl (uAm rfl rfl gU gU rfl) ?_;refine uAf ?_;refine uAo rfl (fun hc=>?_) (fun hc=>?_)
 ·try simp only [nn,uAi,uAC,T.rows_len,Gl.rows_len,Fs.rows_len,Sp.rows_len] at hc
  refine uAd (uAb ?_);refine uAa rfl rfl rfl (uAc rfl gU) ?_;refine uAa rfl rfl rfl (uAe rfl gU) ?_;refine uAa rfl rfl rfl (uAe rfl gU) ?_;refine uAf ?_;refine uAq ?_
  repeat(first|refine tR ?_|refine bR ?_)
  refine uAu rfl ?_ trivial
  (rw[chkE,if_pos hc]; rfl)
 ·try simp only [nn,uAi,uAC,T.rows_len,Gl.rows_len,Fs.rows_len,Sp.rows_len] at hc
  have hok:=uI8 (n:=n) hc
  have b1 : n.roles.length≤900000 := by have := hok.r2; omega
  have b2 : n.fresh.length≤900000 := by have := hok.f2; omega
  have b3 : n.tags.length≤900000 := by have := hok.t2; omega
  have e1 : chkE uAN n=if decE n≠0 then (0,decE n) else useE n:=by rw[chkE,if_neg (by simpa using hc)]
  rw[e1]
  refine uAp ?_;refine uAd ?_;refine uAd (uAb ?_);refine uAa rfl rfl rfl (uAn rfl gU rfl rfl rfl rfl rfl) ?_;refine uAx rfl rfl rfl rfl rfl rfl gU gU (uHJ n b1 b2 b3) rfl ?_;refine uAa rfl rfl rfl (uAe rfl gU) ?_;refine uAf ?_;refine uAk (s:=⟨[(1,_,_),(5,_,_)],[(.l 1,_)],[],[]⟩) (uAj (⟨sx rfl,sx rfl,trivial⟩) (⟨sx rfl,trivial⟩) trivial) ?_;refine uAd (uAb ?_);refine uAa rfl rfl rfl (uAc rfl gU) ?_;refine uAa rfl rfl rfl (uAm rfl rfl gU gU rfl) ?_;refine uAf ?_;refine uAo rfl (fun hc2=>?_) (fun hc2=>?_)
  ·try simp only [nn,uAi,uAC,T.rows_len,Gl.rows_len,Fs.rows_len,Sp.rows_len] at hc2
   refine uAd (uAb ?_);refine uAa rfl rfl rfl (uAc rfl gU) ?_;refine uAa rfl rfl rfl (uAe rfl gU) ?_;refine uAa rfl rfl rfl (uAe rfl gU) ?_;refine uAf ?_;refine uAq ?_
   repeat(first|refine tR ?_|refine bR ?_)
   refine uAu rfl ?_ trivial
   (rw[if_pos hc2]; rfl)
  ·try simp only [nn,uAi,uAC,T.rows_len,Gl.rows_len,Fs.rows_len,Sp.rows_len] at hc2
   rw[if_neg (by simpa using hc2)]
   refine uAp ?_;refine uAd ?_;refine uAd (uAb ?_);refine uAa rfl rfl rfl (uAe rfl gU) ?_;refine uAf ?_;refine uAt ?_;refine uAW (ι:=Nat) { t:=[(1,_,_)],bx:=[(.l 1,_)],ow:=[] } (fun k=>[(6,true,xi (k : Int))]) (fun k=>[]) (fun k=>k≤n.steps.length ∧ ∀ j,j < k→uDc n (n.steps.getD j default)=0) (fun k=>n.steps.length - k) (0) (⟨by omega,fun j hj=>by omega⟩) (uAj (⟨sx rfl,sx rfl,trivial⟩) (⟨sx rfl,trivial⟩) trivial) ?_
   intro k hoka
   dsimp only [List.cons_append,List.nil_append]
   obtain ⟨hk,hi⟩:=hoka
   refine uAd ?_;refine uAd (uAb ?_);refine uAa rfl rfl rfl (uAc rfl gU) ?_;refine uAa rfl rfl rfl (uAg rfl gU rfl rfl) ?_;refine uAa rfl rfl rfl (uAh rfl gU rfl rfl rfl rfl) ?_;refine uAI rfl rfl rfl rfl rfl gU rfl rfl ?_ (fun hh=>by simp at hh); intro hlen;refine uAa rfl rfl rfl (uAm rfl rfl gU gU rfl) ?_;refine uAf ?_;refine uAk (s:=⟨[(1,_,_),(6,_,_),(24,_,_)],[(.l 1,_)],[],[]⟩) (uAj (⟨sx rfl,sx rfl,sx rfl,trivial⟩) (⟨sx rfl,trivial⟩) trivial) ?_;refine uAo rfl (fun hc3=>?_) (fun hc3=>?_)
   ·try simp only [nn,uAi,uAC,T.rows_len,Gl.rows_len,Fs.rows_len,Sp.rows_len] at hc3
    have hlt : k < n.steps.length:=by omega
    have hks:=hs _ (uBz (d:=default) hlt)
    refine uAp ?_;refine uAd ?_;refine uAt ?_;refine uAd ?_;refine awp_drawn' (by kernel_rfl) ?_;refine uAG rfl rfl rfl rfl rfl rfl rfl gU rfl rfl rfl rfl rfl ?_;refine uAl rfl rfl rfl rfl (uAg rfl gU rfl rfl) ?_;refine uA5 rfl rfl rfl rfl rfl rfl rfl gU rfl rfl rfl rfl ?_;refine uAl rfl rfl rfl rfl (uAc rfl gU) ?_;refine uAl rfl rfl rfl rfl (uAr rfl rfl gU gU rfl rfl rfl (fun hh=>Sp.rows_at (by first|omega|(simp at hh ⊢; omega)))) ?_;refine uAl rfl rfl rfl rfl (uAD rfl gU rfl rfl rfl rfl) ?_;refine uAQ rfl rfl rfl rfl rfl rfl rfl gU gU (uJf n (n.steps.getD k default) b1 b2 b3 hks) rfl ?_;refine uAl rfl rfl rfl rfl (uAe rfl gU) ?_;refine uA2 (by kernel_rfl) ?_;refine uAk (s:=⟨[(1,_,_),(6,_,_),(7,_,_)],[(.l 1,_)],[],[]⟩) (uAj (⟨sx rfl,sx rfl,sx rfl,trivial⟩) (⟨sx rfl,trivial⟩) trivial) ?_;refine uAd (uAb ?_);refine uAa rfl rfl rfl (uAc rfl gU) ?_;refine uAa rfl rfl rfl (uAm rfl rfl gU gU rfl) ?_;refine uAf ?_;refine uAo rfl (fun hc4=>?_) (fun hc4=>?_)
    ·try simp only [nn,uAi,uAC,T.rows_len,Gl.rows_len,Fs.rows_len,Sp.rows_len] at hc4
     have hh:=uGP (ln:=Sp.line) hlt hi hc4
     have hu : useE n=((n.steps.getD k default).line,uDc n (n.steps.getD k default)):=by rw[useE,if_pos (by rw[hh]; exact hc4),hh]
     rw[hu]
     refine uAd (uAb ?_);refine uAa rfl rfl rfl (uAg rfl gU rfl rfl) ?_;refine uAa rfl rfl rfl (uAh rfl gU rfl rfl rfl rfl) ?_;refine uAa rfl rfl rfl (uAc rfl gU) ?_;refine uAa rfl rfl rfl (uAr rfl rfl gU gU rfl rfl rfl (fun hh=>Sp.rows_at (by first|omega|(simp at hh ⊢; omega)))) ?_;refine uAa rfl rfl rfl (uAU rfl gU rfl rfl) ?_;refine uAa rfl rfl rfl (uAM rfl gU rfl rfl rfl) ?_;refine uAa rfl rfl rfl (uAc rfl gU) ?_;refine uAa rfl rfl rfl (uAe rfl gU) ?_;refine uAa rfl rfl rfl (uAe rfl gU) ?_;refine uAf ?_;refine uAq ?_
     repeat(first|refine tR ?_|refine bR ?_)
     refine uAu rfl ?_ trivial
     rfl
    ·try simp only [nn,uAi,uAC,T.rows_len,Gl.rows_len,Fs.rows_len,Sp.rows_len] at hc4
     refine uAp ?_;refine uAb ?_;refine uAa rfl rfl rfl (uAc rfl gU) ?_;refine uAa rfl rfl rfl (uAz rfl rfl gU gU rfl (IntWalk.i64_in _ (by omega))) ?_;refine uAa rfl rfl rfl (uAe rfl gU) ?_;refine uAf ?_;refine ⟨k + 1,?_,?_,uAj (⟨⟨_,rfl,?_⟩,⟨sx rfl,trivial⟩⟩) (⟨sx rfl,trivial⟩) trivial⟩
     all_goals (first|rfl|omega|exact ⟨by omega,uCE hi hc4⟩)
   ·try simp only [nn,uAi,uAC,T.rows_len,Gl.rows_len,Fs.rows_len,Sp.rows_len] at hc3
    have hke : k=n.steps.length:=by omega
    subst hke
    have hus : useE n=lnE (uCy n) Gl.line n.goals:=by rw[useE,if_neg (by rw[uFD (ln:=Sp.line) hi]; simp)]
    rw[hus]
    refine uAL ?_
    repeat(first|refine uAE ?_|refine uAF ?_|refine uAB rfl ?_)
    refine uAd ?_;refine uAd (uAb ?_);refine uAa rfl rfl rfl (uAe rfl gU) ?_;refine uAf ?_;refine uAt ?_;refine uAW (ι:=Nat) { t:=[(1,_,_)],bx:=[(.l 1,_)],ow:=[] } (fun j=>[(8,true,xi (j : Int))]) (fun j=>[]) (fun j=>j≤n.goals.length ∧ ∀ i,i < j→uCy n (n.goals.getD i default)=0) (fun j=>n.goals.length - j) (0) (⟨by omega,fun j hj=>by omega⟩) (uAj (⟨sx rfl,sx rfl,trivial⟩) (⟨sx rfl,trivial⟩) trivial) ?_
    intro j hokb
    dsimp only [List.cons_append,List.nil_append]
    obtain ⟨hj,hi2⟩:=hokb
    refine uAd ?_;refine uAd (uAb ?_);refine uAa rfl rfl rfl (uAc rfl gU) ?_;refine uAa rfl rfl rfl (uAg rfl gU rfl rfl) ?_;refine uAa rfl rfl rfl (uAh rfl gU rfl rfl rfl rfl) ?_;refine uAI rfl rfl rfl rfl rfl gU rfl rfl ?_ (fun hh=>by simp at hh); intro hlen;refine uAa rfl rfl rfl (uAm rfl rfl gU gU rfl) ?_;refine uAf ?_;refine uAk (s:=⟨[(1,_,_),(8,_,_),(47,_,_)],[(.l 1,_)],[],[]⟩) (uAj (⟨sx rfl,sx rfl,sx rfl,trivial⟩) (⟨sx rfl,trivial⟩) trivial) ?_;refine uAo rfl (fun hc4=>?_) (fun hc4=>?_)
    ·try simp only [nn,uAi,uAC,T.rows_len,Gl.rows_len,Fs.rows_len,Sp.rows_len] at hc4
     have hlt : j < n.goals.length:=by omega
     have hks:=hg _ (uBz (d:=default) hlt)
     refine uAp ?_;refine uAd ?_;refine uAt ?_;refine uAd ?_;refine awp_drawn' (by kernel_rfl) ?_;refine uAG rfl rfl rfl rfl rfl rfl rfl gU rfl rfl rfl rfl rfl ?_;refine uAl rfl rfl rfl rfl (uAg rfl gU rfl rfl) ?_;refine uA5 rfl rfl rfl rfl rfl rfl rfl gU rfl rfl rfl rfl ?_;refine uAl rfl rfl rfl rfl (uAc rfl gU) ?_;refine uAl rfl rfl rfl rfl (uAr rfl rfl gU gU rfl rfl rfl (fun hh=>Gl.rows_at (by first|omega|(simp at hh ⊢; omega)))) ?_;refine uAl rfl rfl rfl rfl (uAD rfl gU rfl rfl rfl rfl) ?_;refine uAQ rfl rfl rfl rfl rfl rfl rfl gU gU (uJu n (n.goals.getD j default) b1 b2 b3 hks) rfl ?_;refine uAl rfl rfl rfl rfl (uAe rfl gU) ?_;refine uA2 (by kernel_rfl) ?_;refine uAk (s:=⟨[(1,_,_),(8,_,_),(9,_,_)],[(.l 1,_)],[],[]⟩) (uAj (⟨sx rfl,sx rfl,sx rfl,trivial⟩) (⟨sx rfl,trivial⟩) trivial) ?_;refine uAd (uAb ?_);refine uAa rfl rfl rfl (uAc rfl gU) ?_;refine uAa rfl rfl rfl (uAm rfl rfl gU gU rfl) ?_;refine uAf ?_;refine uAo rfl (fun hc5=>?_) (fun hc5=>?_)
     ·try simp only [nn,uAi,uAC,T.rows_len,Gl.rows_len,Fs.rows_len,Sp.rows_len] at hc5
      rw[uGP (ln:=Gl.line) hlt hi2 hc5]
      refine uAd (uAb ?_);refine uAa rfl rfl rfl (uAg rfl gU rfl rfl) ?_;refine uAa rfl rfl rfl (uAh rfl gU rfl rfl rfl rfl) ?_;refine uAa rfl rfl rfl (uAc rfl gU) ?_;refine uAa rfl rfl rfl (uAr rfl rfl gU gU rfl rfl rfl (fun hh=>Gl.rows_at (by first|omega|(simp at hh ⊢; omega)))) ?_;refine uAa rfl rfl rfl (uAU rfl gU rfl rfl) ?_;refine uAa rfl rfl rfl (uAM rfl gU rfl rfl rfl) ?_;refine uAa rfl rfl rfl (uAc rfl gU) ?_;refine uAa rfl rfl rfl (uAe rfl gU) ?_;refine uAa rfl rfl rfl (uAe rfl gU) ?_;refine uAf ?_;refine uAq ?_
      repeat(first|refine tR ?_|refine bR ?_)
      refine uAu rfl ?_ trivial
      rfl
     ·try simp only [nn,uAi,uAC,T.rows_len,Gl.rows_len,Fs.rows_len,Sp.rows_len] at hc5
      refine uAp ?_;refine uAb ?_;refine uAa rfl rfl rfl (uAc rfl gU) ?_;refine uAa rfl rfl rfl (uAz rfl rfl gU gU rfl (IntWalk.i64_in _ (by omega))) ?_;refine uAa rfl rfl rfl (uAe rfl gU) ?_;refine uAf ?_;refine ⟨j + 1,?_,?_,uAj (⟨⟨_,rfl,?_⟩,⟨sx rfl,trivial⟩⟩) (⟨sx rfl,trivial⟩) trivial⟩
      all_goals (first|rfl|omega|exact ⟨by omega,uCE hi2 hc5⟩)
    ·try simp only [nn,uAi,uAC,T.rows_len,Gl.rows_len,Fs.rows_len,Sp.rows_len] at hc4
     have hje : j=n.goals.length:=by omega
     subst hje
     rw[uFD (ln:=Gl.line) hi2]
     refine uAL ?_
     repeat(first|refine uAE ?_|refine uAF ?_|refine uAB rfl ?_)
     refine uAd (uAb ?_);refine uAa rfl rfl rfl (uAe rfl gU) ?_;refine uAa rfl rfl rfl (uAe rfl gU) ?_;refine uAf ?_;refine uAq ?_
     repeat(first|refine tR ?_|refine bR ?_)
     refine uAu rfl ?_ trivial
     rfl
namespace T
def cmp0 (a b : T) : Int :=
 if uBZ a.size b.size≠0 then uBZ a.size b.size else if uBZ a.kind b.kind≠0 then uBZ a.kind b.kind
 else if Op.bytesLess a.name b.name=true then -1 else if (!(Op.bytesLess a.name b.name || a.name == b.name))=true then 1
 else if uBZ a.sort b.sort≠0 then uBZ a.sort b.sort else uBZ a.kids.length b.kids.length
mutual
def cmp : T→T→Int
 | mk k n s ks,b=>if cmp0 (mk k n s ks) b≠0 then cmp0 (mk k n s ks) b else cmps ks b.kids
def cmps : List T→List T→Int
 | [],_=>0
 | _ :: _,[]=>0
 | x :: xs,y :: ys=>if cmp x y≠0 then cmp x y else cmps xs ys
end
theorem cmp_eq (a b : T) : a.cmp b=if cmp0 a b≠0 then cmp0 a b else cmps a.kids b.kids:=by cases a; rw[cmp]; rfl
theorem cmps_hit : ∀ (a b : List T) (k : Nat) (x y : T),a[k]? = some x→b[k]? = some y→cmps (a.take k) (b.take k)=0→x.cmp y≠0→cmps a b=x.cmp y
 | [],b,k,x,y,h,_,_,_=>by simp at h
 | _ :: _,[],k,x,y,_,h,_,_=>by simp at h
 | a :: ar,b :: br,0,x,y,h,h',_,hx=>by simp at h h'; subst h; subst h'; rw[cmps,if_pos hx]
 | a :: ar,b :: br,k + 1,x,y,h,h',h0,hx=>by
  rw[List.take_succ_cons,List.take_succ_cons,cmps] at h0
  rw[cmps]
  by_cases ht : a.cmp b=0
  ·rw[if_neg (by simpa using ht)] at h0
   rw[if_neg (by simpa using ht)]
   exact cmps_hit ar br k x y (by simpa using h) (by simpa using h') h0 hx
  ·rw[if_pos ht] at h0; exact absurd h0 ht
theorem cmps_step : ∀ (a b : List T) (k : Nat) (x y : T),a[k]? = some x→b[k]? = some y→cmps (a.take k) (b.take k)=0→x.cmp y=0→cmps (a.take (k + 1)) (b.take (k + 1))=0
 | [],b,k,x,y,h,_,_,_=>by simp at h
 | _ :: _,[],k,x,y,_,h,_,_=>by simp at h
 | a :: ar,b :: br,0,x,y,h,h',_,hx=>by simp at h h'; subst h; subst h'; simp [cmps,hx]
 | a :: ar,b :: br,k + 1,x,y,h,h',h0,hx=>by
  rw[List.take_succ_cons,List.take_succ_cons,cmps] at h0
  rw[List.take_succ_cons,List.take_succ_cons,cmps]
  by_cases ht : a.cmp b=0
  ·rw[if_neg (by simpa using ht)] at h0
   rw[if_neg (by simpa using ht)]
   exact cmps_step ar br k x y (by simpa using h) (by simpa using h') h0 hx
  ·rw[if_pos ht] at h0; exact absurd h0 ht
end T
theorem uKg {a b : Int} (h : uBZ a b=0) : a=b:=by
 unfold uBZ at h; split at h
 ·omega
 ·split at h <;> omega
def uQG (a b : T) (k : Nat) : St:={ t:=[(2,true, .v (.ptr (.l 2) 0)),(3,true, .v (.ptr (.l 3) 0)),(9,true,xi k)],bx:=[(.l 2,a.cells),(.l 3,b.cells)],ow:=[] }
theorem uJs : ∀ (n : Nat) (a b : T),a.size≤n→n≤2000000→b.size≤2000000→Ctr sys 89 [xm a,xm b] [] (xi (a.cmp b)) none []:=by
 intro n
 induction n with
 | zero=>intro t _ h; have := t.size_pos; omega
 | succ n ih =>
  intro a b ha hn hb
  have hls:=T.len_sizes a.kids
  have hse:=a.size_eq
  refine uAA Tryz.func89 rfl rfl rfl rfl rfl rfl ?_;refine uAd (uAb ?_);refine uAs rfl (uAH rfl rfl rfl rfl) ?_;refine uAs rfl (uAH rfl rfl rfl rfl) ?_;refine uAa rfl rfl rfl (uAe rfl gU) ?_;refine uAf ?_;refine uAd ?_;refine uAd ?_;refine awp_drawn' (by kernel_rfl) ?_;refine uAG rfl rfl rfl rfl rfl rfl rfl gU rfl rfl rfl rfl rfl ?_;refine uAQ rfl rfl rfl rfl rfl rfl rfl gU gU (uE6 _ a (Nat.le_refl _) (by omega)) rfl ?_;refine uAG rfl rfl rfl rfl rfl rfl rfl gU rfl rfl rfl rfl rfl ?_;refine uAQ rfl rfl rfl rfl rfl rfl rfl gU gU (uE6 _ b (Nat.le_refl _) hb) rfl ?_;refine uAQ rfl rfl rfl rfl rfl rfl rfl gU gU (uE0 _ _) rfl ?_;refine uAl rfl rfl rfl rfl (uAe rfl gU) ?_;refine uA2 (by kernel_rfl) ?_;refine uAk (s:=⟨[(2,_,_),(3,_,_),(5,_,_)],[(.l 2,_),(.l 3,_)],[],[]⟩) (uAj (⟨sx rfl,sx rfl,sx rfl,trivial⟩) (⟨sx rfl,sx rfl,trivial⟩) trivial) ?_;refine uAd (uAb ?_);refine uAa rfl rfl rfl (uAc rfl gU) ?_;refine uAa rfl rfl rfl (uAm rfl rfl gU gU rfl) ?_;refine uAf ?_;refine uAo rfl (fun hc=>?_) (fun hc=>?_)
  ·refine uAd (uAb ?_)
   refine uAa rfl rfl rfl (uAc rfl gU) ?_;refine uAa rfl rfl rfl (uAe rfl gU) ?_;refine uAf ?_;refine uAq ?_
   repeat(first|refine tR ?_|refine bR ?_)
   refine uAu rfl ?_ trivial;refine uBc ?_
   rw[T.cmp_eq]
   have h0 : T.cmp0 a b=uBZ a.size b.size:=by rw[T.cmp0,if_pos (by simpa using hc)]
   rw[h0,if_pos (by simpa using hc)]
  ·have e1 : ¬ uBZ (a.size : Int) (b.size : Int)≠0:=by simpa using hc
   refine uAp ?_;refine uAd ?_;refine uAd (uAb ?_);refine uAa rfl rfl rfl (uAg rfl gU rfl rfl) ?_;refine uAa rfl rfl rfl (uAh rfl gU rfl rfl rfl rfl) ?_;refine uAa rfl rfl rfl (uAg rfl gU rfl rfl) ?_;refine uAa rfl rfl rfl (uAh rfl gU rfl rfl rfl rfl) ?_;refine uAx rfl rfl rfl rfl rfl rfl gU gU (uE0 _ _) rfl ?_;refine uAa rfl rfl rfl (uAe rfl gU) ?_;refine uAf ?_;refine uAk (s:=⟨[(2,_,_),(3,_,_),(6,_,_)],[(.l 2,_),(.l 3,_)],[],[]⟩) (uAj (⟨sx rfl,sx rfl,sx rfl,trivial⟩) (⟨sx rfl,sx rfl,trivial⟩) trivial) ?_;refine uAd (uAb ?_);refine uAa rfl rfl rfl (uAc rfl gU) ?_;refine uAa rfl rfl rfl (uAm rfl rfl gU gU rfl) ?_;refine uAf ?_;refine uAo rfl (fun hc2=>?_) (fun hc2=>?_)
   ·refine uAd (uAb ?_)
    refine uAa rfl rfl rfl (uAc rfl gU) ?_;refine uAa rfl rfl rfl (uAe rfl gU) ?_;refine uAf ?_;refine uAq ?_
    repeat(first|refine tR ?_|refine bR ?_)
    refine uAu rfl ?_ trivial;refine uBc ?_
    have h0 : T.cmp0 a b=uBZ a.kind b.kind:=by rw[T.cmp0,if_neg e1,if_pos (by simpa using hc2)]
    rw[T.cmp_eq,h0,if_pos (by simpa using hc2)]
   ·have e2 : ¬ uBZ a.kind b.kind≠0:=by simpa using hc2
    refine uAp ?_;refine uAd ?_;refine uAd (uAb ?_);refine uAa rfl rfl rfl (uAg rfl gU rfl rfl) ?_;refine uAa rfl rfl rfl (uAh rfl gU rfl rfl rfl rfl) ?_;refine uAa rfl rfl rfl (uAg rfl gU rfl rfl) ?_;refine uAa rfl rfl rfl (uAh rfl gU rfl rfl rfl rfl) ?_;refine uAa rfl rfl rfl (uA3 rfl rfl gU gU rfl) ?_;refine uAf ?_;refine uAk (s:=⟨[(2,_,_),(3,_,_),(31,_,_)],[(.l 2,_),(.l 3,_)],[],[]⟩) (uAj (⟨sx rfl,sx rfl,sx rfl,trivial⟩) (⟨sx rfl,sx rfl,trivial⟩) trivial) ?_;refine uAo rfl (fun hc3=>?_) (fun hc3=>?_)
    ·refine uAd (uAb ?_)
     refine uAa rfl rfl rfl (uAe rfl gU) ?_;refine uAf ?_;refine uAq ?_
     repeat(first|refine tR ?_|refine bR ?_)
     refine uAu rfl ?_ trivial;refine uBc ?_
     have h0 : T.cmp0 a b = -1:=by rw[T.cmp0,if_neg e1,if_neg e2,if_pos hc3]
     rw[T.cmp_eq,h0]; rfl
    ·refine uAp ?_
     refine uAd ?_;refine uAd (uAb ?_);refine uAa rfl rfl rfl (uAg rfl gU rfl rfl) ?_;refine uAa rfl rfl rfl (uAh rfl gU rfl rfl rfl rfl) ?_;refine uAa rfl rfl rfl (uAg rfl gU rfl rfl) ?_;refine uAa rfl rfl rfl (uAh rfl gU rfl rfl rfl rfl) ?_;refine uAa rfl rfl rfl (uA3 rfl rfl gU gU rfl) ?_;refine uAf ?_;refine uAk (s:=⟨[(2,_,_),(3,_,_),(36,_,_)],[(.l 2,_),(.l 3,_)],[],[]⟩) (uAj (⟨sx rfl,sx rfl,sx rfl,trivial⟩) (⟨sx rfl,sx rfl,trivial⟩) trivial) ?_;refine uAo rfl (fun hc4=>?_) (fun hc4=>?_)
     ·refine uAd (uAb ?_)
      refine uAa rfl rfl rfl (uAe rfl gU) ?_;refine uAf ?_;refine uAq ?_
      repeat(first|refine tR ?_|refine bR ?_)
      refine uAu rfl ?_ trivial;refine uBc ?_
      have h0 : T.cmp0 a b=1:=by rw[T.cmp0,if_neg e1,if_neg e2,if_neg (by rw[hc3]; simp),if_pos hc4]
      rw[T.cmp_eq,h0]; rfl
     ·refine uAp ?_
      refine uAd ?_;refine uAd (uAb ?_);refine uAa rfl rfl rfl (uAg rfl gU rfl rfl) ?_;refine uAa rfl rfl rfl (uAh rfl gU rfl rfl rfl rfl) ?_;refine uAa rfl rfl rfl (uAg rfl gU rfl rfl) ?_;refine uAa rfl rfl rfl (uAh rfl gU rfl rfl rfl rfl) ?_;refine uAx rfl rfl rfl rfl rfl rfl gU gU (uE0 _ _) rfl ?_;refine uAa rfl rfl rfl (uAe rfl gU) ?_;refine uAf ?_;refine uAk (s:=⟨[(2,_,_),(3,_,_),(7,_,_)],[(.l 2,_),(.l 3,_)],[],[]⟩) (uAj (⟨sx rfl,sx rfl,sx rfl,trivial⟩) (⟨sx rfl,sx rfl,trivial⟩) trivial) ?_;refine uAd (uAb ?_);refine uAa rfl rfl rfl (uAc rfl gU) ?_;refine uAa rfl rfl rfl (uAm rfl rfl gU gU rfl) ?_;refine uAf ?_;refine uAo rfl (fun hc5=>?_) (fun hc5=>?_)
      ·refine uAd (uAb ?_)
       refine uAa rfl rfl rfl (uAc rfl gU) ?_;refine uAa rfl rfl rfl (uAe rfl gU) ?_;refine uAf ?_;refine uAq ?_
       repeat(first|refine tR ?_|refine bR ?_)
       refine uAu rfl ?_ trivial;refine uBc ?_
       have h0 : T.cmp0 a b=uBZ a.sort b.sort:=by rw[T.cmp0,if_neg e1,if_neg e2,if_neg (by rw[hc3]; simp),if_neg (by rw[hc4]; simp),if_pos (by simpa using hc5)]
       rw[T.cmp_eq,h0,if_pos (by simpa using hc5)]
      ·have e5 : ¬ uBZ a.sort b.sort≠0:=by simpa using hc5
       have h0 : T.cmp0 a b=uBZ a.kids.length b.kids.length:=by rw[T.cmp0,if_neg e1,if_neg e2,if_neg (by rw[hc3]; simp),if_neg (by rw[hc4]; simp),if_neg e5]
       refine uAp ?_;refine uAd ?_;refine uAd (uAb ?_);refine uAa rfl rfl rfl (uAg rfl gU rfl rfl) ?_;refine uAa rfl rfl rfl (uAh rfl gU rfl rfl rfl rfl) ?_;refine uAI rfl rfl rfl rfl rfl gU rfl rfl ?_ (fun hh=>by simp at hh); intro hlen;refine uAa rfl rfl rfl (uAg rfl gU rfl rfl) ?_;refine uAa rfl rfl rfl (uAh rfl gU rfl rfl rfl rfl) ?_;refine uAI rfl rfl rfl rfl rfl gU rfl rfl ?_ (fun hh=>by simp at hh); intro hlen;refine uAx rfl rfl rfl rfl rfl rfl gU gU (uE0 _ _) rfl ?_;refine uAa rfl rfl rfl (uAe rfl gU) ?_;refine uAf ?_;refine uAk (s:=⟨[(2,_,_),(3,_,_),(8,_,_)],[(.l 2,_),(.l 3,_)],[],[]⟩) (uAj (⟨sx rfl,sx rfl,sx rfl,trivial⟩) (⟨sx rfl,sx rfl,trivial⟩) trivial) ?_;refine uAd (uAb ?_);refine uAa rfl rfl rfl (uAc rfl gU) ?_;refine uAa rfl rfl rfl (uAm rfl rfl gU gU rfl) ?_;refine uAf ?_;refine uAo rfl (fun hc6=>?_) (fun hc6=>?_)
       ·refine uAd (uAb ?_)
        refine uAa rfl rfl rfl (uAc rfl gU) ?_;refine uAa rfl rfl rfl (uAe rfl gU) ?_;refine uAf ?_;refine uAq ?_
        repeat(first|refine tR ?_|refine bR ?_)
        refine uAu rfl ?_ trivial;refine uBc ?_
        simp only [T.rows_len] at hc6 ⊢
        rw[T.cmp_eq,h0,if_pos (by simpa using hc6)]
       ·simp only [T.rows_len] at hc6
        have e6 : uBZ (a.kids.length : Int) (b.kids.length : Int)=0:=by simpa using hc6
        have hll:=uKg e6
        have hll' : a.kids.length=b.kids.length:=by omega
        have hC : a.cmp b=T.cmps a.kids b.kids:=by rw[T.cmp_eq,h0,if_neg (by simpa using e6)]
        refine uAp ?_;refine uAd ?_;refine uAd (uAb ?_);refine uAa rfl rfl rfl (uAe rfl gU) ?_;refine uAf ?_;refine uAt ?_;refine uCv (uQG a b) (fun k=>k≤a.kids.length∧T.cmps (a.kids.take k) (b.kids.take k)=0) (fun k=>a.kids.length - k) 0 ⟨Nat.zero_le _,by simp [T.cmps]⟩ ?_ ?_
        ·refine uAj ⟨⟨_,rfl,rfl⟩,⟨_,rfl,rfl⟩,⟨_,rfl,rfl⟩,trivial⟩ ⟨⟨_,rfl,rfl⟩,⟨_,rfl,rfl⟩,trivial⟩ trivial
        ·rintro k ⟨hk,hz⟩
         refine uAd ?_;refine uAd (uAb ?_);refine uAa rfl rfl rfl (uAc rfl gU) ?_;refine uAa rfl rfl rfl (uAg rfl gU rfl rfl) ?_;refine uAa rfl rfl rfl (uAh rfl gU rfl rfl rfl rfl) ?_;refine uAI rfl rfl rfl rfl rfl gU rfl rfl ?_ (fun hh=>by simp at hh); intro hlen;refine uAa rfl rfl rfl (uAm rfl rfl gU gU rfl) ?_;refine uAf ?_;refine uAk (s:=⟨[(2,_,_),(3,_,_),(9,_,_),(59,_,_)],[(.l 2,_),(.l 3,_)],[],[]⟩) (uAj (⟨sx rfl,sx rfl,sx rfl,sx rfl,trivial⟩) (⟨sx rfl,sx rfl,trivial⟩) trivial) ?_;refine uAo rfl (fun hc7=>?_) (fun hc7=>?_)
         ·rw[T.rows_len] at hc7
          have hlt : k < a.kids.length:=by simpa using hc7
          obtain ⟨x,hx⟩ : ∃ x,a.kids[k]? = some x:=⟨_,List.getElem?_eq_getElem hlt⟩
          obtain ⟨y,hy⟩ : ∃ y,b.kids[k]? = some y:=⟨_,List.getElem?_eq_getElem (by omega)⟩
          have q1:=T.size_kid hx
          have q2:=T.size_kid hy
          refine uAp ?_;refine uAd ?_;refine uAt ?_;refine uAd ?_;refine awp_drawn' (by kernel_rfl) ?_;refine uAl rfl rfl rfl rfl (uAg rfl gU rfl rfl) ?_;refine uA5 rfl rfl rfl rfl rfl rfl rfl gU rfl rfl rfl rfl ?_;refine uAl rfl rfl rfl rfl (uAc rfl gU) ?_;refine uAl rfl rfl rfl rfl (uAr rfl rfl gU gU rfl rfl rfl (fun _=>T.rows_get hx)) ?_;refine uAl rfl rfl rfl rfl (uAD rfl gU rfl rfl rfl rfl) ?_;refine uAl rfl rfl rfl rfl (uAg rfl gU rfl rfl) ?_;refine uA5 rfl rfl rfl rfl rfl rfl rfl gU rfl rfl rfl rfl ?_;refine uAl rfl rfl rfl rfl (uAc rfl gU) ?_;refine uAl rfl rfl rfl rfl (uAr rfl rfl gU gU rfl rfl rfl (fun _=>T.rows_get hy)) ?_;refine uAl rfl rfl rfl rfl (uAD rfl gU rfl rfl rfl rfl) ?_;refine uAQ rfl rfl rfl rfl rfl rfl rfl gU gU (ih x y (by omega) (by omega) (by omega)) rfl ?_;refine uAl rfl rfl rfl rfl (uAe rfl gU) ?_;refine uA2 (by kernel_rfl) ?_;refine uAk (s:=⟨[(2,_,_),(3,_,_),(9,_,_),(10,_,_)],[(.l 2,_),(.l 3,_)],[],[]⟩) (uAj (⟨sx rfl,sx rfl,sx rfl,sx rfl,trivial⟩) (⟨sx rfl,sx rfl,trivial⟩) trivial) ?_;refine uAd (uAb ?_);refine uAa rfl rfl rfl (uAc rfl gU) ?_;refine uAa rfl rfl rfl (uAm rfl rfl gU gU rfl) ?_;refine uAf ?_;refine uAo rfl (fun hc8=>?_) (fun hc8=>?_)
          ·refine uAd (uAb ?_)
           refine uAa rfl rfl rfl (uAc rfl gU) ?_;refine uAa rfl rfl rfl (uAe rfl gU) ?_;refine uAf ?_;refine uAq ?_
           repeat(first|refine tR ?_|refine bR ?_)
           refine uAu rfl ?_ trivial;exact uBc (by rw[hC,T.cmps_hit _ _ _ _ _ hx hy hz (by simpa using hc8)])
          ·refine uAp ?_
           refine uAb ?_;refine uAa rfl rfl rfl (uAc rfl gU) ?_;refine uAa rfl rfl rfl (uAz rfl rfl gU gU rfl (IntWalk.i64_in _ (by omega))) ?_;refine uAa rfl rfl rfl (uAe rfl gU) ?_;refine uAf ?_;refine ⟨k + 1,⟨by omega,T.cmps_step _ _ _ _ _ hx hy hz (by simpa using hc8)⟩,by omega,?_⟩;refine uAj ⟨⟨_,rfl,rfl⟩,⟨_,rfl,rfl⟩,⟨_,rfl,rfl⟩,trivial⟩ ⟨⟨_,rfl,rfl⟩,⟨_,rfl,rfl⟩,trivial⟩ trivial
         ·refine uAL ?_
          repeat(first|refine uAE ?_|refine uAF ?_|refine uAB rfl ?_)
          refine uAd (uAb ?_);refine uAa rfl rfl rfl (uAe rfl gU) ?_;refine uAf ?_;refine uAq ?_
          repeat(first|refine tR ?_|refine bR ?_)
          refine uAu rfl ?_ trivial
          rw[T.rows_len] at hc7
          have hke : k=a.kids.length:=by simp at hc7; omega
          subst hke
          rw[List.take_length,hll',List.take_length] at hz
          exact uBc (by rw[hC,hz])
theorem uIL (a b : T) (ha : a.size≤2000000) (hb : b.size≤2000000) : Ctr sys 54 [xm a,xm b] [] (xb (a.cmp b == 0)) none []:=by
 refine uAA Tryz.func54 rfl rfl rfl rfl rfl rfl ?_;refine uAd (uAb ?_);refine uAs rfl (uAH rfl rfl rfl rfl) ?_;refine uAs rfl (uAH rfl rfl rfl rfl) ?_;refine uAa rfl rfl rfl (uAe rfl gU) ?_;refine uAf ?_;refine uAd (uAb ?_);refine uAa rfl rfl rfl (uAn rfl gU rfl rfl rfl rfl rfl) ?_;refine uAa rfl rfl rfl (uAn rfl gU rfl rfl rfl rfl rfl) ?_;refine uAx rfl rfl rfl rfl rfl rfl gU gU (uJs _ a b (Nat.le_refl _) ha hb) rfl ?_;refine uAa rfl rfl rfl (uAm rfl rfl gU gU rfl) ?_;refine uAa rfl rfl rfl (uAe rfl gU) ?_;refine uAf ?_;refine uAq ?_
 repeat(first|refine tR ?_|refine bR ?_)
 refine uAu rfl ?_ trivial
 rfl
end Go.Proofs.YteidahabkfgfjaaGreat
namespace Go.Proofs.YteidahabkfgfjaaGreat
open Go Go.Abs
def uF4 (a b : List T) : Bool:=decide (a.length=b.length) && (T.cmps a b == 0)
def uQb (a b : List T) (k : Nat) : St:={ t:=[(0,true,xl a),(1,true,xl b),(5,true,xi k)],bx:=[],ow:=[] }
theorem uLF (a b : List T) (ha : T.sizes a≤2000000) (hb : T.sizes b≤2000000) : Ctr sys 22 [xl a,xl b] [] (xb (uF4 a b)) none []:=by
 have hls:=T.len_sizes a
 refine uAA Tryz.func22 rfl rfl rfl rfl rfl rfl ?_;refine uAd (uAb ?_);refine uAa rfl rfl rfl (uAe rfl gU) ?_;refine uAf ?_;refine uAd ?_;refine uAd (uAb ?_);refine uAa rfl rfl rfl (uAc rfl gU) ?_;refine uAI rfl rfl rfl rfl rfl gU rfl rfl ?_ (fun hh=>by simp at hh); intro hlen;refine uAa rfl rfl rfl (uAc rfl gU) ?_;refine uAI rfl rfl rfl rfl rfl gU rfl rfl ?_ (fun hh=>by simp at hh); intro hlen;refine uAa rfl rfl rfl (uAm rfl rfl gU gU rfl) ?_;refine uAf ?_;refine uAk (s:=⟨[(0,_,_),(1,_,_),(10,_,_)],[],[],[]⟩) (uAj (⟨sx rfl,sx rfl,sx rfl,trivial⟩) trivial trivial) ?_;refine uAo rfl (fun hc=>?_) (fun hc=>?_)
 ·refine uAd (uAb ?_)
  refine uAa rfl rfl rfl (uAe rfl gU) ?_;refine uAf ?_;refine uAq ?_
  repeat(first|refine tR ?_|refine bR ?_)
  refine uAu rfl ?_ trivial;refine uBY ?_
  simp only [T.rows_len,bne_iff_ne,ne_eq] at hc
  have : ¬ a.length=b.length:=by omega
  simp [uF4,this]
 ·simp only [T.rows_len,bne_eq_false_iff_eq] at hc
  have hll : a.length=b.length:=by omega
  refine uAp ?_;refine uAd ?_;refine uAd (uAb ?_);refine uAa rfl rfl rfl (uAe rfl gU) ?_;refine uAf ?_;refine uAt ?_;refine uCv (uQb a b) (fun k=>k≤a.length∧T.cmps (a.take k) (b.take k)=0) (fun k=>a.length - k) 0 ⟨Nat.zero_le _,by simp [T.cmps]⟩ ?_ ?_
  ·refine uAj ⟨⟨_,rfl,rfl⟩,⟨_,rfl,rfl⟩,⟨_,rfl,rfl⟩,trivial⟩ trivial trivial
  ·rintro k ⟨hk,hz⟩
   refine uAd ?_;refine uAd (uAb ?_);refine uAa rfl rfl rfl (uAc rfl gU) ?_;refine uAa rfl rfl rfl (uAc rfl gU) ?_;refine uAI rfl rfl rfl rfl rfl gU rfl rfl ?_ (fun hh=>by simp at hh); intro hlen;refine uAa rfl rfl rfl (uAm rfl rfl gU gU rfl) ?_;refine uAf ?_;refine uAo rfl (fun hc7=>?_) (fun hc7=>?_)
   ·rw[T.rows_len] at hc7
    have hlt : k < a.length:=by simpa using hc7
    obtain ⟨x,hx⟩ : ∃ x,a[k]? = some x:=⟨_,List.getElem?_eq_getElem hlt⟩
    obtain ⟨y,hy⟩ : ∃ y,b[k]? = some y:=⟨_,List.getElem?_eq_getElem (by omega)⟩
    have q1:=uKD _ _ _ hx
    have q2:=uKD _ _ _ hy
    refine uAp ?_;refine uAd ?_;refine uAt ?_;refine uAd ?_;refine awp_drawn' (by kernel_rfl) ?_;refine uAl rfl rfl rfl rfl (uAc rfl gU) ?_;refine uAl rfl rfl rfl rfl (uAc rfl gU) ?_;refine uAl rfl rfl rfl rfl (uAr rfl rfl gU gU rfl rfl rfl (fun _=>T.rows_get hx)) ?_;refine uAl rfl rfl rfl rfl (uAD rfl gU rfl rfl rfl rfl) ?_;refine uAl rfl rfl rfl rfl (uAc rfl gU) ?_;refine uAl rfl rfl rfl rfl (uAc rfl gU) ?_;refine uAl rfl rfl rfl rfl (uAr rfl rfl gU gU rfl rfl rfl (fun _=>T.rows_get hy)) ?_;refine uAl rfl rfl rfl rfl (uAD rfl gU rfl rfl rfl rfl) ?_;refine uAQ rfl rfl rfl rfl rfl rfl rfl gU gU (uIL x y (by omega) (by omega)) rfl ?_;refine uAl rfl rfl rfl rfl (uA1 rfl gU) ?_;refine uA2 (by kernel_rfl) ?_;refine uAk (s:=⟨[(0,_,_),(1,_,_),(5,_,_),(26,_,_)],[],[],[]⟩) (uAj (⟨sx rfl,sx rfl,sx rfl,sx rfl,trivial⟩) trivial trivial) ?_;refine uAo rfl (fun hc8=>?_) (fun hc8=>?_)
    ·refine uAd (uAb ?_)
     refine uAa rfl rfl rfl (uAe rfl gU) ?_;refine uAf ?_;refine uAq ?_
     repeat(first|refine tR ?_|refine bR ?_)
     refine uAu rfl ?_ trivial
     have hne : x.cmp y≠0:=by simpa using hc8
     refine uBY ?_
     rw[uF4,T.cmps_hit _ _ _ _ _ hx hy hz hne]
     simp [hne]
    ·refine uAp ?_
     refine uAb ?_;refine uAa rfl rfl rfl (uAc rfl gU) ?_;refine uAa rfl rfl rfl (uAz rfl rfl gU gU rfl (IntWalk.i64_in _ (by omega))) ?_;refine uAa rfl rfl rfl (uAe rfl gU) ?_;refine uAf ?_;refine ⟨k + 1,⟨by omega,T.cmps_step _ _ _ _ _ hx hy hz (by simpa using hc8)⟩,by omega,?_⟩;refine uAj ⟨⟨_,rfl,rfl⟩,⟨_,rfl,rfl⟩,⟨_,rfl,rfl⟩,trivial⟩ trivial trivial
   ·refine uAL ?_
    repeat(first|refine uAE ?_|refine uAF ?_|refine uAB rfl ?_)
    refine uAd (uAb ?_);refine uAa rfl rfl rfl (uAe rfl gU) ?_;refine uAf ?_;refine uAq ?_
    repeat(first|refine tR ?_|refine bR ?_)
    refine uAu rfl ?_ trivial
    rw[T.rows_len] at hc7
    have hke : k=a.length:=by simp at hc7; omega
    subst hke
    rw[List.take_length,hll,List.take_length] at hz
    refine uBY ?_
    simp [uF4,hll,hz]
theorem el_inj {n n' : Nar} : n.el=n'.el ↔ n.name=n'.name∧n.roles=n'.roles∧n.fresh=n'.fresh∧n.tags=n'.tags∧n.steps.map Sp.el=n'.steps.map Sp.el∧n.goals.map Gl.el=n'.goals.map Gl.el:=by
 cases n; cases n'
 simp [Nar.el]
theorem map_none {α β : Type} (f : Itm→List β) (g : α→Itm) (hf : ∀ x,f (g x)=[]) (l : List α) : (l.map g).flatMap f=[]:=by
 rw[List.flatMap_eq_nil_iff]
 intro i hi
 obtain ⟨x,_,rfl⟩:=List.mem_map.1 hi
 exact hf x
theorem uGw : ∀ (l : List UInt8),Op.bytesLess l l=false
 | []=>rfl
 | x :: xs=>by
  have := uGw xs
  simp [Op.bytesLess,this]
theorem uJL (a : Int) : uBZ a a=0:=by simp [uBZ]
mutual
theorem T.cmp_self : ∀ a : T,a.cmp a=0
 | .mk k n s ks=>by
  have h0 : T.cmp0 (.mk k n s ks) (.mk k n s ks)=0:=by simp [T.cmp0,uJL,uGw]
  rw[T.cmp,if_neg (by simp [h0])]
  exact T.cmps_self ks
theorem T.cmps_self : ∀ l : List T,T.cmps l l=0
 | []=>rfl
 | x :: xs=>by
  rw[T.cmps,if_neg (by simp [T.cmp_self x])]
  exact T.cmps_self xs
end
theorem uGp (a b : List Int) (h : a=b) : Ctr sys 15 [xis a,xis b] [] (xb true) none []:=by
 have la:=uAC a
 have lb:=uAC b
 have hl : a.length=b.length:=by rw[h]
 refine uAA Tryz.func15 rfl rfl rfl rfl rfl rfl ?_;refine uAd (uAb ?_);refine uAa rfl rfl rfl (uAe rfl gU) ?_;refine uAf ?_;refine uAd ?_;refine uAd (uAb ?_);refine uAa rfl rfl rfl (uAc rfl gU) ?_;refine uAI rfl rfl rfl rfl rfl gU rfl rfl ?_ (fun hh=>by simp at hh); intro hlen;refine uAa rfl rfl rfl (uAc rfl gU) ?_;refine uAI rfl rfl rfl rfl rfl gU rfl rfl ?_ (fun hh=>by simp at hh); intro hlen;refine uAa rfl rfl rfl (uAm rfl rfl gU gU rfl) ?_;refine uAf ?_;refine uAk (s:=⟨[(0,_,_),(1,_,_),(10,_,_)],[],[],[]⟩) (uAj (⟨sx rfl,sx rfl,sx rfl,trivial⟩) trivial trivial) ?_;refine uAo rfl (fun hc=>?_) (fun hc=>?_)
 ·try simp only [nn,uAC] at hc
  exact absurd (by omega) hc
 ·try simp only [nn,uAC] at hc
  refine uAp ?_;refine uAd ?_;refine uAd (uAb ?_);refine uAa rfl rfl rfl (uAc rfl gU) ?_;refine uAI rfl rfl rfl rfl rfl gU rfl rfl ?_ (fun hh=>by simp at hh); intro hlen;refine uAa rfl rfl rfl (uAc rfl gU) ?_;refine uAf ?_;refine uAt ?_;refine uAW (ι:=Nat) { t:=[(0,_,_),(1,_,_),(12,_,_)],bx:=[],ow:=[] } (fun k=>[(13,true,xi (k : Int))]) (fun k=>[]) (fun k=>k≤a.length) (fun k=>a.length - k) (0) (by simp) (uAj (⟨sx rfl,sx rfl,sx rfl,sx rfl,trivial⟩) trivial trivial) ?_
  intro k hok
  dsimp only [List.cons_append,List.nil_append]
  refine uAd (uAb ?_);refine uAa rfl rfl rfl (uAm rfl rfl gU gU rfl) ?_;refine uAf ?_;refine uAd ?_;refine uAo rfl (fun hc2=>?_) (fun hc2=>?_)
  ·try simp only [nn,uAC] at hc2
   refine uAp ?_;refine uAd ?_;refine uAt ?_;refine uAd (uAb ?_);refine uAa rfl rfl rfl (uAc rfl gU) ?_;refine uAa rfl rfl rfl (uAe rfl gU) ?_;refine uAf ?_;refine uAd ?_;refine awp_drawn' (by kernel_rfl) ?_;refine uAl rfl rfl rfl rfl (uAc rfl gU) ?_;refine uAl rfl rfl rfl rfl (uAc rfl gU) ?_;refine uAl rfl rfl rfl rfl (uAr rfl rfl gU gU rfl rfl rfl (fun hh=>uI5 (by first|omega|(simp at hh ⊢; omega)))) ?_;refine uAl rfl rfl rfl rfl (uAM rfl gU rfl rfl rfl) ?_;refine uAl rfl rfl rfl rfl (uAc rfl gU) ?_;refine uAl rfl rfl rfl rfl (uAc rfl gU) ?_;refine uAl rfl rfl rfl rfl (uAr rfl rfl gU gU rfl rfl rfl (fun hh=>uI5 (by first|omega|(simp at hh ⊢; omega)))) ?_;refine uAl rfl rfl rfl rfl (uAM rfl gU rfl rfl rfl) ?_;refine uAl rfl rfl rfl rfl (uAm rfl rfl gU gU rfl) ?_;refine uA2 (by kernel_rfl) ?_;refine uAk (s:=⟨[(0,_,_),(1,_,_),(12,_,_),(13,_,_),(24,_,_)],[],[],[]⟩) (uAj (⟨sx rfl,sx rfl,sx rfl,sx rfl,sx rfl,trivial⟩) trivial trivial) ?_;refine uAo rfl (fun hc3=>?_) (fun hc3=>?_)
   ·try simp only [nn,uAC] at hc3
    exact absurd (by rw[h]) hc3
   ·try simp only [nn,uAC] at hc3
    refine uAp ?_;refine uAb ?_;refine uAa rfl rfl rfl (uAz rfl rfl gU gU rfl (IntWalk.i64_in _ (by omega))) ?_;refine uAa rfl rfl rfl (uAc rfl gU) ?_;refine uAf ?_;refine ⟨k + 1,?_,?_,uAj (⟨⟨_,rfl,?_⟩,⟨sx rfl,sx rfl,sx rfl,trivial⟩⟩) trivial trivial⟩
    all_goals (first|rfl|omega)
  ·try simp only [nn,uAC] at hc2
   refine uAL ?_
   repeat(first|refine uAE ?_|refine uAF ?_|refine uAB rfl ?_)
   refine uAd (uAb ?_);refine uAa rfl rfl rfl (uAe rfl gU) ?_;refine uAf ?_;refine uAq ?_
   repeat(first|refine tR ?_|refine bR ?_)
   refine uAu rfl ?_ trivial
   rfl
theorem uMv {α : Type} {f : α→α} {d : α} {a b : List α} (h : a.map f=b.map f) {k : Nat} (hk : k < a.length) : f (a.getD k d)=f (b.getD k d):=by
 have hl : a.length=b.length:=by simpa using congrArg List.length h
 have := congrArg (fun l=>l[k]?) h
 rw[List.getElem?_map,List.getElem?_map,List.getElem?_eq_getElem hk,List.getElem?_eq_getElem (hl ▸ hk)] at this
 rw[List.getD_eq_getElem?_getD,List.getD_eq_getElem?_getD,List.getElem?_eq_getElem hk,List.getElem?_eq_getElem (hl ▸ hk)]
 simpa using this
theorem uLz (a : List T) : uF4 a a=true:=by simp [uF4,T.cmps_self]
theorem uPf {l : List Gl} (h : ∀ g ∈ l,T.sizes g.data≤900000) {k : Nat} (hk : k < l.length) : T.sizes (l.getD k default).data≤900000:=by
 apply h
 rw[List.getD_eq_getElem?_getD,List.getElem?_eq_getElem hk]; exact List.getElem_mem _
theorem uOS {l : List Sp} (h : ∀ s ∈ l,s.msg.size≤900000) {k : Nat} (hk : k < l.length) : (l.getD k default).msg.size≤900000:=by
 apply h
 rw[List.getD_eq_getElem?_getD,List.getElem?_eq_getElem hk]; exact List.getElem_mem _
theorem uHZ (a b : List Gl) (h : a.map Gl.el=b.map Gl.el) (ha : ∀ g ∈ a,T.sizes g.data≤900000) : Ctr sys 60 [.v (.c (.sl 5 (Gl.rows a))), .v (.c (.sl 5 (Gl.rows b)))] [] (xb true) none []:=by
 have la:=Gl.rows_len a
 have lb:=Gl.rows_len b
 have hl : a.length=b.length:=by simpa using congrArg List.length h
 refine uAA Tryz.func60 rfl rfl rfl rfl rfl rfl ?_;refine uAd (uAb ?_);refine uAa rfl rfl rfl (uAe rfl gU) ?_;refine uAf ?_;refine uAd ?_;refine uAd (uAb ?_);refine uAa rfl rfl rfl (uAc rfl gU) ?_;refine uAI rfl rfl rfl rfl rfl gU rfl rfl ?_ (fun hh=>by simp at hh); intro hlen;refine uAa rfl rfl rfl (uAc rfl gU) ?_;refine uAI rfl rfl rfl rfl rfl gU rfl rfl ?_ (fun hh=>by simp at hh); intro hlen;refine uAa rfl rfl rfl (uAm rfl rfl gU gU rfl) ?_;refine uAf ?_;refine uAk (s:=⟨[(0,_,_),(1,_,_),(10,_,_)],[],[],[]⟩) (uAj (⟨sx rfl,sx rfl,sx rfl,trivial⟩) trivial trivial) ?_;refine uAo rfl (fun hc=>?_) (fun hc=>?_)
 ·try simp only [nn,uAi,T.rows_len,Gl.rows_len,Fs.rows_len,Sp.rows_len] at hc
  exact absurd (by omega) hc
 ·try simp only [nn,uAi,T.rows_len,Gl.rows_len,Fs.rows_len,Sp.rows_len] at hc
  refine uAp ?_;refine uAd ?_;refine uAd (uAb ?_);refine uAa rfl rfl rfl (uAe rfl gU) ?_;refine uAf ?_;refine uAt ?_;refine uAW (ι:=Nat) { t:=[(0,_,_),(1,_,_)],bx:=[],ow:=[] } (fun k=>[(5,true,xi (k : Int))]) (fun k=>[]) (fun k=>k≤a.length) (fun k=>a.length - k) (0) (by simp) (uAj (⟨sx rfl,sx rfl,sx rfl,trivial⟩) trivial trivial) ?_
  intro k hok
  dsimp only [List.cons_append,List.nil_append]
  refine uAd ?_;refine uAd (uAb ?_);refine uAa rfl rfl rfl (uAc rfl gU) ?_;refine uAa rfl rfl rfl (uAc rfl gU) ?_;refine uAI rfl rfl rfl rfl rfl gU rfl rfl ?_ (fun hh=>by simp at hh); intro hlen;refine uAa rfl rfl rfl (uAm rfl rfl gU gU rfl) ?_;refine uAf ?_;refine uAo rfl (fun hc2=>?_) (fun hc2=>?_)
  ·try simp only [nn,uAi,T.rows_len,Gl.rows_len,Fs.rows_len,Sp.rows_len] at hc2
   have hlt : k < a.length:=by omega
   have e:=uMv (d:=default) h hlt
   have e1 : (a.getD k default).kind=(b.getD k default).kind:=(by have q:=congrArg Gl.kind e; exact q)
   have e2 : (a.getD k default).role=(b.getD k default).role:=(by have q:=congrArg Gl.role e; exact q)
   have e3 : (a.getD k default).wth=(b.getD k default).wth:=(by have q:=congrArg Gl.wth e; exact q)
   have e4 : (a.getD k default).data=(b.getD k default).data:=(by have q:=congrArg Gl.data e; exact q)
   have z1:=uPf ha hlt
   have z2 : T.sizes (b.getD k default).data≤900000:=by rw[← e4]; exact z1
   refine uAp ?_;refine uAd ?_;refine uAt ?_;refine uAd ?_;refine awp_drawn' (by kernel_rfl) ?_;refine uAl rfl rfl rfl rfl (uAc rfl gU) ?_;refine uAl rfl rfl rfl rfl (uAc rfl gU) ?_;refine uAl rfl rfl rfl rfl (uAr rfl rfl gU gU rfl rfl rfl (fun hh=>Gl.rows_at (by first|omega|(simp at hh ⊢; omega)))) ?_;refine uAl rfl rfl rfl rfl (uAU rfl gU rfl rfl) ?_;refine uAl rfl rfl rfl rfl (uAM rfl gU rfl rfl rfl) ?_;refine uAl rfl rfl rfl rfl (uAc rfl gU) ?_;refine uAl rfl rfl rfl rfl (uAc rfl gU) ?_;refine uAl rfl rfl rfl rfl (uAr rfl rfl gU gU rfl rfl rfl (fun hh=>Gl.rows_at (by first|omega|(simp at hh ⊢; omega)))) ?_;refine uAl rfl rfl rfl rfl (uAU rfl gU rfl rfl) ?_;refine uAl rfl rfl rfl rfl (uAM rfl gU rfl rfl rfl) ?_;refine uAl rfl rfl rfl rfl (uAm rfl rfl gU gU rfl) ?_;refine uAl rfl rfl rfl rfl (uAc rfl gU) ?_;refine uAl rfl rfl rfl rfl (uAc rfl gU) ?_;refine uAl rfl rfl rfl rfl (uAc rfl gU) ?_;refine uAl rfl rfl rfl rfl (uAr rfl rfl (fun hh=>hh) (fun hh=>hh) rfl rfl rfl (fun hh=>Gl.rows_at (by first|omega|(simp at hh ⊢; omega)))) ?_;refine uAl rfl rfl rfl rfl (uAU rfl (fun hh=>hh) rfl rfl) ?_;refine uAl rfl rfl rfl rfl (uAM rfl (fun hh=>hh) rfl rfl rfl) ?_;refine uAl rfl rfl rfl rfl (uAc rfl gU) ?_;refine uAl rfl rfl rfl rfl (uAc rfl gU) ?_
   refine uAl rfl rfl rfl rfl (uAr rfl rfl (fun hh=>hh) (fun hh=>hh) rfl rfl rfl (fun hh=>Gl.rows_at (by first|omega|(simp at hh ⊢; omega)))) ?_;refine uAl rfl rfl rfl rfl (uAU rfl (fun hh=>hh) rfl rfl) ?_;refine uAl rfl rfl rfl rfl (uAM rfl (fun hh=>hh) rfl rfl rfl) ?_;refine uAl rfl rfl rfl rfl (uA3 rfl rfl (fun hh=>hh) (fun hh=>hh) rfl) ?_;refine uAl rfl rfl rfl rfl (uAO rfl rfl gU (fun _ hi=>gP rfl hi)) ?_;refine uAl rfl rfl rfl rfl (uAc rfl gU) ?_;refine uAl rfl rfl rfl rfl (uAc rfl gU) ?_;refine uAl rfl rfl rfl rfl (uAc rfl gU) ?_;refine uAl rfl rfl rfl rfl (uAr rfl rfl (fun hh=>hh) (fun hh=>hh) rfl rfl rfl (fun hh=>Gl.rows_at (by first|omega|(simp at hh ⊢; omega)))) ?_;refine uAl rfl rfl rfl rfl (uAU rfl (fun hh=>hh) rfl rfl) ?_;refine uAl rfl rfl rfl rfl (uAM rfl (fun hh=>hh) rfl rfl rfl) ?_;refine uAl rfl rfl rfl rfl (uAc rfl gU) ?_;refine uAl rfl rfl rfl rfl (uAc rfl gU) ?_;refine uAl rfl rfl rfl rfl (uAr rfl rfl (fun hh=>hh) (fun hh=>hh) rfl rfl rfl (fun hh=>Gl.rows_at (by first|omega|(simp at hh ⊢; omega)))) ?_;refine uAl rfl rfl rfl rfl (uAU rfl (fun hh=>hh) rfl rfl) ?_;refine uAl rfl rfl rfl rfl (uAM rfl (fun hh=>hh) rfl rfl rfl) ?_;refine uAl rfl rfl rfl rfl (uA3 rfl rfl (fun hh=>hh) (fun hh=>hh) rfl) ?_;refine uAl rfl rfl rfl rfl (uAO rfl rfl gU (fun _ hi=>gP rfl hi)) ?_
   refine uAl rfl rfl rfl rfl (uAc rfl gU) ?_;refine uAl rfl rfl rfl rfl (uAc rfl gU) ?_;refine uAl rfl rfl rfl rfl (uAc rfl gU) ?_;refine uAl rfl rfl rfl rfl (uAr rfl rfl (fun hh=>hh) (fun hh=>hh) rfl rfl rfl (fun hh=>Gl.rows_at (by first|omega|(simp at hh ⊢; omega)))) ?_;refine uAl rfl rfl rfl rfl (uAU rfl (fun hh=>hh) rfl rfl) ?_;refine uAl rfl rfl rfl rfl (uAM rfl (fun hh=>hh) rfl rfl rfl) ?_;refine uAl rfl rfl rfl rfl (uAc rfl gU) ?_;refine uAl rfl rfl rfl rfl (uAc rfl gU) ?_;refine uAl rfl rfl rfl rfl (uAr rfl rfl (fun hh=>hh) (fun hh=>hh) rfl rfl rfl (fun hh=>Gl.rows_at (by first|omega|(simp at hh ⊢; omega)))) ?_;refine uAl rfl rfl rfl rfl (uAU rfl (fun hh=>hh) rfl rfl) ?_;refine uAl rfl rfl rfl rfl (uAM rfl (fun hh=>hh) rfl rfl rfl) ?_;refine uAQ rfl rfl rfl rfl rfl rfl rfl gU (fun hh=>gA ((fun hh=>hh) hh) (gA ((fun hh=>hh) hh) (rfl))) (uLF _ _ (by omega) (by omega)) rfl ?_;refine uAl rfl rfl rfl rfl (uA1 rfl (fun hh=>hh)) ?_;refine uAl rfl rfl rfl rfl (uAO rfl rfl gU (fun _ hi=>gP rfl hi)) ?_;refine uA2 (by kernel_rfl) ?_;refine uAk (s:=⟨[(0,_,_),(1,_,_),(5,_,_),(67,_,_)],[],[],[]⟩) (uAj (⟨sx rfl,sx rfl,sx rfl,sx rfl,trivial⟩) trivial trivial) ?_;refine uAo rfl (fun hc3=>?_) (fun hc3=>?_)
   ·exfalso
    simp only [List.getD_eq_getElem?_getD] at e1 e2 e3 e4
    simp [Gl.cells,e1,e2,e3,e4,uLz] at hc3
   ·refine uAp ?_
    refine uAb ?_;refine uAa rfl rfl rfl (uAc rfl gU) ?_;refine uAa rfl rfl rfl (uAz rfl rfl gU gU rfl (IntWalk.i64_in _ (by omega))) ?_;refine uAa rfl rfl rfl (uAe rfl gU) ?_;refine uAf ?_;refine ⟨k + 1,?_,?_,uAj (⟨⟨_,rfl,?_⟩,⟨sx rfl,sx rfl,trivial⟩⟩) trivial trivial⟩
    all_goals (first|rfl|omega)
  ·try simp only [nn,uAi,T.rows_len,Gl.rows_len,Fs.rows_len,Sp.rows_len] at hc2
   refine uAL ?_
   repeat(first|refine uAE ?_|refine uAF ?_|refine uAB rfl ?_)
   refine uAd (uAb ?_);refine uAa rfl rfl rfl (uAe rfl gU) ?_;refine uAf ?_;refine uAq ?_
   repeat(first|refine tR ?_|refine bR ?_)
   refine uAu rfl ?_ trivial
   rfl
set_option maxHeartbeats 4000000 in
theorem uJM (n m : Nar) (h : n.el=m.el) (hs : ∀ s ∈ n.steps,s.msg.size≤900000) (hg : ∀ g ∈ n.goals,T.sizes g.data≤900000) : Ctr sys 27 [xn n,xn m] [] (xb true) none []:=by
 obtain ⟨e1,e2,e3,e4,e5,e6⟩:=el_inj.1 h
 have l1:=uAi n.roles
 have l2:=uAi m.roles
 have l3:=Fs.rows_len n.fresh
 have l4:=Fs.rows_len m.fresh
 have l5:=Sp.rows_len n.steps
 have l6:=Sp.rows_len m.steps
 have h5 : n.steps.length=m.steps.length:=by simpa using congrArg List.length e5
 have h3 : n.fresh.length=m.fresh.length:=by rw[e3]
 refine uAA Tryz.func27 rfl rfl rfl rfl rfl rfl ?_;refine uAd (uAb ?_);refine uAs rfl (uAH rfl rfl rfl rfl) ?_;refine uAs rfl (uAH rfl rfl rfl rfl) ?_;refine uAa rfl rfl rfl (uAe rfl gU) ?_;refine uAf ?_;refine uAd ?_;refine uAd (uAb ?_);refine uAa rfl rfl rfl (uAg rfl gU rfl rfl) ?_;refine uAa rfl rfl rfl (uAh rfl gU rfl rfl rfl rfl) ?_;refine uAa rfl rfl rfl (uAg rfl gU rfl rfl) ?_;refine uAa rfl rfl rfl (uAh rfl gU rfl rfl rfl rfl) ?_;refine uAa rfl rfl rfl (uA3 rfl rfl gU gU rfl) ?_;refine uAa rfl rfl rfl (uAc rfl gU) ?_;refine uAa rfl rfl rfl (uAg rfl gU rfl rfl) ?_;refine uAa rfl rfl rfl (uAh rfl (fun hh=>hh) rfl rfl rfl rfl) ?_;refine uAa rfl rfl rfl (uAg rfl gU rfl rfl) ?_;refine uBd (s:=⟨[(2,_,_),(3,_,_),(12,_,_),(14,_,_),(15,_,_)],[(.l 2,_),(.l 3,_)],[],[]⟩) (uAj (⟨sx rfl,sx rfl,sx rfl,sx rfl,sx rfl,trivial⟩) (⟨sx rfl,sx rfl,trivial⟩) trivial) ?_;refine uAa rfl rfl rfl (uAh rfl (fun hh=>hh) rfl rfl rfl rfl) ?_;refine uAx rfl rfl rfl rfl rfl rfl gU (fun hh=>gA ((fun hh=>hh) hh) (gA ((fun hh=>hh) hh) (rfl))) (uFc _ _) rfl ?_;refine uAa rfl rfl rfl (uA1 rfl (fun hh=>hh)) ?_;refine uAa rfl rfl rfl (uAO rfl rfl gU (fun _ hi=>gP rfl hi)) ?_;refine uAa rfl rfl rfl (uAc rfl gU) ?_
 refine uAa rfl rfl rfl (uAg rfl gU rfl rfl) ?_;refine uAa rfl rfl rfl (uAh rfl (fun hh=>hh) rfl rfl rfl rfl) ?_;refine uAa rfl rfl rfl (uAg rfl gU rfl rfl) ?_;refine uAa rfl rfl rfl (uAh rfl (fun hh=>hh) rfl rfl rfl rfl) ?_;refine uAx rfl rfl rfl rfl rfl rfl gU (fun hh=>gA ((fun hh=>hh) hh) (gA ((fun hh=>hh) hh) (rfl))) (uFc _ _) rfl ?_;refine uAa rfl rfl rfl (uA1 rfl (fun hh=>hh)) ?_;refine uAa rfl rfl rfl (uAO rfl rfl gU (fun _ hi=>gP rfl hi)) ?_;refine uBd (s:=⟨[(2,_,_),(3,_,_),(27,_,_)],[(.l 2,_),(.l 3,_)],[],[]⟩) (uAj (⟨sx rfl,sx rfl,sx rfl,trivial⟩) (⟨sx rfl,sx rfl,trivial⟩) trivial) ?_;refine uAa rfl rfl rfl (uAc rfl gU) ?_;refine uAa rfl rfl rfl (uAg rfl gU rfl rfl) ?_;refine uAa rfl rfl rfl (uAh rfl (fun hh=>hh) rfl rfl rfl rfl) ?_;refine uAa rfl rfl rfl (uA7 rfl (fun hh=>hh) rfl rfl) ?_;refine uAa rfl rfl rfl (uAg rfl gU rfl rfl) ?_;refine uAa rfl rfl rfl (uAh rfl (fun hh=>hh) rfl rfl rfl rfl) ?_;refine uAa rfl rfl rfl (uA7 rfl (fun hh=>hh) rfl rfl) ?_;refine uAa rfl rfl rfl (uAm rfl rfl (fun hh=>hh) (fun hh=>hh) rfl) ?_;refine uAa rfl rfl rfl (uAO rfl rfl gU (fun _ hi=>gP rfl hi)) ?_;refine uAa rfl rfl rfl (uAc rfl gU) ?_;refine uAa rfl rfl rfl (uAg rfl gU rfl rfl) ?_;refine uAa rfl rfl rfl (uAh rfl (fun hh=>hh) rfl rfl rfl rfl) ?_
 refine uBd (s:=⟨[(2,_,_),(3,_,_),(37,_,_),(39,_,_)],[(.l 2,_),(.l 3,_)],[],[]⟩) (uAj (⟨sx rfl,sx rfl,sx rfl,sx rfl,trivial⟩) (⟨sx rfl,sx rfl,trivial⟩) trivial) ?_;refine uAa rfl rfl rfl (uA7 rfl (fun hh=>hh) rfl rfl) ?_;refine uAa rfl rfl rfl (uAg rfl gU rfl rfl) ?_;refine uAa rfl rfl rfl (uAh rfl (fun hh=>hh) rfl rfl rfl rfl) ?_;refine uAa rfl rfl rfl (uA7 rfl (fun hh=>hh) rfl rfl) ?_;refine uAa rfl rfl rfl (uAm rfl rfl (fun hh=>hh) (fun hh=>hh) rfl) ?_;refine uAa rfl rfl rfl (uAO rfl rfl gU (fun _ hi=>gP rfl hi)) ?_;refine uAf ?_;refine uAk (s:=⟨[(2,_,_),(3,_,_),(45,_,_)],[(.l 2,_),(.l 3,_)],[],[]⟩) (uAj (⟨sx rfl,sx rfl,sx rfl,trivial⟩) (⟨sx rfl,sx rfl,trivial⟩) trivial) ?_;refine uAo rfl (fun hc=>?_) (fun hc=>?_)
 ·exfalso
  simp [uQa,e1,e2,e4,l3,l4,l5,l6,h5,h3] at hc
 ·refine uAp ?_
  refine uAd ?_;refine uAd (uAb ?_);refine uAa rfl rfl rfl (uAe rfl gU) ?_;refine uAf ?_;refine uAt ?_;refine uAW (ι:=Nat) { t:=[(2,_,_),(3,_,_)],bx:=[(.l 2,_),(.l 3,_)],ow:=[] } (fun k=>[(5,true,xi (k : Int))]) (fun k=>[]) (fun k=>k≤n.fresh.length) (fun k=>n.fresh.length - k) (0) (by simp) (uAj (⟨sx rfl,sx rfl,sx rfl,trivial⟩) (⟨sx rfl,sx rfl,trivial⟩) trivial) ?_
  intro k hoka
  dsimp only [List.cons_append,List.nil_append]
  refine uAd ?_;refine uAd (uAb ?_);refine uAa rfl rfl rfl (uAc rfl gU) ?_;refine uAa rfl rfl rfl (uAg rfl gU rfl rfl) ?_;refine uAa rfl rfl rfl (uAh rfl gU rfl rfl rfl rfl) ?_;refine uAI rfl rfl rfl rfl rfl gU rfl rfl ?_ (fun hh=>by simp at hh); intro hlen;refine uAa rfl rfl rfl (uAm rfl rfl gU gU rfl) ?_;refine uAf ?_;refine uAk (s:=⟨[(2,_,_),(3,_,_),(5,_,_),(50,_,_)],[(.l 2,_),(.l 3,_)],[],[]⟩) (uAj (⟨sx rfl,sx rfl,sx rfl,sx rfl,trivial⟩) (⟨sx rfl,sx rfl,trivial⟩) trivial) ?_;refine uAo rfl (fun hc2=>?_) (fun hc2=>?_)
  ·try simp only [nn,uAi,T.rows_len,Gl.rows_len,Fs.rows_len,Sp.rows_len] at hc2
   refine uAp ?_;refine uAd ?_;refine uAt ?_;refine uAd ?_;refine awp_drawn' (by kernel_rfl) ?_;refine uAl rfl rfl rfl rfl (uAg rfl gU rfl rfl) ?_;refine uA5 rfl rfl rfl rfl rfl rfl rfl gU rfl rfl rfl rfl ?_;refine uAl rfl rfl rfl rfl (uAc rfl gU) ?_;refine uAl rfl rfl rfl rfl (uAr rfl rfl gU gU rfl rfl rfl (fun hh=>Fs.rows_at (by first|omega|(simp at hh ⊢; omega)))) ?_;refine uAl rfl rfl rfl rfl (uAD rfl gU rfl rfl rfl rfl) ?_;refine uAl rfl rfl rfl rfl (uAg rfl gU rfl rfl) ?_;refine uA5 rfl rfl rfl rfl rfl rfl rfl gU rfl rfl rfl rfl ?_;refine uAl rfl rfl rfl rfl (uAc rfl gU) ?_;refine uAl rfl rfl rfl rfl (uAr rfl rfl gU gU rfl rfl rfl (fun hh=>Fs.rows_at (by first|omega|(simp at hh ⊢; omega)))) ?_;refine uAl rfl rfl rfl rfl (uAD rfl gU rfl rfl rfl rfl) ?_;refine uAl rfl rfl rfl rfl (uIa (ks:=[2,2,1]) (.inr ⟨rfl,rfl⟩) rfl rfl gU gU Tryz.underlying79 (by kernel_rfl) (by kernel_rfl) (by kernel_rfl) rfl) ?_;refine uA2 (by kernel_rfl) ?_;refine uAk (s:=⟨[(2,_,_),(3,_,_),(5,_,_),(63,_,_)],[(.l 2,_),(.l 3,_)],[],[]⟩) (uAj (⟨sx rfl,sx rfl,sx rfl,sx rfl,trivial⟩) (⟨sx rfl,sx rfl,trivial⟩) trivial) ?_;refine uAo rfl (fun hc3=>?_) (fun hc3=>?_)
   ·exfalso
    simp [e3] at hc3
   ·refine uAp ?_
    refine uAb ?_;refine uAa rfl rfl rfl (uAc rfl gU) ?_;refine uAa rfl rfl rfl (uAz rfl rfl gU gU rfl (IntWalk.i64_in _ (by omega))) ?_;refine uAa rfl rfl rfl (uAe rfl gU) ?_;refine uAf ?_;refine ⟨k + 1,?_,?_,uAj (⟨⟨_,rfl,?_⟩,⟨sx rfl,sx rfl,trivial⟩⟩) (⟨sx rfl,sx rfl,trivial⟩) trivial⟩
    all_goals (first|rfl|omega)
  ·try simp only [nn,uAi,T.rows_len,Gl.rows_len,Fs.rows_len,Sp.rows_len] at hc2
   refine uAL ?_
   repeat(first|refine uAE ?_|refine uAF ?_|refine uAB rfl ?_)
   refine uAd ?_;refine uAd (uAb ?_);refine uAa rfl rfl rfl (uAe rfl gU) ?_;refine uAf ?_;refine uAt ?_;refine uAW (ι:=Nat) { t:=[(2,_,_),(3,_,_)],bx:=[(.l 2,_),(.l 3,_)],ow:=[] } (fun k=>[(6,true,xi (k : Int))]) (fun k=>[]) (fun k=>k≤n.steps.length) (fun k=>n.steps.length - k) (0) (by simp) (uAj (⟨sx rfl,sx rfl,sx rfl,trivial⟩) (⟨sx rfl,sx rfl,trivial⟩) trivial) ?_
   intro k hokb
   dsimp only [List.cons_append,List.nil_append]
   refine uAd ?_;refine uAd (uAb ?_);refine uAa rfl rfl rfl (uAc rfl gU) ?_;refine uAa rfl rfl rfl (uAg rfl gU rfl rfl) ?_;refine uAa rfl rfl rfl (uAh rfl gU rfl rfl rfl rfl) ?_;refine uAI rfl rfl rfl rfl rfl gU rfl rfl ?_ (fun hh=>by simp at hh); intro hlen;refine uAa rfl rfl rfl (uAm rfl rfl gU gU rfl) ?_;refine uAf ?_;refine uAk (s:=⟨[(2,_,_),(3,_,_),(6,_,_),(68,_,_)],[(.l 2,_),(.l 3,_)],[],[]⟩) (uAj (⟨sx rfl,sx rfl,sx rfl,sx rfl,trivial⟩) (⟨sx rfl,sx rfl,trivial⟩) trivial) ?_;refine uAo rfl (fun hc4=>?_) (fun hc4=>?_)
   ·try simp only [nn,uAi,T.rows_len,Gl.rows_len,Fs.rows_len,Sp.rows_len] at hc4
    have hlt : k < n.steps.length:=by omega
    have e:=uMv (d:=default) e5 hlt
    have f1 : (n.steps.getD k default).frm=(m.steps.getD k default).frm:=(by have q:=congrArg Sp.frm e; exact q)
    have f2 : (n.steps.getD k default).dst=(m.steps.getD k default).dst:=(by have q:=congrArg Sp.dst e; exact q)
    have f3 : (n.steps.getD k default).msg=(m.steps.getD k default).msg:=(by have q:=congrArg Sp.msg e; exact q)
    have z1:=uOS hs hlt
    have z2 : (m.steps.getD k default).msg.size≤900000:=by rw[← f3]; exact z1
    refine uAp ?_;refine uAd ?_;refine uAt ?_;refine uAd ?_;refine awp_drawn' (by kernel_rfl) ?_;refine uAl rfl rfl rfl rfl (uAg rfl gU rfl rfl) ?_;refine uA5 rfl rfl rfl rfl rfl rfl rfl gU rfl rfl rfl rfl ?_;refine uAl rfl rfl rfl rfl (uAc rfl gU) ?_;refine uAl rfl rfl rfl rfl (uAr rfl rfl gU gU rfl rfl rfl (fun hh=>Sp.rows_at (by first|omega|(simp at hh ⊢; omega)))) ?_;refine uAl rfl rfl rfl rfl (uAU rfl gU rfl rfl) ?_;refine uAl rfl rfl rfl rfl (uAM rfl gU rfl rfl rfl) ?_;refine uAl rfl rfl rfl rfl (uAg rfl gU rfl rfl) ?_;refine uA5 rfl rfl rfl rfl rfl rfl rfl gU rfl rfl rfl rfl ?_;refine uAl rfl rfl rfl rfl (uAc rfl gU) ?_;refine uAl rfl rfl rfl rfl (uAr rfl rfl gU gU rfl rfl rfl (fun hh=>Sp.rows_at (by first|omega|(simp at hh ⊢; omega)))) ?_;refine uAl rfl rfl rfl rfl (uAU rfl gU rfl rfl) ?_;refine uAl rfl rfl rfl rfl (uAM rfl gU rfl rfl rfl) ?_;refine uAl rfl rfl rfl rfl (uA3 rfl rfl gU gU rfl) ?_;refine uAl rfl rfl rfl rfl (uAc rfl gU) ?_;refine uAl rfl rfl rfl rfl (uAg rfl gU rfl rfl) ?_;refine uA5 rfl rfl rfl rfl rfl rfl rfl (fun hh=>hh) rfl rfl rfl rfl ?_;refine uAl rfl rfl rfl rfl (uAc rfl gU) ?_;refine uAl rfl rfl rfl rfl (uAr rfl rfl (fun hh=>hh) (fun hh=>hh) rfl rfl rfl (fun hh=>Sp.rows_at (by first|omega|(simp at hh ⊢; omega)))) ?_
    refine uAl rfl rfl rfl rfl (uAU rfl (fun hh=>hh) rfl rfl) ?_;refine uAl rfl rfl rfl rfl (uAM rfl (fun hh=>hh) rfl rfl rfl) ?_;refine uAl rfl rfl rfl rfl (uAg rfl gU rfl rfl) ?_;refine uA5 rfl rfl rfl rfl rfl rfl rfl (fun hh=>hh) rfl rfl rfl rfl ?_;refine uAl rfl rfl rfl rfl (uAc rfl gU) ?_;refine uAl rfl rfl rfl rfl (uAr rfl rfl (fun hh=>hh) (fun hh=>hh) rfl rfl rfl (fun hh=>Sp.rows_at (by first|omega|(simp at hh ⊢; omega)))) ?_;refine uAl rfl rfl rfl rfl (uAU rfl (fun hh=>hh) rfl rfl) ?_;refine uAl rfl rfl rfl rfl (uAM rfl (fun hh=>hh) rfl rfl rfl) ?_;refine uAl rfl rfl rfl rfl (uA3 rfl rfl (fun hh=>hh) (fun hh=>hh) rfl) ?_;refine uAl rfl rfl rfl rfl (uAO rfl rfl gU (fun _ hi=>gP rfl hi)) ?_;refine uAl rfl rfl rfl rfl (uAc rfl gU) ?_;refine uAl rfl rfl rfl rfl (uAg rfl gU rfl rfl) ?_;refine uA5 rfl rfl rfl rfl rfl rfl rfl (fun hh=>hh) rfl rfl rfl rfl ?_;refine uAl rfl rfl rfl rfl (uAc rfl gU) ?_;refine uAl rfl rfl rfl rfl (uAr rfl rfl (fun hh=>hh) (fun hh=>hh) rfl rfl rfl (fun hh=>Sp.rows_at (by first|omega|(simp at hh ⊢; omega)))) ?_;refine uAl rfl rfl rfl rfl (uAU rfl (fun hh=>hh) rfl rfl) ?_;refine uAl rfl rfl rfl rfl (uAD rfl (fun hh=>hh) rfl rfl rfl rfl) ?_;refine uAl rfl rfl rfl rfl (uAg rfl gU rfl rfl) ?_;refine uA5 rfl rfl rfl rfl rfl rfl rfl (fun hh=>hh) rfl rfl rfl rfl ?_
    refine uAl rfl rfl rfl rfl (uAc rfl gU) ?_;refine uAl rfl rfl rfl rfl (uAr rfl rfl (fun hh=>hh) (fun hh=>hh) rfl rfl rfl (fun hh=>Sp.rows_at (by first|omega|(simp at hh ⊢; omega)))) ?_;refine uAl rfl rfl rfl rfl (uAU rfl (fun hh=>hh) rfl rfl) ?_;refine uAl rfl rfl rfl rfl (uAD rfl (fun hh=>hh) rfl rfl rfl rfl) ?_;refine uAQ rfl rfl rfl rfl rfl rfl rfl gU (fun hh=>gA ((fun hh=>hh) hh) (gA ((fun hh=>hh) hh) (rfl))) (uIL _ _ (by omega) (by omega)) rfl ?_;refine uAl rfl rfl rfl rfl (uA1 rfl (fun hh=>hh)) ?_;refine uAl rfl rfl rfl rfl (uAO rfl rfl gU (fun _ hi=>gP rfl hi)) ?_;refine uA2 (by kernel_rfl) ?_;refine uAk (s:=⟨[(2,_,_),(3,_,_),(6,_,_),(114,_,_)],[(.l 2,_),(.l 3,_)],[],[]⟩) (uAj (⟨sx rfl,sx rfl,sx rfl,sx rfl,trivial⟩) (⟨sx rfl,sx rfl,trivial⟩) trivial) ?_;refine uAo rfl (fun hc5=>?_) (fun hc5=>?_)
    ·exfalso
     simp only [List.getD_eq_getElem?_getD] at f1 f2 f3
     simp [Sp.cells,f1,f2,f3,T.cmp_self] at hc5
    ·refine uAp ?_
     refine uAb ?_;refine uAa rfl rfl rfl (uAc rfl gU) ?_;refine uAa rfl rfl rfl (uAz rfl rfl gU gU rfl (IntWalk.i64_in _ (by omega))) ?_;refine uAa rfl rfl rfl (uAe rfl gU) ?_;refine uAf ?_;refine ⟨k + 1,?_,?_,uAj (⟨⟨_,rfl,?_⟩,⟨sx rfl,sx rfl,trivial⟩⟩) (⟨sx rfl,sx rfl,trivial⟩) trivial⟩
     all_goals (first|rfl|omega)
   ·try simp only [nn,uAi,T.rows_len,Gl.rows_len,Fs.rows_len,Sp.rows_len] at hc4
    refine uAL ?_
    repeat(first|refine uAE ?_|refine uAF ?_|refine uAB rfl ?_)
    refine uAd (uAb ?_);refine uAa rfl rfl rfl (uAg rfl gU rfl rfl) ?_;refine uAa rfl rfl rfl (uAh rfl gU rfl rfl rfl rfl) ?_;refine uAa rfl rfl rfl (uAg rfl gU rfl rfl) ?_;refine uAa rfl rfl rfl (uAh rfl gU rfl rfl rfl rfl) ?_;refine uAx rfl rfl rfl rfl rfl rfl gU gU (uHZ _ _ e6 hg) rfl ?_;refine uAa rfl rfl rfl (uAe rfl gU) ?_;refine uAf ?_;refine uAq ?_
    repeat(first|refine tR ?_|refine bR ?_)
    refine uAu rfl ?_ trivial
    rfl
def uOZ (n : Nar) : List Int:=n.steps.map Sp.line++n.goals.map Gl.line
theorem uFI (n : Nar) (hs : n.steps.length≤900000) (hg : n.goals.length≤900000) : Ctr sys 28 [xn n] [] (xis (uOZ n)) none []:=by
 have l5:=Sp.rows_len n.steps
 have l6:=Gl.rows_len n.goals
 refine uAA Tryz.func28 rfl rfl rfl rfl rfl rfl ?_;refine uAd (uAb ?_);refine uAs rfl (uAH rfl rfl rfl rfl) ?_;refine uAs rfl (uBe (.inr rfl) rfl rfl) ?_;refine uAf ?_;refine uAd (uAb ?_);refine uAs rfl (uBe (.inr rfl) rfl rfl) ?_;refine uAf ?_;refine uAd ?_;refine uAd (uAb ?_);refine uAa rfl rfl rfl (uAe rfl gU) ?_;refine uAf ?_;refine uAt ?_;refine uAW (ι:=Nat) { t:=[(1,_,_)],bx:=[(.l 1,_)],ow:=[(.t 3,_)] } (fun k=>[(4,true,xi (k : Int)),(3,true,xis ((n.steps.take k).map Sp.line))]) (fun k=>[]) (fun k=>k≤n.steps.length) (fun k=>n.steps.length - k) (0) (by simp) (uAj (⟨sx rfl,sx rfl,sx rfl,trivial⟩) (⟨sx rfl,trivial⟩) (⟨rfl,trivial⟩)) ?_
 intro k hoka
 dsimp only [List.cons_append,List.nil_append]
 refine uAd ?_;refine uAd (uAb ?_);refine uAa rfl rfl rfl (uAc rfl gU) ?_;refine uAa rfl rfl rfl (uAg rfl gU rfl rfl) ?_;refine uAa rfl rfl rfl (uAh rfl gU rfl rfl rfl rfl) ?_;refine uAI rfl rfl rfl rfl rfl gU rfl rfl ?_ (fun hh=>by simp at hh); intro hlen;refine uAa rfl rfl rfl (uAm rfl rfl gU gU rfl) ?_;refine uAf ?_;refine uAk (s:=⟨[(1,_,_),(3,_,_),(4,_,_),(10,_,_)],[(.l 1,_)],[(.t 3,_)],[]⟩) (uAj (⟨sx rfl,sx rfl,sx rfl,sx rfl,trivial⟩) (⟨sx rfl,trivial⟩) (⟨rfl,trivial⟩)) ?_;refine uAo rfl (fun hc=>?_) (fun hc=>?_)
 ·try simp only [nn,uAi,T.rows_len,Gl.rows_len,Fs.rows_len,Sp.rows_len] at hc
  have hT:=uBk (l:=n.steps) (d:=default) (k:=k) (by omega)
  refine uAp ?_;refine uAd ?_;refine uAt ?_;refine uAb ?_;refine uAs rfl (uAV (.inl rfl) rfl rfl rfl) ?_;refine uAa rfl rfl rfl (uAg rfl gU rfl rfl) ?_;refine uAa rfl rfl rfl (uAh rfl gU rfl rfl rfl rfl) ?_;refine uAa rfl rfl rfl (uAc rfl gU) ?_;refine uAa rfl rfl rfl (uAr rfl rfl gU gU rfl rfl rfl (fun hh=>Sp.rows_at (by first|omega|(simp at hh ⊢; omega)))) ?_;refine uAa rfl rfl rfl (uAU rfl gU rfl rfl) ?_;refine uAa rfl rfl rfl (uAM rfl gU rfl rfl rfl) ?_;refine uAR (xs:=[_]) rfl rfl rfl rfl rfl rfl rfl rfl rfl gU rfl ?_;refine uAs rfl (uA0 rfl rfl rfl rfl rfl rfl rfl (by first|omega|(simp only [List.length_append,List.length_singleton,uAC,List.length_map,List.length_take]; omega)) (by first|omega|(simp only [List.length_append,List.length_singleton,uAC,List.length_map,List.length_take]; omega))) ?_;refine uAs rfl (uAV (.inr rfl) rfl rfl rfl) ?_;refine uAf ?_;refine uAk (s:=⟨[(1,_,_),(3,_,_),(4,_,_)],[(.l 1,_)],[(.t 3,_)],[]⟩) (uAj (⟨sx rfl,sx rfl,sx rfl,trivial⟩) (⟨sx rfl,trivial⟩) (⟨rfl,trivial⟩)) ?_;refine uAb ?_;refine uAa rfl rfl rfl (uAc rfl gU) ?_;refine uAa rfl rfl rfl (uAz rfl rfl gU gU rfl (IntWalk.i64_in _ (by omega))) ?_;refine uAa rfl rfl rfl (uAe rfl gU) ?_;refine uAf ?_;refine ⟨k + 1,?_,?_,uAj (⟨⟨_,rfl,?_⟩,⟨⟨_,rfl,?_⟩,⟨sx rfl,trivial⟩⟩⟩) (⟨sx rfl,trivial⟩) (⟨rfl,trivial⟩)⟩
  all_goals (first|rfl|omega|exact tx ((uD5 _ _).trans (by rw[hT,List.map_append]; rfl)))
 ·try simp only [nn,uAi,T.rows_len,Gl.rows_len,Fs.rows_len,Sp.rows_len] at hc
  have hk : k=n.steps.length:=by omega
  subst hk
  refine uAL ?_
  repeat(first|refine uAE ?_|refine uAF ?_|refine uAB rfl ?_)
  refine uAd ?_;refine uAd (uAb ?_);refine uAa rfl rfl rfl (uAe rfl gU) ?_;refine uAf ?_;refine uAt ?_;refine uAW (ι:=Nat) { t:=[(1,_,_)],bx:=[(.l 1,_)],ow:=[(.t 3,_)] } (fun j=>[(5,true,xi (j : Int)),(3,true,xis (n.steps.map Sp.line++(n.goals.take j).map Gl.line))]) (fun j=>[]) (fun j=>j≤n.goals.length) (fun j=>n.goals.length - j) (0) (by simp) (uAj (⟨sx rfl,⟨⟨_,rfl,by simp⟩,⟨sx rfl,trivial⟩⟩⟩) (⟨sx rfl,trivial⟩) (⟨rfl,trivial⟩)) ?_
  intro j hokb
  dsimp only [List.cons_append,List.nil_append]
  refine uAd ?_;refine uAd (uAb ?_);refine uAa rfl rfl rfl (uAc rfl gU) ?_;refine uAa rfl rfl rfl (uAg rfl gU rfl rfl) ?_;refine uAa rfl rfl rfl (uAh rfl gU rfl rfl rfl rfl) ?_;refine uAI rfl rfl rfl rfl rfl gU rfl rfl ?_ (fun hh=>by simp at hh); intro hlen;refine uAa rfl rfl rfl (uAm rfl rfl gU gU rfl) ?_;refine uAf ?_;refine uAk (s:=⟨[(1,_,_),(3,_,_),(5,_,_),(26,_,_)],[(.l 1,_)],[(.t 3,_)],[]⟩) (uAj (⟨sx rfl,sx rfl,sx rfl,sx rfl,trivial⟩) (⟨sx rfl,trivial⟩) (⟨rfl,trivial⟩)) ?_;refine uAo rfl (fun hc2=>?_) (fun hc2=>?_)
  ·try simp only [nn,uAi,T.rows_len,Gl.rows_len,Fs.rows_len,Sp.rows_len] at hc2
   have hT:=uBk (l:=n.goals) (d:=default) (k:=j) (by omega)
   refine uAp ?_;refine uAd ?_;refine uAt ?_;refine uAb ?_;refine uAs rfl (uAV (.inl rfl) rfl rfl rfl) ?_;refine uAa rfl rfl rfl (uAg rfl gU rfl rfl) ?_;refine uAa rfl rfl rfl (uAh rfl gU rfl rfl rfl rfl) ?_;refine uAa rfl rfl rfl (uAc rfl gU) ?_;refine uAa rfl rfl rfl (uAr rfl rfl gU gU rfl rfl rfl (fun hh=>Gl.rows_at (by first|omega|(simp at hh ⊢; omega)))) ?_;refine uAa rfl rfl rfl (uAU rfl gU rfl rfl) ?_;refine uAa rfl rfl rfl (uAM rfl gU rfl rfl rfl) ?_;refine uAR (xs:=[_]) rfl rfl rfl rfl rfl rfl rfl rfl rfl gU rfl ?_;refine uAs rfl (uA0 rfl rfl rfl rfl rfl rfl rfl (by first|omega|(simp only [List.length_append,List.length_singleton,uAC,List.length_map,List.length_take]; omega)) (by first|omega|(simp only [List.length_append,List.length_singleton,uAC,List.length_map,List.length_take]; omega))) ?_;refine uAs rfl (uAV (.inr rfl) rfl rfl rfl) ?_;refine uAf ?_;refine uAk (s:=⟨[(1,_,_),(3,_,_),(5,_,_)],[(.l 1,_)],[(.t 3,_)],[]⟩) (uAj (⟨sx rfl,sx rfl,sx rfl,trivial⟩) (⟨sx rfl,trivial⟩) (⟨rfl,trivial⟩)) ?_;refine uAb ?_;refine uAa rfl rfl rfl (uAc rfl gU) ?_;refine uAa rfl rfl rfl (uAz rfl rfl gU gU rfl (IntWalk.i64_in _ (by omega))) ?_;refine uAa rfl rfl rfl (uAe rfl gU) ?_;refine uAf ?_;refine ⟨j + 1,?_,?_,uAj (⟨⟨_,rfl,?_⟩,⟨⟨_,rfl,?_⟩,⟨sx rfl,trivial⟩⟩⟩) (⟨sx rfl,trivial⟩) (⟨rfl,trivial⟩)⟩
   all_goals (first|rfl|omega|exact tx ((uD5 _ _).trans (by rw[hT,List.map_append,List.append_assoc]; rfl)))
  ·try simp only [nn,uAi,T.rows_len,Gl.rows_len,Fs.rows_len,Sp.rows_len] at hc2
   have hk : j=n.goals.length:=by omega
   subst hk
   refine uAL ?_
   repeat(first|refine uAE ?_|refine uAF ?_|refine uAB rfl ?_)
   refine uAd (uAb ?_);refine uAs rfl (uAV (.inl rfl) rfl rfl rfl) ?_;refine uAs rfl (uAV (.inr rfl) rfl rfl rfl) ?_;refine uAf ?_;refine uAq ?_
   repeat(first|refine tR ?_|refine bR ?_)
   refine uAu rfl ?_ trivial
   (rw[uOZ,List.take_length]; rfl)
namespace T
mutual
def bud : T→Int→Int
 | mk _ nm _ ks,m=>if m≤0∨40 < nm.length then -1 else buds ks (m - 1)
def buds : List T→Int→Int
 | [],m=>m
 | t :: ts,m=>if bud t m < 0 then -1 else buds ts (bud t m)
end
theorem bud_eq (t : T) (m : Int) : t.bud m=if m≤0∨40 < t.name.length then -1 else buds t.kids (m - 1):=by cases t; rw[bud]; rfl
mutual
theorem uQf : ∀ (t : T) (m : Int),0≤t.bud m→t.bud m + t.size≤m
 | mk _ nm _ ks,m,h=>by
  rw[bud] at h ⊢
  rw[size]
  split at h
  ·omega
  ·rename_i hn
   rw[if_neg hn]
   have := buds_le ks (m - 1) h
   omega
theorem buds_le : ∀ (ts : List T) (m : Int),0≤buds ts m→buds ts m + sizes ts≤m
 | [],m,_=>by rw[buds,sizes]; omega
 | t :: ts,m,h=>by
  rw[buds] at h ⊢
  rw[sizes]
  split at h
  ·omega
  ·rename_i hn
   rw[if_neg hn]
   have h1:=uQf t m (by omega)
   have h2:=buds_le ts (t.bud m) h
   omega
end
theorem buds_step : ∀ (ts : List T) (k : Nat) (x : T) (m : Int),ts[k]? = some x→0≤buds (ts.take k) m→0≤x.bud (buds (ts.take k) m)→buds (ts.take (k + 1)) m=x.bud (buds (ts.take k) m)
 | [],k,x,m,h,_,_=>by simp at h
 | t :: ts,0,x,m,h,h0,hx=>by
  simp at h; subst h
  simp only [List.take_zero,buds] at hx ⊢
  simp only [List.take_succ_cons,List.take_zero,buds]
  rw[if_neg (by omega)]
 | t :: ts,k + 1,x,m,h,h0,hx=>by
  rw[List.take_succ_cons,buds] at h0 hx ⊢
  rw[List.take_succ_cons,buds]
  split at h0
  ·omega
  ·rename_i hn
   rw[if_neg hn] at hx ⊢
   rw[if_neg hn]
   exact buds_step ts k x _ (by simpa using h) h0 hx
theorem buds_hit : ∀ (ts : List T) (k : Nat) (x : T) (m : Int),ts[k]? = some x→0≤buds (ts.take k) m→x.bud (buds (ts.take k) m) < 0→buds ts m = -1
 | [],k,x,m,h,_,_=>by simp at h
 | t :: ts,0,x,m,h,h0,hx=>by
  simp at h; subst h
  simp only [List.take_zero,buds] at hx
  rw[buds,if_pos hx]
 | t :: ts,k + 1,x,m,h,h0,hx=>by
  rw[List.take_succ_cons,buds] at h0 hx
  rw[buds]
  split at h0
  ·omega
  ·rename_i hn
   rw[if_neg hn] at hx ⊢
   exact buds_hit ts k x _ (by simpa using h) h0 hx
end T
def fewB (l : List T) (n : Nat) (m : Int) : Bool:=decide (l.length≤n) && decide (0≤T.buds l m)
theorem uLt {l : List T} {n : Nat} {m : Int} (h : fewB l n m=true) : l.length≤n∧T.sizes l≤m:=by
 simp only [fewB,Bool.and_eq_true,decide_eq_true_eq] at h
 have := T.buds_le l m h.2
 exact ⟨h.1,by omega⟩
def budS (t : T) (m : Int) (k : Nat) : St:={ t:=[(1,true,xi (T.buds (t.kids.take k) (m - 1))),(2,true, .v (.ptr (.l 2) 0)),(5,true,xi k)],bx:=[(.l 2,t.cells)],ow:=[] }
theorem uKo : ∀ (n : Nat) (t : T) (m : Int),m≤n→n≤2000000 → -2000000≤m→Ctr sys 70 [xm t,xi m] [] (xi (t.bud m)) none []:=by
 intro n
 induction n with
 | zero =>
  intro t m hm _ _
  refine uAA Tryz.func70 rfl rfl rfl rfl rfl rfl ?_;refine uAd (uAb ?_);refine uAs rfl (uAH rfl rfl rfl rfl) ?_;refine uAa rfl rfl rfl (uAe rfl gU) ?_;refine uAf ?_;refine uAd ?_;refine uAd (uAb ?_);refine uAa rfl rfl rfl (uAc rfl gU) ?_;refine uAa rfl rfl rfl (uAm rfl rfl gU gU rfl) ?_;refine uAa rfl rfl rfl (uAc rfl gU) ?_;refine uAa rfl rfl rfl (uAg rfl gU rfl rfl) ?_;refine uAa rfl rfl rfl (uAh rfl (fun hh=>hh) rfl rfl rfl rfl) ?_;refine uAa rfl rfl rfl (uCm rfl (fun hh=>hh) (Tryz.underlying9)) ?_;refine uAa rfl rfl rfl (uAm rfl rfl (fun hh=>hh) gU rfl) ?_;refine uAa rfl rfl rfl (uAO rfl rfl gU (fun _ hi=>gP rfl hi)) ?_;refine uAf ?_;refine uAk (s:=⟨[(1,_,_),(2,_,_),(13,_,_)],[(.l 2,_)],[],[]⟩) (uAj (⟨sx rfl,sx rfl,sx rfl,trivial⟩) (⟨sx rfl,trivial⟩) trivial) ?_;refine uAo rfl (fun hc=>?_) (fun hc=>?_)
  ·refine uAd (uAb ?_)
   refine uAa rfl rfl rfl (uAe rfl gU) ?_;refine uAf ?_;refine uAq ?_
   repeat(first|refine tR ?_|refine bR ?_)
   refine uAu rfl ?_ trivial;refine uBc ?_
   rw[T.bud_eq,if_pos (by omega)]
  ·simp only [Bool.or_eq_false_iff,decide_eq_false_iff_not] at hc
   omega
 | succ n ih =>
  intro t m hm hn hm2
  refine uAA Tryz.func70 rfl rfl rfl rfl rfl rfl ?_;refine uAd (uAb ?_);refine uAs rfl (uAH rfl rfl rfl rfl) ?_;refine uAa rfl rfl rfl (uAe rfl gU) ?_;refine uAf ?_;refine uAd ?_;refine uAd (uAb ?_);refine uAa rfl rfl rfl (uAc rfl gU) ?_;refine uAa rfl rfl rfl (uAm rfl rfl gU gU rfl) ?_;refine uAa rfl rfl rfl (uAc rfl gU) ?_;refine uAa rfl rfl rfl (uAg rfl gU rfl rfl) ?_;refine uAa rfl rfl rfl (uAh rfl (fun hh=>hh) rfl rfl rfl rfl) ?_;refine uAa rfl rfl rfl (uCm rfl (fun hh=>hh) (Tryz.underlying9)) ?_;refine uAa rfl rfl rfl (uAm rfl rfl (fun hh=>hh) gU rfl) ?_;refine uAa rfl rfl rfl (uAO rfl rfl gU (fun _ hi=>gP rfl hi)) ?_;refine uAf ?_;refine uAk (s:=⟨[(1,_,_),(2,_,_),(13,_,_)],[(.l 2,_)],[],[]⟩) (uAj (⟨sx rfl,sx rfl,sx rfl,trivial⟩) (⟨sx rfl,trivial⟩) trivial) ?_;refine uAo rfl (fun hc=>?_) (fun hc=>?_)
  ·refine uAd (uAb ?_)
   refine uAa rfl rfl rfl (uAe rfl gU) ?_;refine uAf ?_;refine uAq ?_
   repeat(first|refine tR ?_|refine bR ?_)
   refine uAu rfl ?_ trivial;refine uBc ?_
   simp only [Bool.or_eq_true,decide_eq_true_eq] at hc
   rw[T.bud_eq,if_pos (by omega)]
  ·simp only [Bool.or_eq_false_iff,decide_eq_false_iff_not] at hc
   have hB : t.bud m=T.buds t.kids (m - 1):=by rw[T.bud_eq,if_neg (by omega)]
   refine uAp ?_;refine uAd (uAb ?_);refine uAa rfl rfl rfl (uAc rfl gU) ?_;refine uAa rfl rfl rfl (uAz rfl rfl gU gU rfl (IntWalk.i64_in _ (by omega))) ?_;refine uAa rfl rfl rfl (uAe rfl gU) ?_;refine uAf ?_;refine uAd ?_;refine uAd (uAb ?_);refine uAa rfl rfl rfl (uAe rfl gU) ?_;refine uAf ?_;refine uAt ?_;refine uCv (budS t m) (fun k=>k≤t.kids.length∧0≤T.buds (t.kids.take k) (m - 1)) (fun k=>t.kids.length - k) 0 ⟨Nat.zero_le _,by simp [T.buds]; omega⟩ ?_ ?_
   ·refine uAj ⟨⟨_,rfl,rfl⟩,⟨_,rfl,rfl⟩,⟨_,rfl,rfl⟩,trivial⟩ ⟨⟨_,rfl,rfl⟩,trivial⟩ trivial
   ·rintro k ⟨hk,hz⟩
    have hbl:=T.buds_le _ _ hz
    refine uAd ?_;refine uAd (uAb ?_);refine uAa rfl rfl rfl (uAc rfl gU) ?_;refine uAa rfl rfl rfl (uAg rfl gU rfl rfl) ?_;refine uAa rfl rfl rfl (uAh rfl gU rfl rfl rfl rfl) ?_;refine uAI rfl rfl rfl rfl rfl gU rfl rfl ?_ (fun hh=>by simp at hh); intro hlen;refine uAa rfl rfl rfl (uAm rfl rfl gU gU rfl) ?_;refine uAf ?_;refine uAk (s:=⟨[(1,_,_),(2,_,_),(5,_,_),(20,_,_)],[(.l 2,_)],[],[]⟩) (uAj (⟨sx rfl,sx rfl,sx rfl,sx rfl,trivial⟩) (⟨sx rfl,trivial⟩) trivial) ?_;refine uAo rfl (fun hc2=>?_) (fun hc2=>?_)
    ·rw[T.rows_len] at hlen hc2
     have hlt : k < t.kids.length:=by simpa using hc2
     obtain ⟨x,hx⟩ : ∃ x,t.kids[k]? = some x:=⟨_,List.getElem?_eq_getElem hlt⟩
     refine uAp ?_;refine uAd ?_;refine uAt ?_;refine uAd (uAb ?_);refine uAa rfl rfl rfl (uAg rfl gU rfl rfl) ?_;refine uAa rfl rfl rfl (uAh rfl gU rfl rfl rfl rfl) ?_;refine uAa rfl rfl rfl (uAc rfl gU) ?_;refine uAa rfl rfl rfl (uAr rfl rfl gU gU rfl rfl rfl (fun _=>T.rows_get hx)) ?_;refine uAa rfl rfl rfl (uAD rfl gU rfl rfl rfl rfl) ?_;refine uAa rfl rfl rfl (uAc rfl gU) ?_;refine uAx rfl rfl rfl rfl rfl rfl gU gU (ih x _ (by omega) (by omega) (by omega)) rfl ?_;refine uAa rfl rfl rfl (uAe rfl gU) ?_;refine uAf ?_;refine uAk (s:=⟨[(1,_,_),(2,_,_),(5,_,_)],[(.l 2,_)],[],[]⟩) (uAj (⟨sx rfl,sx rfl,sx rfl,trivial⟩) (⟨sx rfl,trivial⟩) trivial) ?_;refine uAd (uAb ?_);refine uAa rfl rfl rfl (uAc rfl gU) ?_;refine uAa rfl rfl rfl (uAm rfl rfl gU gU rfl) ?_;refine uAf ?_;refine uAo rfl (fun hc3=>?_) (fun hc3=>?_)
     ·refine uAd (uAb ?_)
      refine uAa rfl rfl rfl (uAe rfl gU) ?_;refine uAf ?_;refine uAq ?_
      repeat(first|refine tR ?_|refine bR ?_)
      refine uAu rfl ?_ trivial;refine uBc ?_
      simp only [decide_eq_true_eq] at hc3
      rw[hB,T.buds_hit _ _ _ _ hx hz hc3]
     ·simp only [decide_eq_false_iff_not] at hc3
      have hst:=T.buds_step _ _ _ _ hx hz (by omega)
      refine uAp ?_;refine uAb ?_;refine uAa rfl rfl rfl (uAc rfl gU) ?_;refine uAa rfl rfl rfl (uAz rfl rfl gU gU rfl (IntWalk.i64_in _ (by omega))) ?_;refine uAa rfl rfl rfl (uAe rfl gU) ?_;refine uAf ?_;refine ⟨k + 1,⟨by omega,by rw[hst]; omega⟩,by omega,?_⟩;refine uAj ⟨⟨_,rfl,by rw[hst]⟩,⟨_,rfl,rfl⟩,⟨_,rfl,rfl⟩,trivial⟩ ⟨⟨_,rfl,rfl⟩,trivial⟩ trivial
    ·refine uAL ?_
     repeat(first|refine uAE ?_|refine uAF ?_|refine uAB rfl ?_)
     refine uAd (uAb ?_);refine uAa rfl rfl rfl (uAc rfl gU) ?_;refine uAa rfl rfl rfl (uAe rfl gU) ?_;refine uAf ?_;refine uAq ?_
     repeat(first|refine tR ?_|refine bR ?_)
     refine uAu rfl ?_ trivial
     rw[T.rows_len] at hc2
     have : k=t.kids.length:=by simp at hc2; omega
     subst this
     exact uBc (by rw[hB,List.take_length])
def fewS (l : List T) (n : Nat) (m : Int) (k : Nat) : St:={ t:=[(0,true,xl l),(2,true,xi (T.buds (l.take k) m)),(7,true,xi k)],bx:=[],ow:=[] }
theorem uPh (l : List T) (n : Nat) (m : Nat) (hm : m≤2000000) : Ctr sys 36 [xl l,xi n,xi m] [] (xb (fewB l n m)) none []:=by
 refine uAA Tryz.func36 rfl rfl rfl rfl rfl rfl ?_;refine uAd (uAb ?_);refine uAa rfl rfl rfl (uAe rfl gU) ?_;refine uAf ?_;refine uAd ?_;refine uAd (uAb ?_);refine uAa rfl rfl rfl (uAc rfl gU) ?_;refine uAI rfl rfl rfl rfl rfl gU rfl rfl ?_ (fun hh=>by simp at hh); intro hlen;refine uAa rfl rfl rfl (uAc rfl gU) ?_;refine uAa rfl rfl rfl (uAm rfl rfl gU gU rfl) ?_;refine uAf ?_;refine uAk (s:=⟨[(0,_,_),(2,_,_),(11,_,_)],[],[],[]⟩) (uAj (⟨sx rfl,sx rfl,sx rfl,trivial⟩) trivial trivial) ?_;refine uAo rfl (fun hc=>?_) (fun hc=>?_)
 ·refine uAd (uAb ?_)
  refine uAa rfl rfl rfl (uAe rfl gU) ?_;refine uAf ?_;refine uAq ?_
  repeat(first|refine tR ?_|refine bR ?_)
  refine uAu rfl ?_ trivial;refine uBY ?_
  simp only [T.rows_len,decide_eq_true_eq] at hc
  have : ¬ l.length≤n:=by omega
  simp [fewB,this]
 ·simp only [T.rows_len,decide_eq_false_iff_not] at hc
  have hn : l.length≤n:=by omega
  refine uAp ?_;refine uAd ?_;refine uAd (uAb ?_);refine uAa rfl rfl rfl (uAe rfl gU) ?_;refine uAf ?_;refine uAt ?_;refine uCv (fewS l n m) (fun k=>k≤l.length∧0≤T.buds (l.take k) m) (fun k=>l.length - k) 0 ⟨Nat.zero_le _,by simp [T.buds]⟩ ?_ ?_
  ·refine uAj ⟨⟨_,rfl,rfl⟩,⟨_,rfl,rfl⟩,⟨_,rfl,rfl⟩,trivial⟩ trivial trivial
  ·rintro k ⟨hk,hz⟩
   have hbl:=T.buds_le _ _ hz
   refine uAd ?_;refine uAd (uAb ?_);refine uAa rfl rfl rfl (uAc rfl gU) ?_;refine uAa rfl rfl rfl (uAc rfl gU) ?_;refine uAI rfl rfl rfl rfl rfl gU rfl rfl ?_ (fun hh=>by simp at hh); intro hlen;refine uAa rfl rfl rfl (uAm rfl rfl gU gU rfl) ?_;refine uAf ?_;refine uAo rfl (fun hc2=>?_) (fun hc2=>?_)
   ·rw[T.rows_len] at hlen hc2
    have hlt : k < l.length:=by simpa using hc2
    obtain ⟨x,hx⟩ : ∃ x,l[k]? = some x:=⟨_,List.getElem?_eq_getElem hlt⟩
    refine uAp ?_;refine uAd ?_;refine uAt ?_;refine uAd (uAb ?_);refine uAa rfl rfl rfl (uAc rfl gU) ?_;refine uAa rfl rfl rfl (uAc rfl gU) ?_;refine uAa rfl rfl rfl (uAr rfl rfl gU gU rfl rfl rfl (fun _=>T.rows_get hx)) ?_;refine uAa rfl rfl rfl (uAD rfl gU rfl rfl rfl rfl) ?_;refine uAa rfl rfl rfl (uAc rfl gU) ?_;refine uAx rfl rfl rfl rfl rfl rfl gU gU (uKo m x _ (by omega) (by omega) (by omega)) rfl ?_;refine uAa rfl rfl rfl (uAe rfl gU) ?_;refine uAf ?_;refine uAk (s:=⟨[(0,_,_),(2,_,_),(7,_,_)],[],[],[]⟩) (uAj (⟨sx rfl,sx rfl,sx rfl,trivial⟩) trivial trivial) ?_;refine uAd (uAb ?_);refine uAa rfl rfl rfl (uAc rfl gU) ?_;refine uAa rfl rfl rfl (uAm rfl rfl gU gU rfl) ?_;refine uAf ?_;refine uAo rfl (fun hc3=>?_) (fun hc3=>?_)
    ·refine uAd (uAb ?_)
     refine uAa rfl rfl rfl (uAe rfl gU) ?_;refine uAf ?_;refine uAq ?_
     repeat(first|refine tR ?_|refine bR ?_)
     refine uAu rfl ?_ trivial;refine uBY ?_
     simp only [decide_eq_true_eq] at hc3
     simp [fewB,T.buds_hit _ _ _ _ hx hz hc3]
    ·simp only [decide_eq_false_iff_not] at hc3
     have hst:=T.buds_step _ _ _ _ hx hz (by omega)
     refine uAp ?_;refine uAb ?_;refine uAa rfl rfl rfl (uAc rfl gU) ?_;refine uAa rfl rfl rfl (uAz rfl rfl gU gU rfl (IntWalk.i64_in _ (by omega))) ?_;refine uAa rfl rfl rfl (uAe rfl gU) ?_;refine uAf ?_;refine ⟨k + 1,⟨by omega,by rw[hst]; omega⟩,by omega,?_⟩;refine uAj ⟨⟨_,rfl,rfl⟩,⟨_,rfl,by rw[hst]⟩,⟨_,rfl,rfl⟩,trivial⟩ trivial trivial
   ·refine uAL ?_
    repeat(first|refine uAE ?_|refine uAF ?_|refine uAB rfl ?_)
    refine uAd (uAb ?_);refine uAa rfl rfl rfl (uAe rfl gU) ?_;refine uAf ?_;refine uAq ?_
    repeat(first|refine tR ?_|refine bR ?_)
    refine uAu rfl ?_ trivial
    rw[T.rows_len] at hc2
    have : k=l.length:=by simp at hc2; omega
    subst this
    rw[List.take_length] at hz
    exact uBY (by simp [fewB,hn,hz])
end Go.Proofs.YteidahabkfgfjaaGreat
