/- Our abstract program logic and contracts of this seat's functions, part 5: no statement of its own (long names of ours are shortened by a program). -/
import Derived.Test.YteidahabkfgfjaaGreatM4
import Derived.RangeFuncNested
import Derived.RangeFuncLeaves
import Derived.Shelf.Abstract
import Derived.WalkKit
import Derived.OwnWalkIn
import Derived.TacticsInMore
import Derived.LoopNIn
import Derived.LoopIn
import Derived.KernelRfl
set_option linter.unusedVariables false
set_option linter.unusedSimpArgs false
namespace Go.Proofs.YteidahabkfgfjaaGreat
open Go Go.Abs
theorem uH7 {α : Type} {l : List Tk} {f : PS→α × PS} (hf : Fwd l f) : ∀ (n : Nat) (p : PS) (out : List α),(uBR l f n p out).1.length + p.at'≤out.length + (uBR l f n p out).2.at'
 | 0,p,out=>by simp [uBR]
 | n + 1,p,out=>by
  rw[uBR]
  split
  ·have h1:=(hf p.go).1
   have h2:=uH7 hf n (f p.go).2 (out++[(f p.go).1])
   have hg : p.go.at'=p.at' + 1:=rfl
   rw[List.length_append,List.length_singleton] at h2
   omega
  ·simp
theorem uEP {α : Type} {l : List Tk} {f : PS→α × PS} (hf : Fwd l f) (p : PS) : (uA6 l f p).1.length + p.at'≤1 + (uA6 l f p).2.at':=by
 have h1:=(hf p).1
 have h2:=uH7 hf (l.length + 1) (f p).2 [(f p).1]
 unfold uA6
 rw[List.length_singleton] at h2
 omega
theorem uHz (l : List Tk) (role : List UInt8) : ∀ (n : Nat) (p : PS) (out : List Fs),(uCa l role n p out).1.length + p.at'≤out.length + 1 + (uCa l role n p out).2.at'
 | 0,p,out=>by simp [uCa]
 | n + 1,p,out=>by
  have h1:=(uA4 l [] p).1
  have h2:=(uA4 l sortW (uAx l [] p).2).1
  rw[uCa]
  split
  ·dsimp only; omega
  split
  ·have hg : (uAx l sortW (uAx l [] p).2).2.go.at'=(uAx l sortW (uAx l [] p).2).2.at' + 1:=rfl
   have h4:=uHz l role n (uAx l sortW (uAx l [] p).2).2.go (out++[⟨role,(uAx l [] p).1,2 + uBk sortW (uAx l sortW (uAx l [] p).2).1⟩])
   rw[List.length_append,List.length_singleton] at h4
   omega
  ·simp only [List.length_append,List.length_singleton]; omega
theorem uLC (l : List Tk) (p : PS) (out : List Fs) : (uD1 l p out).1.length + p.at'≤out.length + 1 + (uD1 l p out).2.at':=by
 have h1:=(uA4 l [] p).1
 have h2:=(uBs l [58] (uAx l [] p).2).1
 have h3:=uHz l (uAx l [] p).1 (l.length + 1) (uAQ l [58] (uAx l [] p).2) out
 unfold uD1
 omega
structure Nar.Le (n : Nar) (k : Nat) : Prop where
 roles : n.roles.length≤k
 fresh : n.fresh.length≤k
 tags : n.tags.length≤k
 steps : n.steps.length≤k
 goals : n.goals.length≤k
theorem Nar.Le.mono {n : Nar} {k j : Nat} (h : n.Le k) (hj : k≤j) : n.Le j:=⟨Nat.le_trans h.roles hj,Nat.le_trans h.fresh hj,Nat.le_trans h.tags hj,Nat.le_trans h.steps hj,Nat.le_trans h.goals hj⟩
theorem uM0 {l : List Tk} {ws : List (List UInt8)} {p : PS} (h : (uAx l ws p).1≠[]) : (uAx l ws p).2.at'=p.at' + 1:=by
 cases hq : namQ l p ws with
 | true=>rw[uAx,if_pos hq]; rfl
 | false=>rw[uAx,hq] at h; exact absurd rfl h
theorem uPn {l : List Tk} {n : Nar} {line : Int} {w : List UInt8} {q : PS} {k : Nat} (h : n.Le k) (hk : w≠[]→k + 1≤q.at') (hq : k≤q.at') : (uDe l n line w q).1.Le (uDe l n line w q).2.at':=by
 have hz:=uGY l n line w q
 unfold uDe at hz ⊢
 split
 ·rename_i hw
  rw[if_pos hw] at hz
  have h1 : (uBu l q).1.length + q.at'≤1 + (uBu l q).2.at':=uEP (uA4 l []) q
  have h2:=hk (by rw[hw]; decide)
  have h3:=hz.1
  have := h.mono (j := (uBu l q).2.at') (by dsimp only at h3; omega)
  have h4:=h.roles
  exact ⟨by dsimp only; rw[List.length_append]; omega,this.fresh,this.tags,this.steps,this.goals⟩
 rename_i hw1
 rw[if_neg hw1] at hz
 split
 ·rename_i hw
  rw[if_pos hw] at hz
  have h1:=uLC l q n.fresh
  have h2:=hk (by rw[hw]; decide)
  have h3:=hz.1
  have := h.mono (j := (uD1 l q n.fresh).2.at') (by dsimp only at h3; omega)
  have h4:=h.fresh
  exact ⟨this.roles,by dsimp only; omega,this.tags,this.steps,this.goals⟩
 rename_i hw2
 rw[if_neg hw2] at hz
 split
 ·rename_i hw
  rw[if_pos hw] at hz
  have h1 : (uBu l q).1.length + q.at'≤1 + (uBu l q).2.at':=uEP (uA4 l []) q
  have h2:=hk (by rw[hw]; decide)
  have h3:=hz.1
  have := h.mono (j := (uBu l q).2.at') (by dsimp only at h3; omega)
  have h4:=h.tags
  exact ⟨this.roles,this.fresh,by dsimp only; rw[List.length_append]; omega,this.steps,this.goals⟩
 rename_i hw3
 rw[if_neg hw3] at hz
 split
 ·rename_i hw
  rw[if_pos hw] at hz
  have h2:=hk (by rw[hw]; decide)
  have h3:=hz.1
  have := h.mono (j := (uGx l line q).2.at') (by dsimp only at h3; omega)
  have h4:=h.steps
  exact ⟨this.roles,this.fresh,this.tags,by dsimp only at h3 ⊢; rw[List.length_append,List.length_singleton]; omega,this.goals⟩
 rename_i hw4
 rw[if_neg hw4] at hz
 split
 ·rename_i hw
  rw[if_pos hw] at hz
  have h2:=hk (by rw[hw]; decide)
  have h3:=hz.1
  have := h.mono (j := (uGa l line q).2.at') (by dsimp only at h3; omega)
  have h4:=h.goals
  exact ⟨this.roles,this.fresh,this.tags,this.steps,by dsimp only at h3 ⊢; rw[List.length_append,List.length_singleton]; omega⟩
 exact h.mono hq
theorem uOA {l : List Tk} {n : Nar} {p : PS} (h : n.Le p.at') : (uDO l n p).1.Le (uDO l n p).2.at':=by
 have h1:=(uA4 l uBA p).1
 have h2:=uPn (l:=l) (line:=uCy l p) (w:=(uAx l uBA p).1) (q:=(uAx l uBA p).2) h (fun hw=>by rw[uM0 hw]; exact Nat.le_refl _) h1
 exact h2.mono (uBs l [59] _).1
theorem uHo (t : T) : ∀ l : List T,T.sizes (l++[t])=T.sizes l + t.size
 | []=>by simp [T.sizes]
 | x :: l=>by rw[List.cons_append,T.sizes,T.sizes,uHo t l]; omega
theorem uIq : ∀ l : List T,l≠[]→(tupT l).size + 1=T.sizes l + l.length
 | [],h=>absurd rfl h
 | [t],_=>by simp [tupT,T.sizes]
 | t :: u :: l,_=>by
  have ih:=uIq (u :: l) (by simp)
  have e : (uQf t (tupT (u :: l))).size=1 + (t.size + (tupT (u :: l)).size):=by rw[T.size_eq]; show 1 + T.sizes [t,tupT (u :: l)]=_; simp [T.sizes]
  rw[tupT,e,T.sizes,List.length_cons (a:=t)]
  omega
def Szd (f : PS→T × PS) : Prop:=∀ p : PS,(f p).1.size + 2 * p.at'≤2 * (f p).2.at' + 1
theorem uGI {l : List Tk} {f : PS→T × PS} (hs : Szd f) : ∀ (n : Nat) (p : PS) (out : List T),T.sizes (uBR l f n p out).1 + (uBR l f n p out).1.length + 2 * p.at'≤T.sizes out + out.length + 2 * (uBR l f n p out).2.at'
 | 0,p,out=>by simp [uBR]
 | n + 1,p,out=>by
  rw[uBR]
  split
  ·have h1:=hs p.go
   have h2:=uGI (l:=l) hs n (f p.go).2 (out++[(f p.go).1])
   have hg : p.go.at'=p.at' + 1:=rfl
   rw[List.length_append,List.length_singleton,uHo] at h2
   omega
  ·simp
theorem uE7 {l : List Tk} {f : PS→T × PS} (hs : Szd f) (p : PS) : T.sizes (uA6 l f p).1 + (uA6 l f p).1.length + 2 * p.at'≤2 + 2 * (uA6 l f p).2.at':=by
 have h1:=hs p
 have h2:=uGI (l:=l) hs (l.length + 1) (f p).2 [(f p).1]
 unfold uA6
 rw[List.length_singleton,T.sizes,T.sizes] at h2
 omega
theorem uMc {α : Type} {l : List Tk} {f : PS→α × PS} : ∀ (n : Nat) (p : PS) (out : List α),out≠[]→(uBR l f n p out).1≠[]
 | 0,p,out,h=>h
 | n + 1,p,out,h=>by
  rw[uBR]
  split
  ·exact uMc n _ _ (by simp)
  ·exact h
theorem uFe (l : List Tk) : ∀ n : Nat,Szd (uBp l n)
 | 0,p=>by
  have : (default : T).size=1:=by rw[T.size_eq]; rfl
  show (default : T).size + _≤_
  rw[this]; show 1 + 2 * p.at'≤2 * p.at' + 1; omega
 | n + 1,p=>by
  have ih:=uFe l n
  have hf:=uEi l n
  rw[uBp]
  split
  ·have hg : p.go.at'=p.at' + 1:=rfl
   have h1:=ih p.go
   have h2:=(uBs l [44] (uBp l n p.go).2).1
   have h3:=uE7 (l:=l) ih (uAQ l [44] (uBp l n p.go).2)
   have h4:=(uBs l [62] (uA6 l (uBp l n) (uAQ l [44] (uBp l n p.go).2)).2).1
   have h5:=uIq ((uBp l n p.go).1 :: (uA6 l (uBp l n) (uAQ l [44] (uBp l n p.go).2)).1) (by simp)
   rw[T.sizes,List.length_cons] at h5
   dsimp only
   omega
  ·have h1:=(uA4 l [] p).1
   split
   ·have hg : (uAx l [] p).2.go.at'=(uAx l [] p).2.at' + 1:=rfl
    split
    ·have hg2 : (uAx l [] p).2.go.go.at'=(uAx l [] p).2.at' + 2:=rfl
     have : (⟨3,(uAx l [] p).1,0,[]⟩ : T).size=1:=by rw[T.size_eq]; rfl
     dsimp only; omega
    ·have h3:=uE7 (l:=l) ih (uAx l [] p).2.go
     have h4:=(uBs l [41] (uA6 l (uBp l n) (uAx l [] p).2.go).2).1
     have h5 : (uA6 l (uBp l n) (uAx l [] p).2.go).1≠[]:=uMc _ _ _ (by simp)
     have h6:=List.length_pos_iff.2 h5
     have : (⟨3,(uAx l [] p).1,0,(uA6 l (uBp l n) (uAx l [] p).2.go).1⟩ : T).size=1 + T.sizes (uA6 l (uBp l n) (uAx l [] p).2.go).1:=by rw[T.size_eq]; rfl
     dsimp only; omega
   ·have : (⟨2,(uAx l [] p).1,0,[]⟩ : T).size=1:=by rw[T.size_eq]; rfl
    dsimp only; omega
structure Nar.Sm (n : Nar) (M : Nat) : Prop where
 steps : ∀ s ∈ n.steps,s.msg.size≤M
 goals : ∀ g ∈ n.goals,T.sizes g.data≤M
theorem uK9 {l : List Tk} (line : Int) {p : PS} (hp : p.at'≤l.length) : (uGx l line p).1.msg.size≤2 * l.length + 2:=by
 have h:=(uG0 l line p).2 hp
 have := uFe l (l.length + 1) (uAQ l [58] (uAx l [] (uAQ l [62] (uAQ l [45] (uAx l [] p).2))).2)
 have h2 : (uBp l (l.length + 1) (uAQ l [58] (uAx l [] (uAQ l [62] (uAQ l [45] (uAx l [] p).2))).2)).2.at'≤l.length:=h
 show (uBp l (l.length + 1) (uAQ l [58] (uAx l [] (uAQ l [62] (uAQ l [45] (uAx l [] p).2))).2)).1.size≤_
 omega
theorem uLH {l : List Tk} (line : Int) {p : PS} (hp : p.at'≤l.length) : T.sizes (uGa l line p).1.data≤2 * l.length + 2:=by
 have h:=(uGB l line p).2 hp
 have := uE7 (l := l) (uFe l (l.length + 1)) (uAQ l [58] (if uBo (1 + uBk kindW (uAx l kindW p).1)=true then uAx l [] (uAx l [] (uAx l kindW p).2).2 else ([],(uAx l [] (uAx l kindW p).2).2)).2)
 have h2 : (uA6 l (uBp l (l.length + 1)) (uAQ l [58] (if uBo (1 + uBk kindW (uAx l kindW p).1)=true then uAx l [] (uAx l [] (uAx l kindW p).2).2 else ([],(uAx l [] (uAx l kindW p).2).2)).2)).2.at'≤l.length:=h
 show T.sizes (uA6 l (uBp l (l.length + 1)) (uAQ l [58] (if uBo (1 + uBk kindW (uAx l kindW p).1)=true then uAx l [] (uAx l [] (uAx l kindW p).2).2 else ([],(uAx l [] (uAx l kindW p).2).2)).2)).1≤_
 omega
theorem uOw {l : List Tk} {n : Nar} {p : PS} (h : n.Sm (2 * l.length + 2)) (hp : p.at'≤l.length) : (uDO l n p).1.Sm (2 * l.length + 2):=by
 have hq:=(uA4 l uBA p).2 hp
 show (uDe l n (uCy l p) (uAx l uBA p).1 (uAx l uBA p).2).1.Sm _
 unfold uDe
 repeat' split
 ·exact ⟨h.steps,h.goals⟩
 ·exact ⟨h.steps,h.goals⟩
 ·exact ⟨h.steps,h.goals⟩
 ·refine ⟨fun s hs=>?_,h.goals⟩
  rcases List.mem_append.1 hs with q | q
  ·exact h.steps s q
  ·simp at q; subst q; exact uK9 _ hq
 ·refine ⟨h.steps,fun g hg=>?_⟩
  rcases List.mem_append.1 hg with q | q
  ·exact h.goals g q
  ·simp at q; subst q; exact uLH _ hq
 ·exact h
end Go.Proofs.YteidahabkfgfjaaGreat
namespace Go.Proofs.YteidahabkfgfjaaGreat
open Go Go.Proofs Go.RowKit Go.Shelf
attribute [local go_sem] Oper.semAt_some
def KeepB (n₀ Bo : Nat) (W W' : World) : Prop:=∀ b,b < n₀→b≠Bo→W'.heap[b]? = W.heap[b]?
theorem KeepB.refl (n₀ Bo : Nat) (W : World) : KeepB n₀ Bo W W:=fun _ _ _=>rfl
theorem KeepB.trans {n₀ Bo : Nat} {A B C : World} (h : KeepB n₀ Bo A B) (k : KeepB n₀ Bo B C) : KeepB n₀ Bo A C:=fun b h1 h2=>(k b h1 h2).trans (h b h1 h2)
theorem KeepB.cell {n₀ Bo : Nat} {A B : World} (h : KeepB n₀ Bo A B) {b : Nat} (o : Nat) (h1 : b < n₀) (h2 : b≠Bo) : B.cell? ⟨b,o,none⟩=A.cell? ⟨b,o,none⟩:=by
 unfold World.cell?; dsimp only; rw[h b h1 h2]
theorem KeepB.alloc {n₀ Bo : Nat} (W : World) (ob : Obj) (h : n₀≤W.heap.size) : KeepB n₀ Bo W (W.alloc ob):=fun b h1 _=>Below.heap_alloc W ob b (by omega)
abbrev tStr (l : List UInt8) : Value:=.string ⟨l.toArray⟩
end Go.Proofs.YteidahabkfgfjaaGreat
namespace Go.Proofs.YteidahabkfgfjaaGreat
open Go Go.Abs
theorem map_take {α β : Type} (f : α→β) {l : List α} {d : α} {k : Nat} (h : k < l.length) : (l.take (k + 1)).map f=(l.take k).map f++[f (l.getD k d)]:=by rw[uBr (d:=d) h,List.map_append]; rfl
def Nar.lk (n : Nar) (k : Nat) : List (List UInt8):=[uKn n,(Itm.roles n.roles).text]++(frI n.fresh k).map Itm.text
def Nar.rest (n : Nar) (j k : Nat) : List (List UInt8):=n.lk n.fresh.length++((if n.tags=[] then [] else [(Itm.tags n.tags).text])++((n.steps.take j).map (fun s=>(Itm.step s).text)++(n.goals.take k).map fun g=>(Itm.goal g).text))
theorem uLS : Ctr sys 154 [] [] (xss uBC) none []:=by
 refine uAA Tryz.func154 rfl rfl rfl rfl rfl rfl ?_;refine uAd (uAb ?_);refine uAa rfl rfl rfl (uAe rfl gU) ?_;refine uAf ?_;refine uAd (uAb ?_);refine uAN (xs:=[_,_,_,_,_,_]) rfl rfl rfl rfl rfl rfl rfl rfl rfl gU rfl ?_;refine uAa rfl rfl rfl (uAe rfl gU) ?_;refine uAf ?_;refine uAp ?_
 repeat(first|refine tR ?_|refine bR ?_)
 refine uAt rfl ?_ trivial
 rfl
theorem uF8 : Ctr sys 152 [] [] (xss uBm) none []:=by
 refine uAA Tryz.func152 rfl rfl rfl rfl rfl rfl ?_;refine uAd (uAb ?_);refine uAa rfl rfl rfl (uAe rfl gU) ?_;refine uAf ?_;refine uAd (uAb ?_);refine uAN (xs:=[_,_,_,_,_]) rfl rfl rfl rfl rfl rfl rfl rfl rfl gU rfl ?_;refine uAa rfl rfl rfl (uAe rfl gU) ?_;refine uAf ?_;refine uAp ?_
 repeat(first|refine tR ?_|refine bR ?_)
 refine uAt rfl ?_ trivial
 rfl
theorem uKk (n : Nar) : uB9 n=n.roles++(n.fresh.map Fs.name++n.tags):=by
 rw[uB9,nmsL]
 simp [List.map_append,List.map_map,Function.comp_def]
theorem shkT_iff {R : List (List UInt8)} {t : T} : shkT R t=true ↔ ((isT t wShk 2=true∧uEs R (kid t 0)=true)∧uEs R (kid t 1)=true) ∧ ¬ (kid t 0).name=(kid t 1).name:=by simp [shkT]
theorem uOh (n : Nar) : (dclL n).map (·.1)=uB9 n:=by
 rw[dclL,uKk]
 simp [List.map_append,List.map_map,Function.comp_def]
namespace T
def cmp0 (a b : T) : Int :=
 if uB2 a.size b.size≠0 then uB2 a.size b.size else if uB2 a.kind b.kind≠0 then uB2 a.kind b.kind
 else if Op.bytesLess a.name b.name=true then -1 else if (!(Op.bytesLess a.name b.name || a.name == b.name))=true then 1
 else if uB2 a.sort b.sort≠0 then uB2 a.sort b.sort else uB2 a.kids.length b.kids.length
mutual
def cmp : T→T→Int
 | mk k n s ks,b=>if cmp0 (mk k n s ks) b≠0 then cmp0 (mk k n s ks) b else cmps ks b.kids
def cmps : List T→List T→Int
 | [],_=>0
 | _ :: _,[]=>0
 | x :: xs,y :: ys=>if cmp x y≠0 then cmp x y else cmps xs ys
end
theorem cmp_eq (a b : T) : a.cmp b=if cmp0 a b≠0 then cmp0 a b else cmps a.kids b.kids:=by cases a; rw[cmp]; rfl
theorem cmps_hit : ∀ (a b : List T) (k : Nat) (x y : T),a[k]? = some x→b[k]? = some y→cmps (a.take k) (b.take k)=0→x.cmp y≠0→cmps a b=x.cmp y
 | [],b,k,x,y,h,_,_,_=>by simp at h
 | _ :: _,[],k,x,y,_,h,_,_=>by simp at h
 | a :: ar,b :: br,0,x,y,h,h',_,hx=>by simp at h h'; subst h; subst h'; rw[cmps,if_pos hx]
 | a :: ar,b :: br,k + 1,x,y,h,h',h0,hx=>by
  rw[List.take_succ_cons,List.take_succ_cons,cmps] at h0
  rw[cmps]
  by_cases ht : a.cmp b=0
  ·rw[if_neg (by simpa using ht)] at h0
   rw[if_neg (by simpa using ht)]
   exact cmps_hit ar br k x y (by simpa using h) (by simpa using h') h0 hx
  ·rw[if_pos ht] at h0; exact absurd h0 ht
theorem cmps_step : ∀ (a b : List T) (k : Nat) (x y : T),a[k]? = some x→b[k]? = some y→cmps (a.take k) (b.take k)=0→x.cmp y=0→cmps (a.take (k + 1)) (b.take (k + 1))=0
 | [],b,k,x,y,h,_,_,_=>by simp at h
 | _ :: _,[],k,x,y,_,h,_,_=>by simp at h
 | a :: ar,b :: br,0,x,y,h,h',_,hx=>by simp at h h'; subst h; subst h'; simp [cmps,hx]
 | a :: ar,b :: br,k + 1,x,y,h,h',h0,hx=>by
  rw[List.take_succ_cons,List.take_succ_cons,cmps] at h0
  rw[List.take_succ_cons,List.take_succ_cons,cmps]
  by_cases ht : a.cmp b=0
  ·rw[if_neg (by simpa using ht)] at h0
   rw[if_neg (by simpa using ht)]
   exact cmps_step ar br k x y (by simpa using h) (by simpa using h') h0 hx
  ·rw[if_pos ht] at h0; exact absurd h0 ht
end T
theorem uJ6 {a b : Int} (h : uB2 a b=0) : a=b:=by
 unfold uB2 at h; split at h
 ·omega
 ·split at h <;> omega
def uQK (a b : T) (k : Nat) : St:={ t:=[(2,true, .v (.ptr (.l 2) 0)),(3,true, .v (.ptr (.l 3) 0)),(9,true,xi k)],bx:=[(.l 2,a.cells),(.l 3,b.cells)],ow:=[] }
theorem uJb : ∀ (n : Nat) (a b : T),a.size≤n→n≤2000000→b.size≤2000000→Ctr sys 89 [xm a,xm b] [] (xi (a.cmp b)) none []:=by
 intro n
 induction n with
 | zero=>intro t _ h; have := t.size_pos; omega
 | succ n ih =>
  intro a b ha hn hb
  have hls:=T.len_sizes a.kids
  have hse:=a.size_eq
  refine uAA Tryz.func89 rfl rfl rfl rfl rfl rfl ?_;refine uAd (uAb ?_);refine uAq rfl (uAK rfl rfl rfl rfl) ?_;refine uAq rfl (uAK rfl rfl rfl rfl) ?_;refine uAa rfl rfl rfl (uAe rfl gU) ?_;refine uAf ?_;refine uAd ?_;refine uAd ?_;refine awp_drawn' (by kernel_rfl) ?_;refine uAF rfl rfl rfl rfl rfl rfl rfl gU rfl rfl rfl rfl rfl ?_;refine uAZ rfl rfl rfl rfl rfl rfl rfl gU gU (uEO _ a (Nat.le_refl _) (by omega)) rfl ?_;refine uAF rfl rfl rfl rfl rfl rfl rfl gU rfl rfl rfl rfl rfl ?_;refine uAZ rfl rfl rfl rfl rfl rfl rfl gU gU (uEO _ b (Nat.le_refl _) hb) rfl ?_;refine uAZ rfl rfl rfl rfl rfl rfl rfl gU gU (uEJ _ _) rfl ?_;refine uAw rfl rfl rfl rfl (uAe rfl gU) ?_;refine uA5 (by kernel_rfl) ?_;refine uAk (s:=⟨[(2,_,_),(3,_,_),(5,_,_)],[(.l 2,_),(.l 3,_)],[],[]⟩) (uAi (⟨sx rfl,sx rfl,sx rfl,trivial⟩) (⟨sx rfl,sx rfl,trivial⟩) trivial) ?_;refine uAd (uAb ?_);refine uAa rfl rfl rfl (uAc rfl gU) ?_;refine uAa rfl rfl rfl (uAm rfl rfl gU gU rfl) ?_;refine uAf ?_;refine uAn rfl (fun hc=>?_) (fun hc=>?_)
  ·refine uAd (uAb ?_)
   refine uAa rfl rfl rfl (uAc rfl gU) ?_;refine uAa rfl rfl rfl (uAe rfl gU) ?_;refine uAf ?_;refine uAp ?_
   repeat(first|refine tR ?_|refine bR ?_)
   refine uAt rfl ?_ trivial;refine uBa ?_
   rw[T.cmp_eq]
   have h0 : T.cmp0 a b=uB2 a.size b.size:=by rw[T.cmp0,if_pos (by simpa using hc)]
   rw[h0,if_pos (by simpa using hc)]
  ·have e1 : ¬ uB2 (a.size : Int) (b.size : Int)≠0:=by simpa using hc
   refine uAo ?_;refine uAd ?_;refine uAd (uAb ?_);refine uAa rfl rfl rfl (uAg rfl gU rfl rfl) ?_;refine uAa rfl rfl rfl (uAh rfl gU rfl rfl rfl rfl) ?_;refine uAa rfl rfl rfl (uAg rfl gU rfl rfl) ?_;refine uAa rfl rfl rfl (uAh rfl gU rfl rfl rfl rfl) ?_;refine uAu rfl rfl rfl rfl rfl rfl gU gU (uEJ _ _) rfl ?_;refine uAa rfl rfl rfl (uAe rfl gU) ?_;refine uAf ?_;refine uAk (s:=⟨[(2,_,_),(3,_,_),(6,_,_)],[(.l 2,_),(.l 3,_)],[],[]⟩) (uAi (⟨sx rfl,sx rfl,sx rfl,trivial⟩) (⟨sx rfl,sx rfl,trivial⟩) trivial) ?_;refine uAd (uAb ?_);refine uAa rfl rfl rfl (uAc rfl gU) ?_;refine uAa rfl rfl rfl (uAm rfl rfl gU gU rfl) ?_;refine uAf ?_;refine uAn rfl (fun hc2=>?_) (fun hc2=>?_)
   ·refine uAd (uAb ?_)
    refine uAa rfl rfl rfl (uAc rfl gU) ?_;refine uAa rfl rfl rfl (uAe rfl gU) ?_;refine uAf ?_;refine uAp ?_
    repeat(first|refine tR ?_|refine bR ?_)
    refine uAt rfl ?_ trivial;refine uBa ?_
    have h0 : T.cmp0 a b=uB2 a.kind b.kind:=by rw[T.cmp0,if_neg e1,if_pos (by simpa using hc2)]
    rw[T.cmp_eq,h0,if_pos (by simpa using hc2)]
   ·have e2 : ¬ uB2 a.kind b.kind≠0:=by simpa using hc2
    refine uAo ?_;refine uAd ?_;refine uAd (uAb ?_);refine uAa rfl rfl rfl (uAg rfl gU rfl rfl) ?_;refine uAa rfl rfl rfl (uAh rfl gU rfl rfl rfl rfl) ?_;refine uAa rfl rfl rfl (uAg rfl gU rfl rfl) ?_;refine uAa rfl rfl rfl (uAh rfl gU rfl rfl rfl rfl) ?_;refine uAa rfl rfl rfl (uA7 rfl rfl gU gU rfl) ?_;refine uAf ?_;refine uAk (s:=⟨[(2,_,_),(3,_,_),(31,_,_)],[(.l 2,_),(.l 3,_)],[],[]⟩) (uAi (⟨sx rfl,sx rfl,sx rfl,trivial⟩) (⟨sx rfl,sx rfl,trivial⟩) trivial) ?_;refine uAn rfl (fun hc3=>?_) (fun hc3=>?_)
    ·refine uAd (uAb ?_)
     refine uAa rfl rfl rfl (uAe rfl gU) ?_;refine uAf ?_;refine uAp ?_
     repeat(first|refine tR ?_|refine bR ?_)
     refine uAt rfl ?_ trivial;refine uBa ?_
     have h0 : T.cmp0 a b = -1:=by rw[T.cmp0,if_neg e1,if_neg e2,if_pos hc3]
     rw[T.cmp_eq,h0]; rfl
    ·refine uAo ?_
     refine uAd ?_;refine uAd (uAb ?_);refine uAa rfl rfl rfl (uAg rfl gU rfl rfl) ?_;refine uAa rfl rfl rfl (uAh rfl gU rfl rfl rfl rfl) ?_;refine uAa rfl rfl rfl (uAg rfl gU rfl rfl) ?_;refine uAa rfl rfl rfl (uAh rfl gU rfl rfl rfl rfl) ?_;refine uAa rfl rfl rfl (uA7 rfl rfl gU gU rfl) ?_;refine uAf ?_;refine uAk (s:=⟨[(2,_,_),(3,_,_),(36,_,_)],[(.l 2,_),(.l 3,_)],[],[]⟩) (uAi (⟨sx rfl,sx rfl,sx rfl,trivial⟩) (⟨sx rfl,sx rfl,trivial⟩) trivial) ?_;refine uAn rfl (fun hc4=>?_) (fun hc4=>?_)
     ·refine uAd (uAb ?_)
      refine uAa rfl rfl rfl (uAe rfl gU) ?_;refine uAf ?_;refine uAp ?_
      repeat(first|refine tR ?_|refine bR ?_)
      refine uAt rfl ?_ trivial;refine uBa ?_
      have h0 : T.cmp0 a b=1:=by rw[T.cmp0,if_neg e1,if_neg e2,if_neg (by rw[hc3]; simp),if_pos hc4]
      rw[T.cmp_eq,h0]; rfl
     ·refine uAo ?_
      refine uAd ?_;refine uAd (uAb ?_);refine uAa rfl rfl rfl (uAg rfl gU rfl rfl) ?_;refine uAa rfl rfl rfl (uAh rfl gU rfl rfl rfl rfl) ?_;refine uAa rfl rfl rfl (uAg rfl gU rfl rfl) ?_;refine uAa rfl rfl rfl (uAh rfl gU rfl rfl rfl rfl) ?_;refine uAu rfl rfl rfl rfl rfl rfl gU gU (uEJ _ _) rfl ?_;refine uAa rfl rfl rfl (uAe rfl gU) ?_;refine uAf ?_;refine uAk (s:=⟨[(2,_,_),(3,_,_),(7,_,_)],[(.l 2,_),(.l 3,_)],[],[]⟩) (uAi (⟨sx rfl,sx rfl,sx rfl,trivial⟩) (⟨sx rfl,sx rfl,trivial⟩) trivial) ?_;refine uAd (uAb ?_);refine uAa rfl rfl rfl (uAc rfl gU) ?_;refine uAa rfl rfl rfl (uAm rfl rfl gU gU rfl) ?_;refine uAf ?_;refine uAn rfl (fun hc5=>?_) (fun hc5=>?_)
      ·refine uAd (uAb ?_)
       refine uAa rfl rfl rfl (uAc rfl gU) ?_;refine uAa rfl rfl rfl (uAe rfl gU) ?_;refine uAf ?_;refine uAp ?_
       repeat(first|refine tR ?_|refine bR ?_)
       refine uAt rfl ?_ trivial;refine uBa ?_
       have h0 : T.cmp0 a b=uB2 a.sort b.sort:=by rw[T.cmp0,if_neg e1,if_neg e2,if_neg (by rw[hc3]; simp),if_neg (by rw[hc4]; simp),if_pos (by simpa using hc5)]
       rw[T.cmp_eq,h0,if_pos (by simpa using hc5)]
      ·have e5 : ¬ uB2 a.sort b.sort≠0:=by simpa using hc5
       have h0 : T.cmp0 a b=uB2 a.kids.length b.kids.length:=by rw[T.cmp0,if_neg e1,if_neg e2,if_neg (by rw[hc3]; simp),if_neg (by rw[hc4]; simp),if_neg e5]
       refine uAo ?_;refine uAd ?_;refine uAd (uAb ?_);refine uAa rfl rfl rfl (uAg rfl gU rfl rfl) ?_;refine uAa rfl rfl rfl (uAh rfl gU rfl rfl rfl rfl) ?_;refine uAI rfl rfl rfl rfl rfl gU rfl rfl ?_ (fun hh=>by simp at hh); intro hlen;refine uAa rfl rfl rfl (uAg rfl gU rfl rfl) ?_;refine uAa rfl rfl rfl (uAh rfl gU rfl rfl rfl rfl) ?_;refine uAI rfl rfl rfl rfl rfl gU rfl rfl ?_ (fun hh=>by simp at hh); intro hlen;refine uAu rfl rfl rfl rfl rfl rfl gU gU (uEJ _ _) rfl ?_;refine uAa rfl rfl rfl (uAe rfl gU) ?_;refine uAf ?_;refine uAk (s:=⟨[(2,_,_),(3,_,_),(8,_,_)],[(.l 2,_),(.l 3,_)],[],[]⟩) (uAi (⟨sx rfl,sx rfl,sx rfl,trivial⟩) (⟨sx rfl,sx rfl,trivial⟩) trivial) ?_;refine uAd (uAb ?_);refine uAa rfl rfl rfl (uAc rfl gU) ?_;refine uAa rfl rfl rfl (uAm rfl rfl gU gU rfl) ?_;refine uAf ?_;refine uAn rfl (fun hc6=>?_) (fun hc6=>?_)
       ·refine uAd (uAb ?_)
        refine uAa rfl rfl rfl (uAc rfl gU) ?_;refine uAa rfl rfl rfl (uAe rfl gU) ?_;refine uAf ?_;refine uAp ?_
        repeat(first|refine tR ?_|refine bR ?_)
        refine uAt rfl ?_ trivial;refine uBa ?_
        simp only [T.rows_len] at hc6 ⊢
        rw[T.cmp_eq,h0,if_pos (by simpa using hc6)]
       ·simp only [T.rows_len] at hc6
        have e6 : uB2 (a.kids.length : Int) (b.kids.length : Int)=0:=by simpa using hc6
        have hll:=uJ6 e6
        have hll' : a.kids.length=b.kids.length:=by omega
        have hC : a.cmp b=T.cmps a.kids b.kids:=by rw[T.cmp_eq,h0,if_neg (by simpa using e6)]
        refine uAo ?_;refine uAd ?_;refine uAd (uAb ?_);refine uAa rfl rfl rfl (uAe rfl gU) ?_;refine uAf ?_;refine uAr ?_;refine uCz (uQK a b) (fun k=>k≤a.kids.length∧T.cmps (a.kids.take k) (b.kids.take k)=0) (fun k=>a.kids.length - k) 0 ⟨Nat.zero_le _,by simp [T.cmps]⟩ ?_ ?_
        ·refine uAi ⟨⟨_,rfl,rfl⟩,⟨_,rfl,rfl⟩,⟨_,rfl,rfl⟩,trivial⟩ ⟨⟨_,rfl,rfl⟩,⟨_,rfl,rfl⟩,trivial⟩ trivial
        ·rintro k ⟨hk,hz⟩
         refine uAd ?_;refine uAd (uAb ?_);refine uAa rfl rfl rfl (uAc rfl gU) ?_;refine uAa rfl rfl rfl (uAg rfl gU rfl rfl) ?_;refine uAa rfl rfl rfl (uAh rfl gU rfl rfl rfl rfl) ?_;refine uAI rfl rfl rfl rfl rfl gU rfl rfl ?_ (fun hh=>by simp at hh); intro hlen;refine uAa rfl rfl rfl (uAm rfl rfl gU gU rfl) ?_;refine uAf ?_;refine uAk (s:=⟨[(2,_,_),(3,_,_),(9,_,_),(59,_,_)],[(.l 2,_),(.l 3,_)],[],[]⟩) (uAi (⟨sx rfl,sx rfl,sx rfl,sx rfl,trivial⟩) (⟨sx rfl,sx rfl,trivial⟩) trivial) ?_;refine uAn rfl (fun hc7=>?_) (fun hc7=>?_)
         ·rw[T.rows_len] at hc7
          have hlt : k < a.kids.length:=by simpa using hc7
          obtain ⟨x,hx⟩ : ∃ x,a.kids[k]? = some x:=⟨_,List.getElem?_eq_getElem hlt⟩
          obtain ⟨y,hy⟩ : ∃ y,b.kids[k]? = some y:=⟨_,List.getElem?_eq_getElem (by omega)⟩
          have q1:=T.size_kid hx
          have q2:=T.size_kid hy
          refine uAo ?_;refine uAd ?_;refine uAr ?_;refine uAd ?_;refine awp_drawn' (by kernel_rfl) ?_;refine uAw rfl rfl rfl rfl (uAg rfl gU rfl rfl) ?_;refine uBO rfl rfl rfl rfl rfl rfl rfl gU rfl rfl rfl rfl ?_;refine uAw rfl rfl rfl rfl (uAc rfl gU) ?_;refine uAw rfl rfl rfl rfl (uAv rfl rfl gU gU rfl rfl rfl (fun _=>T.rows_get hx)) ?_;refine uAw rfl rfl rfl rfl (uAE rfl gU rfl rfl rfl rfl) ?_;refine uAw rfl rfl rfl rfl (uAg rfl gU rfl rfl) ?_;refine uBO rfl rfl rfl rfl rfl rfl rfl gU rfl rfl rfl rfl ?_;refine uAw rfl rfl rfl rfl (uAc rfl gU) ?_;refine uAw rfl rfl rfl rfl (uAv rfl rfl gU gU rfl rfl rfl (fun _=>T.rows_get hy)) ?_;refine uAw rfl rfl rfl rfl (uAE rfl gU rfl rfl rfl rfl) ?_;refine uAZ rfl rfl rfl rfl rfl rfl rfl gU gU (ih x y (by omega) (by omega) (by omega)) rfl ?_;refine uAw rfl rfl rfl rfl (uAe rfl gU) ?_;refine uA5 (by kernel_rfl) ?_;refine uAk (s:=⟨[(2,_,_),(3,_,_),(9,_,_),(10,_,_)],[(.l 2,_),(.l 3,_)],[],[]⟩) (uAi (⟨sx rfl,sx rfl,sx rfl,sx rfl,trivial⟩) (⟨sx rfl,sx rfl,trivial⟩) trivial) ?_;refine uAd (uAb ?_);refine uAa rfl rfl rfl (uAc rfl gU) ?_;refine uAa rfl rfl rfl (uAm rfl rfl gU gU rfl) ?_;refine uAf ?_;refine uAn rfl (fun hc8=>?_) (fun hc8=>?_)
          ·refine uAd (uAb ?_)
           refine uAa rfl rfl rfl (uAc rfl gU) ?_;refine uAa rfl rfl rfl (uAe rfl gU) ?_;refine uAf ?_;refine uAp ?_
           repeat(first|refine tR ?_|refine bR ?_)
           refine uAt rfl ?_ trivial;exact uBa (by rw[hC,T.cmps_hit _ _ _ _ _ hx hy hz (by simpa using hc8)])
          ·refine uAo ?_
           refine uAb ?_;refine uAa rfl rfl rfl (uAc rfl gU) ?_;refine uAa rfl rfl rfl (uAz rfl rfl gU gU rfl (IntWalk.i64_in _ (by omega))) ?_;refine uAa rfl rfl rfl (uAe rfl gU) ?_;refine uAf ?_;refine ⟨k + 1,⟨by omega,T.cmps_step _ _ _ _ _ hx hy hz (by simpa using hc8)⟩,by omega,?_⟩;refine uAi ⟨⟨_,rfl,rfl⟩,⟨_,rfl,rfl⟩,⟨_,rfl,rfl⟩,trivial⟩ ⟨⟨_,rfl,rfl⟩,⟨_,rfl,rfl⟩,trivial⟩ trivial
         ·refine uAJ ?_
          repeat(first|refine uAC ?_|refine uAD ?_|refine uAB rfl ?_)
          refine uAd (uAb ?_);refine uAa rfl rfl rfl (uAe rfl gU) ?_;refine uAf ?_;refine uAp ?_
          repeat(first|refine tR ?_|refine bR ?_)
          refine uAt rfl ?_ trivial
          rw[T.rows_len] at hc7
          have hke : k=a.kids.length:=by simp at hc7; omega
          subst hke
          rw[List.take_length,hll',List.take_length] at hz
          exact uBa (by rw[hC,hz])
end Go.Proofs.YteidahabkfgfjaaGreat
namespace Go.Proofs.YteidahabkfgfjaaGreat
open Go Go.Abs
theorem map_none {α β : Type} (f : Itm→List β) (g : α→Itm) (hf : ∀ x,f (g x)=[]) (l : List α) : (l.map g).flatMap f=[]:=by
 rw[List.flatMap_eq_nil_iff]
 intro i hi
 obtain ⟨x,_,rfl⟩:=List.mem_map.1 hi
 exact hf x
theorem uJi (a b : List Int) (h : a=b) : Ctr sys 15 [xis a,xis b] [] (xb true) none []:=by
 have la:=uBL a
 have lb:=uBL b
 have hl : a.length=b.length:=by rw[h]
 refine uAA Tryz.func15 rfl rfl rfl rfl rfl rfl ?_;refine uAd (uAb ?_);refine uAa rfl rfl rfl (uAe rfl gU) ?_;refine uAf ?_;refine uAd ?_;refine uAd (uAb ?_);refine uAa rfl rfl rfl (uAc rfl gU) ?_;refine uAI rfl rfl rfl rfl rfl gU rfl rfl ?_ (fun hh=>by simp at hh); intro hlen;refine uAa rfl rfl rfl (uAc rfl gU) ?_;refine uAI rfl rfl rfl rfl rfl gU rfl rfl ?_ (fun hh=>by simp at hh); intro hlen;refine uAa rfl rfl rfl (uAm rfl rfl gU gU rfl) ?_;refine uAf ?_;refine uAk (s:=⟨[(0,_,_),(1,_,_),(10,_,_)],[],[],[]⟩) (uAi (⟨sx rfl,sx rfl,sx rfl,trivial⟩) trivial trivial) ?_;refine uAn rfl (fun hc=>?_) (fun hc=>?_)
 ·try simp only [nn,uBL] at hc
  exact absurd (by omega) hc
 ·try simp only [nn,uBL] at hc
  refine uAo ?_;refine uAd ?_;refine uAd (uAb ?_);refine uAa rfl rfl rfl (uAc rfl gU) ?_;refine uAI rfl rfl rfl rfl rfl gU rfl rfl ?_ (fun hh=>by simp at hh); intro hlen;refine uAa rfl rfl rfl (uAc rfl gU) ?_;refine uAf ?_;refine uAr ?_;refine uAW (ι:=Nat) { t:=[(0,_,_),(1,_,_),(12,_,_)],bx:=[],ow:=[] } (fun k=>[(13,true,xi (k : Int))]) (fun k=>[]) (fun k=>k≤a.length) (fun k=>a.length - k) (0) (by simp) (uAi (⟨sx rfl,sx rfl,sx rfl,sx rfl,trivial⟩) trivial trivial) ?_
  intro k hok
  dsimp only [List.cons_append,List.nil_append]
  refine uAd (uAb ?_);refine uAa rfl rfl rfl (uAm rfl rfl gU gU rfl) ?_;refine uAf ?_;refine uAd ?_;refine uAn rfl (fun hc2=>?_) (fun hc2=>?_)
  ·try simp only [nn,uBL] at hc2
   refine uAo ?_;refine uAd ?_;refine uAr ?_;refine uAd (uAb ?_);refine uAa rfl rfl rfl (uAc rfl gU) ?_;refine uAa rfl rfl rfl (uAe rfl gU) ?_;refine uAf ?_;refine uAd ?_;refine awp_drawn' (by kernel_rfl) ?_;refine uAw rfl rfl rfl rfl (uAc rfl gU) ?_;refine uAw rfl rfl rfl rfl (uAc rfl gU) ?_;refine uAw rfl rfl rfl rfl (uAv rfl rfl gU gU rfl rfl rfl (fun hh=>uL8 (by first|omega|(simp at hh ⊢; omega)))) ?_;refine uAw rfl rfl rfl rfl (uAU rfl gU rfl rfl rfl) ?_;refine uAw rfl rfl rfl rfl (uAc rfl gU) ?_;refine uAw rfl rfl rfl rfl (uAc rfl gU) ?_;refine uAw rfl rfl rfl rfl (uAv rfl rfl gU gU rfl rfl rfl (fun hh=>uL8 (by first|omega|(simp at hh ⊢; omega)))) ?_;refine uAw rfl rfl rfl rfl (uAU rfl gU rfl rfl rfl) ?_;refine uAw rfl rfl rfl rfl (uAm rfl rfl gU gU rfl) ?_;refine uA5 (by kernel_rfl) ?_;refine uAk (s:=⟨[(0,_,_),(1,_,_),(12,_,_),(13,_,_),(24,_,_)],[],[],[]⟩) (uAi (⟨sx rfl,sx rfl,sx rfl,sx rfl,sx rfl,trivial⟩) trivial trivial) ?_;refine uAn rfl (fun hc3=>?_) (fun hc3=>?_)
   ·try simp only [nn,uBL] at hc3
    exact absurd (by rw[h]) hc3
   ·try simp only [nn,uBL] at hc3
    refine uAo ?_;refine uAb ?_;refine uAa rfl rfl rfl (uAz rfl rfl gU gU rfl (IntWalk.i64_in _ (by omega))) ?_;refine uAa rfl rfl rfl (uAc rfl gU) ?_;refine uAf ?_;refine ⟨k + 1,?_,?_,uAi (⟨⟨_,rfl,?_⟩,⟨sx rfl,sx rfl,sx rfl,trivial⟩⟩) trivial trivial⟩
    all_goals (first|rfl|omega)
  ·try simp only [nn,uBL] at hc2
   refine uAJ ?_
   repeat(first|refine uAC ?_|refine uAD ?_|refine uAB rfl ?_)
   refine uAd (uAb ?_);refine uAa rfl rfl rfl (uAe rfl gU) ?_;refine uAf ?_;refine uAp ?_
   repeat(first|refine tR ?_|refine bR ?_)
   refine uAt rfl ?_ trivial
   rfl
namespace T
mutual
def bud : T→Int→Int
 | mk _ nm _ ks,m=>if m≤0∨40 < nm.length then -1 else buds ks (m - 1)
def buds : List T→Int→Int
 | [],m=>m
 | t :: ts,m=>if bud t m < 0 then -1 else buds ts (bud t m)
end
theorem bud_eq (t : T) (m : Int) : t.bud m=if m≤0∨40 < t.name.length then -1 else buds t.kids (m - 1):=by cases t; rw[bud]; rfl
mutual
theorem uQk : ∀ (t : T) (m : Int),0≤t.bud m→t.bud m + t.size≤m
 | mk _ nm _ ks,m,h=>by
  rw[bud] at h ⊢
  rw[size]
  split at h
  ·omega
  ·rename_i hn
   rw[if_neg hn]
   have := buds_le ks (m - 1) h
   omega
theorem buds_le : ∀ (ts : List T) (m : Int),0≤buds ts m→buds ts m + sizes ts≤m
 | [],m,_=>by rw[buds,sizes]; omega
 | t :: ts,m,h=>by
  rw[buds] at h ⊢
  rw[sizes]
  split at h
  ·omega
  ·rename_i hn
   rw[if_neg hn]
   have h1:=uQk t m (by omega)
   have h2:=buds_le ts (t.bud m) h
   omega
end
theorem buds_step : ∀ (ts : List T) (k : Nat) (x : T) (m : Int),ts[k]? = some x→0≤buds (ts.take k) m→0≤x.bud (buds (ts.take k) m)→buds (ts.take (k + 1)) m=x.bud (buds (ts.take k) m)
 | [],k,x,m,h,_,_=>by simp at h
 | t :: ts,0,x,m,h,h0,hx=>by
  simp at h; subst h
  simp only [List.take_zero,buds] at hx ⊢
  simp only [List.take_succ_cons,List.take_zero,buds]
  rw[if_neg (by omega)]
 | t :: ts,k + 1,x,m,h,h0,hx=>by
  rw[List.take_succ_cons,buds] at h0 hx ⊢
  rw[List.take_succ_cons,buds]
  split at h0
  ·omega
  ·rename_i hn
   rw[if_neg hn] at hx ⊢
   rw[if_neg hn]
   exact buds_step ts k x _ (by simpa using h) h0 hx
theorem buds_hit : ∀ (ts : List T) (k : Nat) (x : T) (m : Int),ts[k]? = some x→0≤buds (ts.take k) m→x.bud (buds (ts.take k) m) < 0→buds ts m = -1
 | [],k,x,m,h,_,_=>by simp at h
 | t :: ts,0,x,m,h,h0,hx=>by
  simp at h; subst h
  simp only [List.take_zero,buds] at hx
  rw[buds,if_pos hx]
 | t :: ts,k + 1,x,m,h,h0,hx=>by
  rw[List.take_succ_cons,buds] at h0 hx
  rw[buds]
  split at h0
  ·omega
  ·rename_i hn
   rw[if_neg hn] at hx ⊢
   exact buds_hit ts k x _ (by simpa using h) h0 hx
end T
def fewB (l : List T) (n : Nat) (m : Int) : Bool:=decide (l.length≤n) && decide (0≤T.buds l m)
theorem uLk {l : List T} {n : Nat} {m : Int} (h : fewB l n m=true) : l.length≤n∧T.sizes l≤m:=by
 simp only [fewB,Bool.and_eq_true,decide_eq_true_eq] at h
 have := T.buds_le l m h.2
 exact ⟨h.1,by omega⟩
def budS (t : T) (m : Int) (k : Nat) : St:={ t:=[(1,true,xi (T.buds (t.kids.take k) (m - 1))),(2,true, .v (.ptr (.l 2) 0)),(5,true,xi k)],bx:=[(.l 2,t.cells)],ow:=[] }
theorem uKe : ∀ (n : Nat) (t : T) (m : Int),m≤n→n≤2000000 → -2000000≤m→Ctr sys 70 [xm t,xi m] [] (xi (t.bud m)) none []:=by
 intro n
 induction n with
 | zero =>
  intro t m hm _ _
  refine uAA Tryz.func70 rfl rfl rfl rfl rfl rfl ?_;refine uAd (uAb ?_);refine uAq rfl (uAK rfl rfl rfl rfl) ?_;refine uAa rfl rfl rfl (uAe rfl gU) ?_;refine uAf ?_;refine uAd ?_;refine uAd (uAb ?_);refine uAa rfl rfl rfl (uAc rfl gU) ?_;refine uAa rfl rfl rfl (uAm rfl rfl gU gU rfl) ?_;refine uAa rfl rfl rfl (uAc rfl gU) ?_;refine uAa rfl rfl rfl (uAg rfl gU rfl rfl) ?_;refine uAa rfl rfl rfl (uAh rfl (fun hh=>hh) rfl rfl rfl rfl) ?_;refine uAa rfl rfl rfl (uCk rfl (fun hh=>hh) (Tryz.underlying9)) ?_;refine uAa rfl rfl rfl (uAm rfl rfl (fun hh=>hh) gU rfl) ?_;refine uAa rfl rfl rfl (uAL rfl rfl gU (fun _ hi=>gP rfl hi)) ?_;refine uAf ?_;refine uAk (s:=⟨[(1,_,_),(2,_,_),(13,_,_)],[(.l 2,_)],[],[]⟩) (uAi (⟨sx rfl,sx rfl,sx rfl,trivial⟩) (⟨sx rfl,trivial⟩) trivial) ?_;refine uAn rfl (fun hc=>?_) (fun hc=>?_)
  ·refine uAd (uAb ?_)
   refine uAa rfl rfl rfl (uAe rfl gU) ?_;refine uAf ?_;refine uAp ?_
   repeat(first|refine tR ?_|refine bR ?_)
   refine uAt rfl ?_ trivial;refine uBa ?_
   rw[T.bud_eq,if_pos (by omega)]
  ·simp only [Bool.or_eq_false_iff,decide_eq_false_iff_not] at hc
   omega
 | succ n ih =>
  intro t m hm hn hm2
  refine uAA Tryz.func70 rfl rfl rfl rfl rfl rfl ?_;refine uAd (uAb ?_);refine uAq rfl (uAK rfl rfl rfl rfl) ?_;refine uAa rfl rfl rfl (uAe rfl gU) ?_;refine uAf ?_;refine uAd ?_;refine uAd (uAb ?_);refine uAa rfl rfl rfl (uAc rfl gU) ?_;refine uAa rfl rfl rfl (uAm rfl rfl gU gU rfl) ?_;refine uAa rfl rfl rfl (uAc rfl gU) ?_;refine uAa rfl rfl rfl (uAg rfl gU rfl rfl) ?_;refine uAa rfl rfl rfl (uAh rfl (fun hh=>hh) rfl rfl rfl rfl) ?_;refine uAa rfl rfl rfl (uCk rfl (fun hh=>hh) (Tryz.underlying9)) ?_;refine uAa rfl rfl rfl (uAm rfl rfl (fun hh=>hh) gU rfl) ?_;refine uAa rfl rfl rfl (uAL rfl rfl gU (fun _ hi=>gP rfl hi)) ?_;refine uAf ?_;refine uAk (s:=⟨[(1,_,_),(2,_,_),(13,_,_)],[(.l 2,_)],[],[]⟩) (uAi (⟨sx rfl,sx rfl,sx rfl,trivial⟩) (⟨sx rfl,trivial⟩) trivial) ?_;refine uAn rfl (fun hc=>?_) (fun hc=>?_)
  ·refine uAd (uAb ?_)
   refine uAa rfl rfl rfl (uAe rfl gU) ?_;refine uAf ?_;refine uAp ?_
   repeat(first|refine tR ?_|refine bR ?_)
   refine uAt rfl ?_ trivial;refine uBa ?_
   simp only [Bool.or_eq_true,decide_eq_true_eq] at hc
   rw[T.bud_eq,if_pos (by omega)]
  ·simp only [Bool.or_eq_false_iff,decide_eq_false_iff_not] at hc
   have hB : t.bud m=T.buds t.kids (m - 1):=by rw[T.bud_eq,if_neg (by omega)]
   refine uAo ?_;refine uAd (uAb ?_);refine uAa rfl rfl rfl (uAc rfl gU) ?_;refine uAa rfl rfl rfl (uAz rfl rfl gU gU rfl (IntWalk.i64_in _ (by omega))) ?_;refine uAa rfl rfl rfl (uAe rfl gU) ?_;refine uAf ?_;refine uAd ?_;refine uAd (uAb ?_);refine uAa rfl rfl rfl (uAe rfl gU) ?_;refine uAf ?_;refine uAr ?_;refine uCz (budS t m) (fun k=>k≤t.kids.length∧0≤T.buds (t.kids.take k) (m - 1)) (fun k=>t.kids.length - k) 0 ⟨Nat.zero_le _,by simp [T.buds]; omega⟩ ?_ ?_
   ·refine uAi ⟨⟨_,rfl,rfl⟩,⟨_,rfl,rfl⟩,⟨_,rfl,rfl⟩,trivial⟩ ⟨⟨_,rfl,rfl⟩,trivial⟩ trivial
   ·rintro k ⟨hk,hz⟩
    have hbl:=T.buds_le _ _ hz
    refine uAd ?_;refine uAd (uAb ?_);refine uAa rfl rfl rfl (uAc rfl gU) ?_;refine uAa rfl rfl rfl (uAg rfl gU rfl rfl) ?_;refine uAa rfl rfl rfl (uAh rfl gU rfl rfl rfl rfl) ?_;refine uAI rfl rfl rfl rfl rfl gU rfl rfl ?_ (fun hh=>by simp at hh); intro hlen;refine uAa rfl rfl rfl (uAm rfl rfl gU gU rfl) ?_;refine uAf ?_;refine uAk (s:=⟨[(1,_,_),(2,_,_),(5,_,_),(20,_,_)],[(.l 2,_)],[],[]⟩) (uAi (⟨sx rfl,sx rfl,sx rfl,sx rfl,trivial⟩) (⟨sx rfl,trivial⟩) trivial) ?_;refine uAn rfl (fun hc2=>?_) (fun hc2=>?_)
    ·rw[T.rows_len] at hlen hc2
     have hlt : k < t.kids.length:=by simpa using hc2
     obtain ⟨x,hx⟩ : ∃ x,t.kids[k]? = some x:=⟨_,List.getElem?_eq_getElem hlt⟩
     refine uAo ?_;refine uAd ?_;refine uAr ?_;refine uAd (uAb ?_);refine uAa rfl rfl rfl (uAg rfl gU rfl rfl) ?_;refine uAa rfl rfl rfl (uAh rfl gU rfl rfl rfl rfl) ?_;refine uAa rfl rfl rfl (uAc rfl gU) ?_;refine uAa rfl rfl rfl (uAv rfl rfl gU gU rfl rfl rfl (fun _=>T.rows_get hx)) ?_;refine uAa rfl rfl rfl (uAE rfl gU rfl rfl rfl rfl) ?_;refine uAa rfl rfl rfl (uAc rfl gU) ?_;refine uAu rfl rfl rfl rfl rfl rfl gU gU (ih x _ (by omega) (by omega) (by omega)) rfl ?_;refine uAa rfl rfl rfl (uAe rfl gU) ?_;refine uAf ?_;refine uAk (s:=⟨[(1,_,_),(2,_,_),(5,_,_)],[(.l 2,_)],[],[]⟩) (uAi (⟨sx rfl,sx rfl,sx rfl,trivial⟩) (⟨sx rfl,trivial⟩) trivial) ?_;refine uAd (uAb ?_);refine uAa rfl rfl rfl (uAc rfl gU) ?_;refine uAa rfl rfl rfl (uAm rfl rfl gU gU rfl) ?_;refine uAf ?_;refine uAn rfl (fun hc3=>?_) (fun hc3=>?_)
     ·refine uAd (uAb ?_)
      refine uAa rfl rfl rfl (uAe rfl gU) ?_;refine uAf ?_;refine uAp ?_
      repeat(first|refine tR ?_|refine bR ?_)
      refine uAt rfl ?_ trivial;refine uBa ?_
      simp only [decide_eq_true_eq] at hc3
      rw[hB,T.buds_hit _ _ _ _ hx hz hc3]
     ·simp only [decide_eq_false_iff_not] at hc3
      have hst:=T.buds_step _ _ _ _ hx hz (by omega)
      refine uAo ?_;refine uAb ?_;refine uAa rfl rfl rfl (uAc rfl gU) ?_;refine uAa rfl rfl rfl (uAz rfl rfl gU gU rfl (IntWalk.i64_in _ (by omega))) ?_;refine uAa rfl rfl rfl (uAe rfl gU) ?_;refine uAf ?_;refine ⟨k + 1,⟨by omega,by rw[hst]; omega⟩,by omega,?_⟩;refine uAi ⟨⟨_,rfl,by rw[hst]⟩,⟨_,rfl,rfl⟩,⟨_,rfl,rfl⟩,trivial⟩ ⟨⟨_,rfl,rfl⟩,trivial⟩ trivial
    ·refine uAJ ?_
     repeat(first|refine uAC ?_|refine uAD ?_|refine uAB rfl ?_)
     refine uAd (uAb ?_);refine uAa rfl rfl rfl (uAc rfl gU) ?_;refine uAa rfl rfl rfl (uAe rfl gU) ?_;refine uAf ?_;refine uAp ?_
     repeat(first|refine tR ?_|refine bR ?_)
     refine uAt rfl ?_ trivial
     rw[T.rows_len] at hc2
     have : k=t.kids.length:=by simp at hc2; omega
     subst this
     exact uBa (by rw[hB,List.take_length])
def fewS (l : List T) (n : Nat) (m : Int) (k : Nat) : St:={ t:=[(0,true,xl l),(2,true,xi (T.buds (l.take k) m)),(7,true,xi k)],bx:=[],ow:=[] }
theorem uPr (l : List T) (n : Nat) (m : Nat) (hm : m≤2000000) : Ctr sys 36 [xl l,xi n,xi m] [] (xb (fewB l n m)) none []:=by
 refine uAA Tryz.func36 rfl rfl rfl rfl rfl rfl ?_;refine uAd (uAb ?_);refine uAa rfl rfl rfl (uAe rfl gU) ?_;refine uAf ?_;refine uAd ?_;refine uAd (uAb ?_);refine uAa rfl rfl rfl (uAc rfl gU) ?_;refine uAI rfl rfl rfl rfl rfl gU rfl rfl ?_ (fun hh=>by simp at hh); intro hlen;refine uAa rfl rfl rfl (uAc rfl gU) ?_;refine uAa rfl rfl rfl (uAm rfl rfl gU gU rfl) ?_;refine uAf ?_;refine uAk (s:=⟨[(0,_,_),(2,_,_),(11,_,_)],[],[],[]⟩) (uAi (⟨sx rfl,sx rfl,sx rfl,trivial⟩) trivial trivial) ?_;refine uAn rfl (fun hc=>?_) (fun hc=>?_)
 ·refine uAd (uAb ?_)
  refine uAa rfl rfl rfl (uAe rfl gU) ?_;refine uAf ?_;refine uAp ?_
  repeat(first|refine tR ?_|refine bR ?_)
  refine uAt rfl ?_ trivial;refine uCf ?_
  simp only [T.rows_len,decide_eq_true_eq] at hc
  have : ¬ l.length≤n:=by omega
  simp [fewB,this]
 ·simp only [T.rows_len,decide_eq_false_iff_not] at hc
  have hn : l.length≤n:=by omega
  refine uAo ?_;refine uAd ?_;refine uAd (uAb ?_);refine uAa rfl rfl rfl (uAe rfl gU) ?_;refine uAf ?_;refine uAr ?_;refine uCz (fewS l n m) (fun k=>k≤l.length∧0≤T.buds (l.take k) m) (fun k=>l.length - k) 0 ⟨Nat.zero_le _,by simp [T.buds]⟩ ?_ ?_
  ·refine uAi ⟨⟨_,rfl,rfl⟩,⟨_,rfl,rfl⟩,⟨_,rfl,rfl⟩,trivial⟩ trivial trivial
  ·rintro k ⟨hk,hz⟩
   have hbl:=T.buds_le _ _ hz
   refine uAd ?_;refine uAd (uAb ?_);refine uAa rfl rfl rfl (uAc rfl gU) ?_;refine uAa rfl rfl rfl (uAc rfl gU) ?_;refine uAI rfl rfl rfl rfl rfl gU rfl rfl ?_ (fun hh=>by simp at hh); intro hlen;refine uAa rfl rfl rfl (uAm rfl rfl gU gU rfl) ?_;refine uAf ?_;refine uAn rfl (fun hc2=>?_) (fun hc2=>?_)
   ·rw[T.rows_len] at hlen hc2
    have hlt : k < l.length:=by simpa using hc2
    obtain ⟨x,hx⟩ : ∃ x,l[k]? = some x:=⟨_,List.getElem?_eq_getElem hlt⟩
    refine uAo ?_;refine uAd ?_;refine uAr ?_;refine uAd (uAb ?_);refine uAa rfl rfl rfl (uAc rfl gU) ?_;refine uAa rfl rfl rfl (uAc rfl gU) ?_;refine uAa rfl rfl rfl (uAv rfl rfl gU gU rfl rfl rfl (fun _=>T.rows_get hx)) ?_;refine uAa rfl rfl rfl (uAE rfl gU rfl rfl rfl rfl) ?_;refine uAa rfl rfl rfl (uAc rfl gU) ?_;refine uAu rfl rfl rfl rfl rfl rfl gU gU (uKe m x _ (by omega) (by omega) (by omega)) rfl ?_;refine uAa rfl rfl rfl (uAe rfl gU) ?_;refine uAf ?_;refine uAk (s:=⟨[(0,_,_),(2,_,_),(7,_,_)],[],[],[]⟩) (uAi (⟨sx rfl,sx rfl,sx rfl,trivial⟩) trivial trivial) ?_;refine uAd (uAb ?_);refine uAa rfl rfl rfl (uAc rfl gU) ?_;refine uAa rfl rfl rfl (uAm rfl rfl gU gU rfl) ?_;refine uAf ?_;refine uAn rfl (fun hc3=>?_) (fun hc3=>?_)
    ·refine uAd (uAb ?_)
     refine uAa rfl rfl rfl (uAe rfl gU) ?_;refine uAf ?_;refine uAp ?_
     repeat(first|refine tR ?_|refine bR ?_)
     refine uAt rfl ?_ trivial;refine uCf ?_
     simp only [decide_eq_true_eq] at hc3
     simp [fewB,T.buds_hit _ _ _ _ hx hz hc3]
    ·simp only [decide_eq_false_iff_not] at hc3
     have hst:=T.buds_step _ _ _ _ hx hz (by omega)
     refine uAo ?_;refine uAb ?_;refine uAa rfl rfl rfl (uAc rfl gU) ?_;refine uAa rfl rfl rfl (uAz rfl rfl gU gU rfl (IntWalk.i64_in _ (by omega))) ?_;refine uAa rfl rfl rfl (uAe rfl gU) ?_;refine uAf ?_;refine ⟨k + 1,⟨by omega,by rw[hst]; omega⟩,by omega,?_⟩;refine uAi ⟨⟨_,rfl,rfl⟩,⟨_,rfl,by rw[hst]⟩,⟨_,rfl,rfl⟩,trivial⟩ trivial trivial
   ·refine uAJ ?_
    repeat(first|refine uAC ?_|refine uAD ?_|refine uAB rfl ?_)
    refine uAd (uAb ?_);refine uAa rfl rfl rfl (uAe rfl gU) ?_;refine uAf ?_;refine uAp ?_
    repeat(first|refine tR ?_|refine bR ?_)
    refine uAt rfl ?_ trivial
    rw[T.rows_len] at hc2
    have : k=l.length:=by simp at hc2; omega
    subst this
    rw[List.take_length] at hz
    exact uCf (by simp [fewB,hn,hz])
end Go.Proofs.YteidahabkfgfjaaGreat
namespace Go.Proofs.YteidahabkfgfjaaGreat
open Go Go.Abs
theorem uLQ (l r : List T) : X.v (.c (.sl 4 (T.rows l++T.rows r)))=xl (l++r):=by simp [xl,T.rows_eq]
def uDo (l : List Gl) : List T:=(l.map Gl.data).flatten
theorem uLt {l : List Gl} {k : Nat} (h : k < l.length) : uDo (l.take (k + 1))=uDo (l.take k)++(l.getD k default).data:=by
 rw[uBr (d:=default) h]; simp [uDo]
theorem uML {l : List Gl} (h : ∀ g ∈ l,g.data.length≤2097152) : (uDo l).length≤2097152 * l.length:=by
 induction l with
 | nil=>simp [uDo]
 | cons g l ih =>
  have h1:=h g (by simp)
  have h2:=ih fun x hx=>h x (by simp [hx])
  simp only [uDo,List.map_cons,List.flatten_cons,List.length_append,List.length_cons,Nat.mul_succ] at h2 ⊢
  omega
def uJn (n : Nar) : List T:=n.steps.map Sp.msg++uDo n.goals
def fewN (n : Nar) : Bool:=(decide (n.roles.length≤16) && decide (n.fresh.length≤16) && decide (n.tags.length≤16) && decide (n.steps.length≤16) && decide (n.goals.length≤16)) && fewB (uJn n) 100 900
theorem uLJ (n : Nar) (hd : ∀ g ∈ n.goals,g.data.length≤2097152) : Ctr sys 12 [xn n] [] (xb (fewN n)) none []:=by
 have l1:=uAj n.roles
 have l3:=Fs.rows_len n.fresh
 have l4:=uAj n.tags
 have l5:=Sp.rows_len n.steps
 have l6:=Gl.rows_len n.goals
 refine uAA Tryz.func12 rfl rfl rfl rfl rfl rfl ?_;refine uAd (uAb ?_);refine uAq rfl (uAK rfl rfl rfl rfl) ?_;refine uAa rfl rfl rfl (uAe rfl gU) ?_;refine uAf ?_;refine uAd ?_;refine uAd (uAb ?_);refine uAa rfl rfl rfl (uAg rfl gU rfl rfl) ?_;refine uAa rfl rfl rfl (uAh rfl gU rfl rfl rfl rfl) ?_;refine uAI rfl rfl rfl rfl rfl gU rfl rfl ?_ (fun hh=>by simp at hh); intro hlen;refine uAa rfl rfl rfl (uAm rfl rfl gU gU rfl) ?_;refine uAa rfl rfl rfl (uAc rfl gU) ?_;refine uAa rfl rfl rfl (uAg rfl gU rfl rfl) ?_;refine uAa rfl rfl rfl (uAh rfl (fun hh=>hh) rfl rfl rfl rfl) ?_;refine uAa rfl rfl rfl (uA9 rfl (fun hh=>hh) rfl rfl) ?_;refine uAa rfl rfl rfl (uAm rfl rfl (fun hh=>hh) gU rfl) ?_;refine uAa rfl rfl rfl (uAL rfl rfl gU (fun _ hi=>gP rfl hi)) ?_;refine uBc (s:=⟨[(1,_,_),(15,_,_)],[(.l 1,_)],[],[]⟩) (uAi (⟨sx rfl,sx rfl,trivial⟩) (⟨sx rfl,trivial⟩) trivial) ?_;refine uAa rfl rfl rfl (uAc rfl gU) ?_;refine uAa rfl rfl rfl (uAg rfl gU rfl rfl) ?_;refine uAa rfl rfl rfl (uAh rfl (fun hh=>hh) rfl rfl rfl rfl) ?_;refine uAa rfl rfl rfl (uA9 rfl (fun hh=>hh) rfl rfl) ?_;refine uAa rfl rfl rfl (uAm rfl rfl (fun hh=>hh) gU rfl) ?_;refine uAa rfl rfl rfl (uAL rfl rfl gU (fun _ hi=>gP rfl hi)) ?_;refine uAa rfl rfl rfl (uAc rfl gU) ?_
 refine uAa rfl rfl rfl (uAg rfl gU rfl rfl) ?_;refine uAa rfl rfl rfl (uAh rfl (fun hh=>hh) rfl rfl rfl rfl) ?_;refine uAa rfl rfl rfl (uA9 rfl (fun hh=>hh) rfl rfl) ?_;refine uAa rfl rfl rfl (uAm rfl rfl (fun hh=>hh) gU rfl) ?_;refine uAa rfl rfl rfl (uAL rfl rfl gU (fun _ hi=>gP rfl hi)) ?_;refine uBc (s:=⟨[(1,_,_),(27,_,_)],[(.l 1,_)],[],[]⟩) (uAi (⟨sx rfl,sx rfl,trivial⟩) (⟨sx rfl,trivial⟩) trivial) ?_;refine uAa rfl rfl rfl (uAc rfl gU) ?_;refine uAa rfl rfl rfl (uAg rfl gU rfl rfl) ?_;refine uAa rfl rfl rfl (uAh rfl (fun hh=>hh) rfl rfl rfl rfl) ?_;refine uAa rfl rfl rfl (uA9 rfl (fun hh=>hh) rfl rfl) ?_;refine uAa rfl rfl rfl (uAm rfl rfl (fun hh=>hh) gU rfl) ?_;refine uAa rfl rfl rfl (uAL rfl rfl gU (fun _ hi=>gP rfl hi)) ?_;refine uAf ?_;refine uAk (s:=⟨[(1,_,_),(33,_,_)],[(.l 1,_)],[],[]⟩) (uAi (⟨sx rfl,sx rfl,trivial⟩) (⟨sx rfl,trivial⟩) trivial) ?_;refine uAn rfl (fun hc=>?_) (fun hc=>?_)
 ·try simp only [nn,uAj,T.rows_len,Gl.rows_len,Fs.rows_len,Sp.rows_len] at hc
  refine uAd (uAb ?_);refine uAa rfl rfl rfl (uAe rfl gU) ?_;refine uAf ?_;refine uAp ?_
  repeat(first|refine tR ?_|refine bR ?_)
  refine uAt rfl ?_ trivial
  (refine uCf ?_; symm; unfold fewN; rw[Bool.eq_false_iff]; intro q; simp only [Bool.and_eq_true,decide_eq_true_eq] at q; omega)
 ·try simp only [nn,uAj,T.rows_len,Gl.rows_len,Fs.rows_len,Sp.rows_len] at hc
  have h16 : n.roles.length≤16∧n.fresh.length≤16∧n.tags.length≤16∧n.steps.length≤16∧n.goals.length≤16:=by omega
  have hE : fewN n=fewB (uJn n) 100 900:=by
   unfold fewN
   rw[decide_eq_true h16.1,decide_eq_true h16.2.1,decide_eq_true h16.2.2.1,decide_eq_true h16.2.2.2.1,decide_eq_true h16.2.2.2.2]; rfl
  rw[hE]
  refine uAo ?_;refine uAd (uAb ?_);refine uAq rfl (uBd (.inr rfl) rfl rfl) ?_;refine uAf ?_;refine uAd ?_;refine uAd (uAb ?_);refine uAa rfl rfl rfl (uAe rfl gU) ?_;refine uAf ?_;refine uAr ?_;refine uAW (ι:=Nat) { t:=[(1,_,_)],bx:=[(.l 1,_)],ow:=[(.t 3,_)] } (fun k=>[(4,true,xi (k : Int)),(3,true,xl ((n.steps.take k).map Sp.msg))]) (fun k=>[]) (fun k=>k≤n.steps.length) (fun k=>n.steps.length - k) (0) (by simp) (uAi (⟨sx rfl,sx rfl,sx rfl,trivial⟩) (⟨sx rfl,trivial⟩) (⟨rfl,trivial⟩)) ?_
  intro k hoka
  dsimp only [List.cons_append,List.nil_append]
  refine uAd ?_;refine uAd (uAb ?_);refine uAa rfl rfl rfl (uAc rfl gU) ?_;refine uAa rfl rfl rfl (uAg rfl gU rfl rfl) ?_;refine uAa rfl rfl rfl (uAh rfl gU rfl rfl rfl rfl) ?_;refine uAI rfl rfl rfl rfl rfl gU rfl rfl ?_ (fun hh=>by simp at hh); intro hlen;refine uAa rfl rfl rfl (uAm rfl rfl gU gU rfl) ?_;refine uAf ?_;refine uAk (s:=⟨[(1,_,_),(3,_,_),(4,_,_),(38,_,_)],[(.l 1,_)],[(.t 3,_)],[]⟩) (uAi (⟨sx rfl,sx rfl,sx rfl,sx rfl,trivial⟩) (⟨sx rfl,trivial⟩) (⟨rfl,trivial⟩)) ?_;refine uAn rfl (fun hc2=>?_) (fun hc2=>?_)
  ·try simp only [nn,uAj,T.rows_len,Gl.rows_len,Fs.rows_len,Sp.rows_len] at hc2
   have hT:=uBr (l:=n.steps) (d:=default) (k:=k) (by omega)
   refine uAo ?_;refine uAd ?_;refine uAr ?_;refine uAb ?_;refine uAq rfl (uAM (.inl rfl) rfl rfl rfl) ?_;refine uAa rfl rfl rfl (uAg rfl gU rfl rfl) ?_;refine uAa rfl rfl rfl (uAh rfl gU rfl rfl rfl rfl) ?_;refine uAa rfl rfl rfl (uAc rfl gU) ?_;refine uAa rfl rfl rfl (uAv rfl rfl gU gU rfl rfl rfl (fun hh=>Sp.rows_at (by first|omega|(simp at hh ⊢; omega)))) ?_;refine uAa rfl rfl rfl (uA2 rfl gU rfl rfl) ?_;refine uAa rfl rfl rfl (uAE rfl gU rfl rfl rfl rfl) ?_;refine uAN (xs:=[_]) rfl rfl rfl rfl rfl rfl rfl rfl rfl gU rfl ?_;refine uAq rfl (uAX rfl rfl rfl rfl rfl rfl rfl (by first|omega|(simp only [List.length_append,List.length_singleton,T.rows_len,List.length_map,List.length_take]; omega)) (by first|omega|(simp only [List.length_append,List.length_singleton,T.rows_len,List.length_map,List.length_take]; omega))) ?_;refine uAq rfl (uAM (.inr rfl) rfl rfl rfl) ?_;refine uAf ?_;refine uAk (s:=⟨[(1,_,_),(3,_,_),(4,_,_)],[(.l 1,_)],[(.t 3,_)],[]⟩) (uAi (⟨sx rfl,sx rfl,sx rfl,trivial⟩) (⟨sx rfl,trivial⟩) (⟨rfl,trivial⟩)) ?_;refine uAb ?_;refine uAa rfl rfl rfl (uAc rfl gU) ?_;refine uAa rfl rfl rfl (uAz rfl rfl gU gU rfl (IntWalk.i64_in _ (by omega))) ?_;refine uAa rfl rfl rfl (uAe rfl gU) ?_;refine uAf ?_;refine ⟨k + 1,?_,?_,uAi (⟨⟨_,rfl,?_⟩,⟨⟨_,rfl,?_⟩,⟨sx rfl,trivial⟩⟩⟩) (⟨sx rfl,trivial⟩) (⟨rfl,trivial⟩)⟩
   all_goals (first|rfl|omega|exact tx ((uEH _ _).trans (by rw[hT,List.map_append]; rfl)))
  ·try simp only [nn,uAj,T.rows_len,Gl.rows_len,Fs.rows_len,Sp.rows_len] at hc2
   have hk : k=n.steps.length:=by omega
   subst hk
   refine uAJ ?_
   repeat(first|refine uAC ?_|refine uAD ?_|refine uAB rfl ?_)
   refine uAd ?_;refine uAd (uAb ?_);refine uAa rfl rfl rfl (uAe rfl gU) ?_;refine uAf ?_;refine uAr ?_;refine uAW (ι:=Nat) { t:=[(1,_,_)],bx:=[(.l 1,_)],ow:=[(.t 3,_)] } (fun j=>[(5,true,xi (j : Int)),(3,true,xl (n.steps.map Sp.msg++uDo (n.goals.take j)))]) (fun j=>[]) (fun j=>j≤n.goals.length) (fun j=>n.goals.length - j) (0) (by simp) (uAi (⟨sx rfl,⟨⟨_,rfl,by simp [uDo]⟩,⟨sx rfl,trivial⟩⟩⟩) (⟨sx rfl,trivial⟩) (⟨rfl,trivial⟩)) ?_
   intro j hokb
   dsimp only [List.cons_append,List.nil_append]
   have hdl:=uML (l:=n.goals.take j) fun g hg=>hd g (List.mem_of_mem_take hg)
   rw[List.length_take] at hdl
   refine uAd ?_;refine uAd (uAb ?_);refine uAa rfl rfl rfl (uAc rfl gU) ?_;refine uAa rfl rfl rfl (uAg rfl gU rfl rfl) ?_;refine uAa rfl rfl rfl (uAh rfl gU rfl rfl rfl rfl) ?_;refine uAI rfl rfl rfl rfl rfl gU rfl rfl ?_ (fun hh=>by simp at hh); intro hlen;refine uAa rfl rfl rfl (uAm rfl rfl gU gU rfl) ?_;refine uAf ?_;refine uAk (s:=⟨[(1,_,_),(3,_,_),(5,_,_),(54,_,_)],[(.l 1,_)],[(.t 3,_)],[]⟩) (uAi (⟨sx rfl,sx rfl,sx rfl,sx rfl,trivial⟩) (⟨sx rfl,trivial⟩) (⟨rfl,trivial⟩)) ?_;refine uAn rfl (fun hc3=>?_) (fun hc3=>?_)
   ·try simp only [nn,uAj,T.rows_len,Gl.rows_len,Fs.rows_len,Sp.rows_len] at hc3
    have hT:=uLt (l:=n.goals) (k:=j) (by omega)
    have hdj : (n.goals.getD j default).data.length≤2097152:=hd _ (by rw[List.getD_eq_getElem?_getD,List.getElem?_eq_getElem (by omega)]; exact List.getElem_mem _)
    refine uAo ?_;refine uAd ?_;refine uAr ?_;refine uAb ?_;refine uAq rfl (uAM (.inl rfl) rfl rfl rfl) ?_;refine uAa rfl rfl rfl (uAg rfl gU rfl rfl) ?_;refine uAa rfl rfl rfl (uAh rfl gU rfl rfl rfl rfl) ?_;refine uAa rfl rfl rfl (uAc rfl gU) ?_;refine uAa rfl rfl rfl (uAv rfl rfl gU gU rfl rfl rfl (fun hh=>Gl.rows_at (by first|omega|(simp at hh ⊢; omega)))) ?_;refine uAa rfl rfl rfl (uA2 rfl gU rfl rfl) ?_;refine uAa rfl rfl rfl (uAU rfl gU rfl rfl rfl) ?_;refine uAq rfl (uAX rfl rfl rfl rfl rfl rfl rfl (by first|omega|(simp only [List.length_append,List.length_singleton,T.rows_len,List.length_map,List.length_take]; omega)) (by first|omega|(simp only [List.length_append,List.length_singleton,T.rows_len,List.length_map,List.length_take]; omega))) ?_;refine uAq rfl (uAM (.inr rfl) rfl rfl rfl) ?_;refine uAf ?_;refine uAk (s:=⟨[(1,_,_),(3,_,_),(5,_,_)],[(.l 1,_)],[(.t 3,_)],[]⟩) (uAi (⟨sx rfl,sx rfl,sx rfl,trivial⟩) (⟨sx rfl,trivial⟩) (⟨rfl,trivial⟩)) ?_;refine uAb ?_;refine uAa rfl rfl rfl (uAc rfl gU) ?_;refine uAa rfl rfl rfl (uAz rfl rfl gU gU rfl (IntWalk.i64_in _ (by omega))) ?_;refine uAa rfl rfl rfl (uAe rfl gU) ?_;refine uAf ?_;refine ⟨j + 1,?_,?_,uAi (⟨⟨_,rfl,?_⟩,⟨⟨_,rfl,?_⟩,⟨sx rfl,trivial⟩⟩⟩) (⟨sx rfl,trivial⟩) (⟨rfl,trivial⟩)⟩
    all_goals (first|rfl|omega|exact tx ((uLQ _ _).trans (by rw[hT,List.append_assoc])))
   ·try simp only [nn,uAj,T.rows_len,Gl.rows_len,Fs.rows_len,Sp.rows_len] at hc3
    have hk : j=n.goals.length:=by omega
    subst hk
    have e : n.steps.map Sp.msg++uDo (n.goals.take n.goals.length)=uJn n:=by rw[List.take_length]; rfl
    rw[e]
    refine uAJ ?_
    repeat(first|refine uAC ?_|refine uAD ?_|refine uAB rfl ?_)
    refine uAd (uAb ?_);refine uAa rfl rfl rfl (uAc rfl gU) ?_;refine uAu rfl rfl rfl rfl rfl rfl gU gU (uPr (uJn n) 100 900 (by omega)) rfl ?_;refine uAa rfl rfl rfl (uAe rfl gU) ?_;refine uAf ?_;refine uAp ?_
    repeat(first|refine tR ?_|refine bR ?_)
    refine uAt rfl ?_ trivial
    rfl
theorem uPL {n : Nar} (h : fewN n=true) : n.steps.length≤16∧n.goals.length≤16∧(∀ s ∈ n.steps,s.msg.size≤900000) ∧ ∀ g ∈ n.goals,T.sizes g.data≤900000:=by
 simp only [fewN,Bool.and_eq_true,decide_eq_true_eq] at h
 obtain ⟨_,h2⟩:=uLk h.2
 have h3 : T.sizes (n.steps.map Sp.msg++uDo n.goals)≤900:=by unfold uJn at h2; omega
 have happ : ∀ a b : List T,T.sizes (a++b)=T.sizes a + T.sizes b:=by
  intro a b
  induction a with
  | nil=>simp [T.sizes]
  | cons t a ih=>simp only [List.cons_append,T.sizes,ih]; omega
 rw[happ] at h3
 refine ⟨h.1.1.2,h.1.2,fun s hs=>?_,fun g hg=>?_⟩
 ·have : ∀ l : List Sp,s ∈ l→s.msg.size≤T.sizes (l.map Sp.msg):=by
   intro l hl
   induction l with
   | nil=>simp at hl
   | cons x l ih =>
    simp only [List.map_cons,T.sizes]
    rcases List.mem_cons.1 hl with q | q
    ·subst q; omega
    ·have := ih q; omega
  have := this _ hs
  omega
 ·have : ∀ l : List Gl,g ∈ l→T.sizes g.data≤T.sizes (uDo l):=by
   intro l hl
   induction l with
   | nil=>simp at hl
   | cons x l ih =>
    have e : uDo (x :: l)=x.data++uDo l:=by simp [uDo]
    rw[e,happ]
    rcases List.mem_cons.1 hl with q | q
    ·subst q; omega
    ·have := ih q; omega
  have := this _ hg
  omega
namespace T
mutual
def all : T→List T
 | mk k n s ks=>mk k n s ks :: alls ks
def alls : List T→List T
 | []=>[]
 | t :: ts=>all t++alls ts
end
theorem all_eq (t : T) : t.all=t :: alls t.kids:=by cases t; rw[all]; rfl
theorem alls_flat : ∀ ts : List T,alls ts=(ts.map all).flatten
 | []=>by rw[alls]; rfl
 | t :: ts=>by rw[alls,alls_flat ts]; rfl
mutual
theorem all_len : ∀ t : T,t.all.length=t.size
 | mk k n s ks=>by rw[all,size,List.length_cons,alls_len ks]; omega
theorem alls_len : ∀ ts : List T,(alls ts).length=sizes ts
 | []=>by rw[alls,sizes]; rfl
 | t :: ts=>by rw[alls,sizes,List.length_append,all_len t,alls_len ts]
end
theorem alls_take {ts : List T} {k : Nat} (h : k < ts.length) : alls (ts.take (k + 1))=alls (ts.take k)++(ts.getD k default).all:=by
 rw[alls_flat,alls_flat,uBr (d:=default) h]; simp
end T
theorem uIu : ∀ (n : Nat) (t : T),t.size≤n→n≤2000000→Ctr sys 49 [xm t] [] (xl t.all) none []:=by
 intro n
 induction n with
 | zero=>intro t h; have := t.size_pos; omega
 | succ n ih =>
  intro t ht hn
  have hse:=t.size_eq
  have hr:=T.rows_len t.kids
  have hls:=T.len_sizes t.kids
  have e4 : t.cells.take 4=t.cells:=by cases t; rfl
  refine uAA Tryz.func49 rfl rfl rfl rfl rfl rfl ?_;refine uAd (uAb ?_);refine uAq rfl (uAK rfl rfl rfl rfl) ?_;refine uAq rfl (uBd (.inr rfl) rfl rfl) ?_;refine uAf ?_;refine uAd (uAb ?_);refine uAa rfl rfl rfl (uAl rfl gU rfl rfl rfl rfl rfl) ?_;refine uAN (xs:=[_]) rfl rfl rfl rfl rfl rfl rfl rfl rfl gU rfl ?_;refine uAq rfl (uAM (.inr rfl) rfl rfl rfl) ?_;refine uAf ?_;refine uAk (s:=⟨[(1,_,_),(3,_,_)],[(.l 1,_)],[(.t 3,_)],[]⟩) (uAi (⟨sx rfl,sx rfl,trivial⟩) (⟨sx rfl,trivial⟩) (⟨rfl,trivial⟩)) ?_;refine uAd ?_;refine uAd (uAb ?_);refine uAa rfl rfl rfl (uAe rfl gU) ?_;refine uAf ?_;refine uAr ?_;refine uAW (ι:=Nat) { t:=[(1,_,_)],bx:=[(.l 1,_)],ow:=[(.t 3,_)] } (fun k=>[(4,true,xi (k : Int)),(3,true,xl (t :: T.alls (t.kids.take k)))]) (fun k=>[]) (fun k=>k≤t.kids.length) (fun k=>t.kids.length - k) (0) (by simp) (uAi (⟨sx rfl,⟨⟨_,rfl,by exact tx (by simp [T.alls,T.rows_eq,e4])⟩,⟨sx rfl,trivial⟩⟩⟩) (⟨sx rfl,trivial⟩) (⟨rfl,trivial⟩)) ?_
  intro k hok
  dsimp only [List.cons_append,List.nil_append]
  have htk:=T.sizes_take_le t.kids k
  refine uAd ?_;refine uAd (uAb ?_);refine uAa rfl rfl rfl (uAc rfl gU) ?_;refine uAa rfl rfl rfl (uAg rfl gU rfl rfl) ?_;refine uAa rfl rfl rfl (uAh rfl gU rfl rfl rfl rfl) ?_;refine uAI rfl rfl rfl rfl rfl gU rfl rfl ?_ (fun hh=>by simp at hh); intro hlen;refine uAa rfl rfl rfl (uAm rfl rfl gU gU rfl) ?_;refine uAf ?_;refine uAk (s:=⟨[(1,_,_),(3,_,_),(4,_,_),(11,_,_)],[(.l 1,_)],[(.t 3,_)],[]⟩) (uAi (⟨sx rfl,sx rfl,sx rfl,sx rfl,trivial⟩) (⟨sx rfl,trivial⟩) (⟨rfl,trivial⟩)) ?_;refine uAn rfl (fun hc=>?_) (fun hc=>?_)
  ·try simp only [nn,uAj,T.rows_len,Gl.rows_len,Fs.rows_len,Sp.rows_len] at hc
   have hlt : k < t.kids.length:=by omega
   have hgs:=T.getD_size hlt
   have hT:=T.alls_take hlt
   refine uAo ?_;refine uAd ?_;refine uAr ?_;refine uAb ?_;refine uAq rfl (uAM (.inl rfl) rfl rfl rfl) ?_;refine uAa rfl rfl rfl (uAg rfl gU rfl rfl) ?_;refine uAa rfl rfl rfl (uAh rfl gU rfl rfl rfl rfl) ?_;refine uAa rfl rfl rfl (uAc rfl gU) ?_;refine uAa rfl rfl rfl (uAv rfl rfl gU gU rfl rfl rfl (fun hh=>T.rows_at (by first|omega|(simp at hh ⊢; omega)))) ?_;refine uAa rfl rfl rfl (uAE rfl gU rfl rfl rfl rfl) ?_;refine uAu rfl rfl rfl rfl rfl rfl gU gU (ih _ (by omega) (by omega)) rfl ?_;refine uAq rfl (uAX rfl rfl rfl rfl rfl rfl rfl (by first|omega|(simp only [List.length_append,List.length_singleton,List.length_cons,T.rows_len,T.alls_len,T.all_len]; omega)) (by first|omega|(simp only [List.length_append,List.length_singleton,List.length_cons,T.rows_len,T.alls_len,T.all_len]; omega))) ?_;refine uAq rfl (uAM (.inr rfl) rfl rfl rfl) ?_;refine uAf ?_;refine uAk (s:=⟨[(1,_,_),(3,_,_),(4,_,_)],[(.l 1,_)],[(.t 3,_)],[]⟩) (uAi (⟨sx rfl,sx rfl,sx rfl,trivial⟩) (⟨sx rfl,trivial⟩) (⟨rfl,trivial⟩)) ?_;refine uAb ?_;refine uAa rfl rfl rfl (uAc rfl gU) ?_;refine uAa rfl rfl rfl (uAz rfl rfl gU gU rfl (IntWalk.i64_in _ (by omega))) ?_;refine uAa rfl rfl rfl (uAe rfl gU) ?_;refine uAf ?_;refine ⟨k + 1,?_,?_,uAi (⟨⟨_,rfl,?_⟩,⟨⟨_,rfl,?_⟩,⟨sx rfl,trivial⟩⟩⟩) (⟨sx rfl,trivial⟩) (⟨rfl,trivial⟩)⟩
   all_goals (first|rfl|omega|exact tx ((uLQ _ _).trans (by rw[hT]; rfl)))
  ·try simp only [nn,uAj,T.rows_len,Gl.rows_len,Fs.rows_len,Sp.rows_len] at hc
   have hk : k=t.kids.length:=by omega
   subst hk
   refine uAJ ?_
   repeat(first|refine uAC ?_|refine uAD ?_|refine uAB rfl ?_)
   refine uAd (uAb ?_);refine uAq rfl (uAM (.inl rfl) rfl rfl rfl) ?_;refine uAq rfl (uAM (.inr rfl) rfl rfl rfl) ?_;refine uAf ?_;refine uAp ?_
   repeat(first|refine tR ?_|refine bR ?_)
   refine uAt rfl ?_ trivial
   (rw[T.all_eq,List.take_length]; rfl)
end Go.Proofs.YteidahabkfgfjaaGreat
namespace Go.Proofs.YteidahabkfgfjaaGreat
open Go Go.Abs
abbrev xr (l : List Tk) (p : PS) : X:=.v (.agg (pbx l p))
theorem uNj (s : List UInt8) (k : Int) : Ctr sys 50 [xs s,xi k] [] (xm ⟨2,s,k,[]⟩) none []:=by
 refine uAA Tryz.func50 rfl rfl rfl rfl rfl rfl ?_;refine uAd (uAb ?_);refine uAq rfl (uAG rfl rfl rfl) ?_;refine uAf ?_;refine uAd (uAb ?_);refine uAa rfl rfl rfl (uAc rfl gU) ?_;refine uAa rfl rfl rfl (uAc rfl gU) ?_;refine uAa rfl rfl rfl (uAS rfl Tryz.underlying47 rfl gU) ?_;refine uAq rfl (uAy rfl rfl rfl rfl rfl rfl rfl) ?_;refine uAf ?_;refine uAp ?_
 repeat(first|refine tR ?_|refine bR ?_)
 refine uAt rfl ?_ trivial
 rfl
theorem uOt (s : List UInt8) (ks : List T) (hk : ks.length≤3000000) : Ctr sys 166 [xs s,xl ks] [] (xm ⟨3,s,0,ks⟩) none []:=by
 have hrl:=T.rows_len ks
 refine uAA Tryz.func166 rfl rfl rfl rfl rfl rfl ?_;refine uAd (uAb ?_);refine uAq rfl (uAG rfl rfl rfl) ?_;refine uAf ?_;refine uAd (uAb ?_);refine uAa rfl rfl rfl (uAc rfl gU) ?_;refine uAN (xs:=[]) rfl rfl rfl rfl rfl rfl rfl rfl rfl gU rfl ?_;refine uAa rfl rfl rfl (uAc rfl gU) ?_;refine uAq rfl (uAX rfl rfl rfl rfl rfl rfl rfl (by first|omega|(simp only [List.length_nil]; omega)) (by first|omega|(simp only [List.length_nil]; omega))) ?_;refine uAa rfl rfl rfl (uAS rfl Tryz.underlying47 rfl gU) ?_;refine uAq rfl (uAy rfl rfl rfl rfl rfl rfl rfl) ?_;refine uAf ?_;refine uAp ?_
 repeat(first|refine tR ?_|refine bR ?_)
 refine uAt rfl ?_ trivial
 rfl
theorem uFL (s : List UInt8) (rs : List (List C)) (ks : List T) (h : rs=T.rows ks) (hk : ks.length≤3000000) : Ctr sys 166 [xs s, .v (.c (.sl 4 rs))] [] (xm ⟨3,s,0,ks⟩) none []:=by
 subst h; exact uOt s ks hk
theorem uAY (l : List Tk) (p : PS) (c : List UInt8) (hl : l.length≤2000000) (hp : p.at'≤3000000) : Ctr sys 106 [xr l p,xs c] [] (xr l (uAQ l c p)) none []:=by
 have hrl:=Tk.rows_len l
 refine uAA Tryz.func106 rfl rfl rfl rfl rfl rfl ?_;refine uAd (uAb ?_);refine uAq rfl (uAK rfl rfl rfl rfl) ?_;refine uAq rfl (uAG rfl rfl rfl) ?_;refine uAf ?_;refine uAd ?_;refine uAd (uAb ?_);refine uAa rfl rfl rfl (uAg rfl gU rfl rfl) ?_;refine uAa rfl rfl rfl (uAh rfl gU rfl rfl rfl rfl) ?_;refine uAa rfl rfl rfl (uAc rfl gU) ?_;refine uAa rfl rfl rfl (uAg rfl gU rfl rfl) ?_;refine uAa rfl rfl rfl (uAh rfl (fun hh=>hh) rfl rfl rfl rfl) ?_;refine uAa rfl rfl rfl (uAg rfl gU rfl rfl) ?_;refine uAa rfl rfl rfl (uAh rfl (fun hh=>hh) rfl rfl rfl rfl) ?_;refine uAa rfl rfl rfl (uA9 rfl (fun hh=>hh) rfl rfl) ?_;refine uAa rfl rfl rfl (uAm rfl rfl (fun hh=>hh) (fun hh=>hh) rfl) ?_;refine uAa rfl rfl rfl (uAL rfl rfl gU (fun _ hi=>gP rfl hi)) ?_;refine uBc (s:=⟨[(1,_,_),(2,_,_),(4,_,_),(14,_,_)],[(.l 2,_),(.l 4,_)],[],[]⟩) (uAi (⟨sx rfl,sx rfl,sx rfl,sx rfl,trivial⟩) (⟨sx rfl,sx rfl,trivial⟩) trivial) ?_;refine uAa rfl rfl rfl (uAc rfl gU) ?_;refine uAa rfl rfl rfl (uAg rfl gU rfl rfl) ?_;refine uAa rfl rfl rfl (uAh rfl (fun hh=>hh) rfl rfl rfl rfl) ?_;refine uAa rfl rfl rfl (uAg rfl gU rfl rfl) ?_;refine uAa rfl rfl rfl (uAh rfl (fun hh=>hh) rfl rfl rfl rfl) ?_;refine uAa rfl rfl rfl (uAv (j:=p.at') rfl rfl (fun hh=>hh) (fun hh=>hh) rfl rfl (by first|omega|(simp at hh ⊢; omega)) (fun hh=>Tk.rows_at (by first|omega|(simp at hh ⊢; omega)))) ?_
 refine uAa rfl rfl rfl (uA2 rfl (fun hh=>hh) rfl rfl) ?_;refine uAa rfl rfl rfl (uAU rfl (fun hh=>hh) rfl rfl rfl) ?_;refine uAa rfl rfl rfl (uAm rfl rfl (fun hh=>hh) gU rfl) ?_;refine uAa rfl rfl rfl (uAL rfl rfl gU (fun _ hi=>gP rfl hi)) ?_;refine uAa rfl rfl rfl (uAc rfl gU) ?_;refine uAa rfl rfl rfl (uAg rfl gU rfl rfl) ?_;refine uBc (s:=⟨[(1,_,_),(2,_,_),(4,_,_),(25,_,_),(26,_,_)],[(.l 2,_),(.l 4,_)],[],[]⟩) (uAi (⟨sx rfl,sx rfl,sx rfl,sx rfl,sx rfl,trivial⟩) (⟨sx rfl,sx rfl,trivial⟩) trivial) ?_;refine uAa rfl rfl rfl (uAh rfl (fun hh=>hh) rfl rfl rfl rfl) ?_;refine uAa rfl rfl rfl (uAg rfl gU rfl rfl) ?_;refine uAa rfl rfl rfl (uAh rfl (fun hh=>hh) rfl rfl rfl rfl) ?_;refine uAa rfl rfl rfl (uAv (j:=p.at') rfl rfl (fun hh=>hh) (fun hh=>hh) rfl rfl (by first|omega|(simp at hh ⊢; omega)) (fun hh=>Tk.rows_at (by first|omega|(simp at hh ⊢; omega)))) ?_;refine uAa rfl rfl rfl (uA2 rfl (fun hh=>hh) rfl rfl) ?_;refine uAa rfl rfl rfl (uAU rfl (fun hh=>hh) rfl rfl rfl) ?_;refine uAa rfl rfl rfl (uAc rfl gU) ?_;refine uAa rfl rfl rfl (uA7 rfl rfl (fun hh=>hh) (fun hh=>hh) rfl) ?_;refine uAa rfl rfl rfl (uAL rfl rfl gU (fun _ hi=>gP rfl hi)) ?_;refine uAf ?_;refine uAk (s:=⟨[(2,_,_),(4,_,_),(35,_,_)],[(.l 2,_),(.l 4,_)],[],[]⟩) (uAi (⟨sx rfl,sx rfl,sx rfl,trivial⟩) (⟨sx rfl,sx rfl,trivial⟩) trivial) ?_
 refine uAn rfl (fun hc=>?_) (fun hc=>?_)
 ·try simp only [nn,uAj,T.rows_len,Tk.rows_len] at hc
  have h : symQ l p c=false:=by simp only [symQ]; grind
  have h2 : uAQ l c p=p.off:=by rw[uAQ,h]; rfl
  rw[h2]
  refine uAd (uAb ?_);refine uAa rfl rfl rfl (uAg rfl gU rfl rfl) ?_;refine uAq rfl (uAy rfl rfl rfl rfl rfl rfl rfl) ?_;refine uAf ?_;refine uAd (uAb ?_);refine uAa rfl rfl rfl (uAl rfl gU rfl rfl rfl rfl rfl) ?_;refine uAq rfl (uAy rfl rfl rfl rfl rfl rfl rfl) ?_;refine uAf ?_;refine uAp ?_
  repeat(first|refine tR ?_|refine bR ?_)
  refine uAt rfl ?_ trivial
  rfl
 ·try simp only [nn,uAj,T.rows_len,Tk.rows_len] at hc
  have h : symQ l p c=true:=by simp only [symQ]; grind
  have h2 : uAQ l c p=p.go:=by rw[uAQ,if_pos h]
  rw[h2]
  refine uAo ?_;refine uAd (uAb ?_);refine uAa rfl rfl rfl (uAg rfl gU rfl rfl) ?_;refine uAa rfl rfl rfl (uAh rfl gU rfl rfl rfl rfl) ?_;refine uAa rfl rfl rfl (uAz rfl rfl gU gU rfl (IntWalk.i64_in _ (by omega))) ?_;refine uAa rfl rfl rfl (uAg rfl gU rfl rfl) ?_;refine uAq rfl (uAy rfl rfl rfl rfl rfl rfl rfl) ?_;refine uAf ?_;refine uAd (uAb ?_);refine uAa rfl rfl rfl (uAl rfl gU rfl rfl rfl rfl rfl) ?_;refine uAq rfl (uAy rfl rfl rfl rfl rfl rfl rfl) ?_;refine uAf ?_;refine uAp ?_
  repeat(first|refine tR ?_|refine bR ?_)
  refine uAt rfl ?_ trivial
  (first|rfl|exact congrArg (fun z=>X.v (.agg z)) (uOb (by simp [PS.go]) rfl))
theorem uOs (l : List Tk) (c : List UInt8) (p : PS) : (uAQ l c p).bad = !symQ l p c:=by
 unfold uAQ
 split
 ·rename_i h
  rw[h]; exact (uCd h).2
 ·rename_i h
  have : symQ l p c=false:=by simpa using h
  rw[this]; rfl
theorem uCr (l : List Tk) (p : PS) (c : List UInt8) (hl : l.length≤2000000) (hp : p.at'≤3000000) : Ctr sys 107 [xr l p,xs c] [] (xb (symQ l p c)) none []:=by
 refine uAA Tryz.func107 rfl rfl rfl rfl rfl rfl ?_;refine uAd (uAb ?_);refine uAq rfl (uAK rfl rfl rfl rfl) ?_;refine uAa rfl rfl rfl (uAe rfl gU) ?_;refine uAf ?_;refine uAd (uAb ?_);refine uAa rfl rfl rfl (uAl rfl gU rfl rfl rfl rfl rfl) ?_;refine uAa rfl rfl rfl (uAc rfl gU) ?_;refine uAu rfl rfl rfl rfl rfl rfl gU gU (uAY _ _ _ (by omega) (by omega)) rfl ?_;refine uAa rfl rfl rfl (uGV rfl gU (Tryz.underlying119) rfl rfl rfl rfl rfl rfl) ?_;refine uAa rfl rfl rfl (uA0 rfl gU) ?_;refine uAa rfl rfl rfl (uAe rfl gU) ?_;refine uAf ?_;refine uAp ?_
 repeat(first|refine tR ?_|refine bR ?_)
 refine uAt rfl ?_ trivial;exact uCf (by rw[uOs]; simp)
theorem uBz (l : List Tk) (p : PS) (hl : l.length≤2000000) (hp : p.at'≤3000000) : Ctr sys 105 [xr l p] [] (.tup [.c (.s (uAx l [] p).1), .agg (pbx l (uAx l [] p).2)]) none []:=by
 have hrl:=Tk.rows_len l
 refine uAA Tryz.func105 rfl rfl rfl rfl rfl rfl ?_;refine uAd (uAb ?_);refine uAq rfl (uAK rfl rfl rfl rfl) ?_;refine uAa rfl rfl rfl (uAe rfl gU) ?_;refine uAq rfl (uAG rfl rfl rfl) ?_;refine uAf ?_;refine uAd ?_;refine uAd (uAb ?_);refine uAa rfl rfl rfl (uAg rfl gU rfl rfl) ?_;refine uAa rfl rfl rfl (uAh rfl gU rfl rfl rfl rfl) ?_;refine uAa rfl rfl rfl (uAc rfl gU) ?_;refine uAa rfl rfl rfl (uAg rfl gU rfl rfl) ?_;refine uAa rfl rfl rfl (uAh rfl (fun hh=>hh) rfl rfl rfl rfl) ?_;refine uAa rfl rfl rfl (uAg rfl gU rfl rfl) ?_;refine uAa rfl rfl rfl (uAh rfl (fun hh=>hh) rfl rfl rfl rfl) ?_;refine uAa rfl rfl rfl (uA9 rfl (fun hh=>hh) rfl rfl) ?_;refine uAa rfl rfl rfl (uAm rfl rfl (fun hh=>hh) (fun hh=>hh) rfl) ?_;refine uBc (s:=⟨[(1,_,_),(3,_,_),(6,_,_),(12,_,_)],[(.l 1,_),(.l 3,_)],[],[]⟩) (uAi (⟨sx rfl,sx rfl,sx rfl,sx rfl,trivial⟩) (⟨sx rfl,sx rfl,trivial⟩) trivial) ?_;refine uAa rfl rfl rfl (uAL rfl rfl gU (fun _ hi=>gP rfl hi)) ?_;refine uAa rfl rfl rfl (uAc rfl gU) ?_;refine uAa rfl rfl rfl (uAg rfl gU rfl rfl) ?_;refine uAa rfl rfl rfl (uAh rfl (fun hh=>hh) rfl rfl rfl rfl) ?_;refine uAa rfl rfl rfl (uAg rfl gU rfl rfl) ?_;refine uAa rfl rfl rfl (uAh rfl (fun hh=>hh) rfl rfl rfl rfl) ?_
 refine uAa rfl rfl rfl (uAv (j:=p.at') rfl rfl (fun hh=>hh) (fun hh=>hh) rfl rfl (by first|omega|(simp at hh ⊢; omega)) (fun hh=>Tk.rows_at (by first|omega|(simp at hh ⊢; omega)))) ?_;refine uAa rfl rfl rfl (uA2 rfl (fun hh=>hh) rfl rfl) ?_;refine uAa rfl rfl rfl (uAU rfl (fun hh=>hh) rfl rfl rfl) ?_;refine uAa rfl rfl rfl (uAm rfl rfl (fun hh=>hh) gU rfl) ?_;refine uAa rfl rfl rfl (uAL rfl rfl gU (fun _ hi=>gP rfl hi)) ?_;refine uAf ?_;refine uAk (s:=⟨[(1,_,_),(3,_,_),(23,_,_)],[(.l 1,_),(.l 3,_)],[],[]⟩) (uAi (⟨sx rfl,sx rfl,sx rfl,trivial⟩) (⟨sx rfl,sx rfl,trivial⟩) trivial) ?_;refine uAn rfl (fun hc=>?_) (fun hc=>?_)
 ·try simp only [nn,uAj,T.rows_len,Tk.rows_len] at hc
  have h : namQ l p []=false:=by simp only [namQ]; grind
  have h2 : uAx l [] p=([],p.off):=by rw[uAx,h]; rfl
  rw[h2]
  refine uAd (uAb ?_);refine uAa rfl rfl rfl (uAg rfl gU rfl rfl) ?_;refine uAq rfl (uAy rfl rfl rfl rfl rfl rfl rfl) ?_;refine uAf ?_;refine uAd ?_;refine awp_drawn' (by kernel_rfl) ?_;refine uAF rfl rfl rfl rfl rfl rfl rfl gU rfl rfl rfl rfl rfl ?_;refine uAw rfl rfl rfl rfl (uAe rfl gU) ?_;refine uAR rfl rfl rfl rfl rfl rfl rfl rfl rfl rfl rfl rfl ?_;refine uA5 (by kernel_rfl) ?_;refine uAp ?_
  repeat(first|refine tR ?_|refine bR ?_)
  refine uAt rfl ?_ trivial
  rfl
 ·try simp only [nn,uAj,T.rows_len,Tk.rows_len] at hc
  have h : namQ l p []=true:=by simp only [namQ]; grind
  have h2 : uAx l [] p=((l.getD p.at' tk0).text,p.go):=by rw[uAx,if_pos h]
  rw[h2]
  refine uAo ?_;refine uAd (uAb ?_);refine uAa rfl rfl rfl (uAg rfl gU rfl rfl) ?_;refine uAa rfl rfl rfl (uAh rfl gU rfl rfl rfl rfl) ?_;refine uAa rfl rfl rfl (uAz rfl rfl gU gU rfl (IntWalk.i64_in _ (by omega))) ?_;refine uAa rfl rfl rfl (uAg rfl gU rfl rfl) ?_;refine uAq rfl (uAy rfl rfl rfl rfl rfl rfl rfl) ?_;refine uAf ?_;refine uAd ?_;refine awp_drawn' (by kernel_rfl) ?_;refine uAw rfl rfl rfl rfl (uAg rfl gU rfl rfl) ?_;refine uBO rfl rfl rfl rfl rfl rfl rfl gU rfl rfl rfl rfl ?_;refine uAw rfl rfl rfl rfl (uAg rfl gU rfl rfl) ?_;refine uBO rfl rfl rfl rfl rfl rfl rfl gU rfl rfl rfl rfl ?_;refine uAw rfl rfl rfl rfl (uAz rfl rfl gU gU rfl (IntWalk.i64_in _ (by omega))) ?_;refine uAw rfl rfl rfl rfl (uAv (j:=p.at') rfl rfl gU gU rfl rfl (by first|omega|(simp at hh ⊢; omega)) (fun hh=>Tk.rows_at (by first|omega|(simp at hh ⊢; omega)))) ?_;refine uAw rfl rfl rfl rfl (uA2 rfl gU rfl rfl) ?_;refine uAw rfl rfl rfl rfl (uAU rfl gU rfl rfl rfl) ?_;refine uAF rfl rfl rfl rfl rfl rfl rfl gU rfl rfl rfl rfl rfl ?_;refine uAw rfl rfl rfl rfl (uAe rfl gU) ?_;refine uAR rfl rfl rfl rfl rfl rfl rfl rfl rfl rfl rfl rfl ?_;refine uA5 (by kernel_rfl) ?_;refine uAp ?_
  repeat(first|refine tR ?_|refine bR ?_)
  refine uAt rfl ?_ trivial
  (first|rfl|exact congrArg (fun z=>X.tup [.c (.s (l.getD p.at' tk0).text), .agg z]) (uOb (by simp [PS.go]) rfl))
theorem uLP (l : List Tk) (p : PS) (hl : l.length≤2000000) : Ctr sys 109 [xr l p] [] (xi (uJt l p)) none []:=by
 have hrl:=Tk.rows_len l
 refine uAA Tryz.func109 rfl rfl rfl rfl rfl rfl ?_;refine uAd (uAb ?_);refine uAq rfl (uAK rfl rfl rfl rfl) ?_;refine uAa rfl rfl rfl (uAe rfl gU) ?_;refine uAf ?_;refine uAd ?_;refine uAd (uAb ?_);refine uAa rfl rfl rfl (uAg rfl gU rfl rfl) ?_;refine uAa rfl rfl rfl (uAh rfl gU rfl rfl rfl rfl) ?_;refine uAI rfl rfl rfl rfl rfl gU rfl rfl ?_ (fun hh=>by simp at hh); intro hlen;refine uAa rfl rfl rfl (uAm rfl rfl gU gU rfl) ?_;refine uAf ?_;refine uAk (s:=⟨[(1,_,_),(6,_,_)],[(.l 1,_)],[],[]⟩) (uAi (⟨sx rfl,sx rfl,trivial⟩) (⟨sx rfl,trivial⟩) trivial) ?_;refine uAn rfl (fun hc=>?_) (fun hc=>?_)
 ·try simp only [nn,uAj,T.rows_len,Tk.rows_len] at hc
  refine uAd (uAb ?_);refine uAa rfl rfl rfl (uAe rfl gU) ?_;refine uAf ?_;refine uAp ?_
  repeat(first|refine tR ?_|refine bR ?_)
  refine uAt rfl ?_ trivial
  (rw[uJt,if_pos (by omega)]; rfl)
 ·try simp only [nn,uAj,T.rows_len,Tk.rows_len] at hc
  refine uAo ?_;refine uAd (uAb ?_);refine uAa rfl rfl rfl (uAg rfl gU rfl rfl) ?_;refine uAa rfl rfl rfl (uAh rfl gU rfl rfl rfl rfl) ?_;refine uAa rfl rfl rfl (uAg rfl gU rfl rfl) ?_;refine uAa rfl rfl rfl (uAh rfl gU rfl rfl rfl rfl) ?_;refine uAa rfl rfl rfl (uAg rfl gU rfl rfl) ?_;refine uAa rfl rfl rfl (uAh rfl gU rfl rfl rfl rfl) ?_;refine uAI rfl rfl rfl rfl rfl gU rfl rfl ?_ (fun hh=>by simp at hh); intro hlen;refine uAa rfl rfl rfl (uAz rfl rfl gU gU rfl (IntWalk.i64_in _ (by omega))) ?_;refine uAa rfl rfl rfl (uOa rfl rfl gU gU) ?_;refine uAa rfl rfl rfl (uAv (j:=(min p.at' (l.length - 1))) rfl rfl gU gU rfl rfl (by first|omega|(simp at hh ⊢; omega)) (fun hh=>Tk.rows_at (by first|omega|(simp at hh ⊢; omega)))) ?_;refine uAa rfl rfl rfl (uA2 rfl gU rfl rfl) ?_;refine uAa rfl rfl rfl (uAU rfl gU rfl rfl rfl) ?_;refine uBc (s:=⟨[(18,_,_)],[],[],[]⟩) (uAi (⟨sx rfl,trivial⟩) trivial trivial) ?_;refine uAa rfl rfl rfl (uAe rfl gU) ?_;refine uAf ?_;refine uAp ?_
  repeat(first|refine tR ?_|refine bR ?_)
  refine uAt rfl ?_ trivial
  rw[uJt,if_neg (by omega)]
  split
  ·rename_i h
   exact uBa (by rw[show min p.at' (l.length - 1)=l.length - 1 by omega])
  ·rename_i h
   exact uBa (by rw[show min p.at' (l.length - 1)=p.at' by omega])
theorem uMZ {l : List (List UInt8)} {s : List UInt8} {k : Nat} {e : Int} (h : k < l.length) (hi : (if idxF (fun x=>decide (x=s) && decide (s≠[])) (l.drop k) < 0 then 0 else idxF (fun x=>decide (x=s) && decide (s≠[])) (l.drop k) + k)=e) :
  ((l.getD k []=s∧s≠[])→e=k)∧(¬(l.getD k []=s∧s≠[])→(if idxF (fun x=>decide (x=s) && decide (s≠[])) (l.drop (k + 1)) < 0 then 0 else idxF (fun x=>decide (x=s) && decide (s≠[])) (l.drop (k + 1)) + (k + 1 : Nat))=e):=by
 rw[uIz (d:=[]) h,idxF] at hi
 refine ⟨fun q=>?_,fun q=>?_⟩
 ·have e1 : (decide (l.getD k []=s) && decide (s≠[]))=true:=by simp only [Bool.and_eq_true,decide_eq_true_eq]; exact q
  rw[e1] at hi
  simp at hi; omega
 ·have e1 : (decide (l.getD k []=s) && decide (s≠[]))=false:=by
   rw[Bool.eq_false_iff]; simp only [ne_eq,Bool.and_eq_true,decide_eq_true_eq]; exact q
  rw[e1] at hi
  simp only [Bool.false_eq_true,if_false] at hi
  have hg:=uIX (fun x=>decide (x=s) && decide (s≠[])) (l.drop (k + 1))
  generalize idxF (fun x=>decide (x=s) && decide (s≠[])) (List.drop (k + 1) l)=x at hi hg ⊢
  rw[← hi]
  by_cases hx : x < 0
  ·rw[if_pos hx,if_pos hx]; simp
  ·rw[if_neg hx,if_neg hx,if_neg (by omega)]; push_cast; omega
theorem uF2 (l : List (List UInt8)) (s : List UInt8) : Ctr sys 131 [xss l,xs s] [] (xi (idx0 l s)) none []:=by
 have hrl:=uAj l
 refine uAA Tryz.func131 rfl rfl rfl rfl rfl rfl ?_;refine uAd (uAb ?_);refine uAa rfl rfl rfl (uAe rfl gU) ?_;refine uAf ?_;refine uAd ?_;refine uAd (uAb ?_);refine uAa rfl rfl rfl (uAe rfl gU) ?_;refine uAf ?_;refine uAr ?_;refine uAW (ι:=Nat) { t:=[(0,_,_),(1,_,_)],bx:=[],ow:=[] } (fun k=>[(5,true,xi (k : Int))]) (fun k=>[]) (fun k=>k≤l.length∧(if idxF (fun x=>decide (x=s) && decide (s≠[])) (l.drop k) < 0 then 0 else idxF (fun x=>decide (x=s) && decide (s≠[])) (l.drop k) + k)=idx0 l s) (fun k=>l.length - k) (0) (⟨by simp,by simp [idx0]⟩) (uAi (⟨sx rfl,sx rfl,sx rfl,trivial⟩) trivial trivial) ?_
 intro k hok
 dsimp only [List.cons_append,List.nil_append]
 obtain ⟨hk,hi⟩:=hok
 refine uAd ?_;refine uAd (uAb ?_);refine uAa rfl rfl rfl (uAc rfl gU) ?_;refine uAa rfl rfl rfl (uAc rfl gU) ?_;refine uAI rfl rfl rfl rfl rfl gU rfl rfl ?_ (fun hh=>by simp at hh); intro hlen;refine uAa rfl rfl rfl (uAm rfl rfl gU gU rfl) ?_;refine uAf ?_;refine uAn rfl (fun hc=>?_) (fun hc=>?_)
 ·try simp only [nn,uAj,T.rows_len,Tk.rows_len] at hc
  have hlt : k < l.length:=by omega
  have hd:=uMZ hlt hi
  refine uAo ?_;refine uAd ?_;refine uAr ?_;refine uAd (uAb ?_);refine uAa rfl rfl rfl (uAc rfl gU) ?_;refine uAa rfl rfl rfl (uAc rfl gU) ?_;refine uAa rfl rfl rfl (uAv rfl rfl gU gU rfl rfl rfl (fun hh=>uDi (by first|omega|(simp at hh ⊢; omega)))) ?_;refine uAa rfl rfl rfl (uAU rfl gU rfl rfl rfl) ?_;refine uAa rfl rfl rfl (uAc rfl gU) ?_;refine uAa rfl rfl rfl (uA7 rfl rfl gU gU rfl) ?_;refine uAa rfl rfl rfl (uAc rfl gU) ?_;refine uAa rfl rfl rfl (uAc rfl gU) ?_;refine uBc (s:=⟨[(0,_,_),(1,_,_),(5,_,_),(18,_,_),(19,_,_)],[],[],[]⟩) (uAi (⟨sx rfl,sx rfl,sx rfl,sx rfl,sx rfl,trivial⟩) trivial trivial) ?_;refine uAa rfl rfl rfl (uA7 rfl rfl (fun hh=>hh) gU rfl) ?_;refine uAa rfl rfl rfl (uAP rfl rfl gU (fun _ hi=>gP rfl hi)) ?_;refine uAf ?_;refine uAn rfl (fun hc2=>?_) (fun hc2=>?_)
  ·try simp only [nn,uAj,T.rows_len,Tk.rows_len] at hc2
   refine uAd (uAb ?_);refine uAa rfl rfl rfl (uAc rfl gU) ?_;refine uAa rfl rfl rfl (uAe rfl gU) ?_;refine uAf ?_;refine uAp ?_
   repeat(first|refine tR ?_|refine bR ?_)
   refine uAt rfl ?_ trivial;exact uBa (hd.1 hc2).symm
  ·try simp only [nn,uAj,T.rows_len,Tk.rows_len] at hc2
   refine uAo ?_;refine uAb ?_;refine uAa rfl rfl rfl (uAc rfl gU) ?_;refine uAa rfl rfl rfl (uAz rfl rfl gU gU rfl (IntWalk.i64_in _ (by omega))) ?_;refine uAa rfl rfl rfl (uAe rfl gU) ?_;refine uAf ?_;refine ⟨k + 1,?_,?_,uAi (⟨⟨_,rfl,?_⟩,⟨sx rfl,sx rfl,trivial⟩⟩) trivial trivial⟩
   all_goals (first|rfl|omega|exact ⟨by omega,hd.2 (by rintro ⟨q1,q2⟩; rcases hc2 with q|q; exact q q1; exact q2 (by simpa using q))⟩)
 ·try simp only [nn,uAj,T.rows_len,Tk.rows_len] at hc
  rw[List.drop_of_length_le (by omega)] at hi
  refine uAJ ?_
  repeat(first|refine uAC ?_|refine uAD ?_|refine uAB rfl ?_)
  refine uAd (uAb ?_);refine uAa rfl rfl rfl (uAe rfl gU) ?_;refine uAf ?_;refine uAp ?_
  repeat(first|refine tR ?_|refine bR ?_)
  refine uAt rfl ?_ trivial;exact uBa hi
theorem uC6 (l : List Tk) (p : PS) (ws : List (List UInt8)) (hl : l.length≤2000000) (hp : p.at'≤3000000) : Ctr sys 104 [xr l p,xss ws] [] (.tup [.c (.i .i64 (chR l ws p).1), .agg (pbx l (chR l ws p).2)]) none []:=by
 refine uAA Tryz.func104 rfl rfl rfl rfl rfl rfl ?_;refine uAd (uAb ?_);refine uAq rfl (uAK rfl rfl rfl rfl) ?_;refine uAa rfl rfl rfl (uAe rfl gU) ?_;refine uAq rfl (uAG rfl rfl rfl) ?_;refine uAf ?_;refine uAd (uAb ?_);refine uAa rfl rfl rfl (uAl rfl gU rfl rfl rfl rfl rfl) ?_;refine uAu rfl rfl rfl rfl rfl rfl gU gU (uBz _ _ (by omega) (by omega)) rfl ?_;refine uAa rfl rfl rfl (uAc rfl gU) ?_;refine uAa rfl rfl rfl (uAs rfl gU rfl) ?_;refine uAa rfl rfl rfl (uAs rfl gU rfl) ?_;refine uAq rfl (uAG rfl rfl rfl) ?_;refine uAa rfl rfl rfl (uAe rfl gU) ?_;refine uAq rfl (uAy rfl rfl rfl rfl rfl rfl rfl) ?_;refine uAf ?_;refine uAk (s:=⟨[(1,_,_),(2,_,_),(5,_,_),(6,_,_),(7,_,_)],[(.l 2,_),(.l 5,_),(.l 7,_)],[],[]⟩) (uAi (⟨sx rfl,sx rfl,sx rfl,sx rfl,sx rfl,trivial⟩) (⟨sx rfl,sx rfl,sx rfl,trivial⟩) trivial) ?_;refine uAd ?_;refine uAd (uAb ?_);refine uAa rfl rfl rfl (uAg rfl gU rfl rfl) ?_;refine uAa rfl rfl rfl (uAh rfl gU rfl rfl rfl rfl) ?_;refine uAa rfl rfl rfl (uAc rfl gU) ?_;refine uAa rfl rfl rfl (uAc rfl gU) ?_;refine uAa rfl rfl rfl (uAc rfl gU) ?_;refine uAu rfl rfl rfl rfl rfl rfl gU (fun hh=>gA ((fun hh=>hh) hh) (gA ((fun hh=>hh) hh) (rfl))) (uF2 _ _) rfl ?_
 refine uAa rfl rfl rfl (uAm rfl rfl (fun hh=>hh) gU rfl) ?_;refine uAa rfl rfl rfl (uAL rfl rfl gU (fun _ hi=>gP rfl hi)) ?_;refine uAf ?_;refine uAk (s:=⟨[(1,_,_),(2,_,_),(5,_,_),(6,_,_),(7,_,_),(20,_,_)],[(.l 2,_),(.l 5,_),(.l 7,_)],[],[]⟩) (uAi (⟨sx rfl,sx rfl,sx rfl,sx rfl,sx rfl,sx rfl,trivial⟩) (⟨sx rfl,sx rfl,sx rfl,trivial⟩) trivial) ?_;refine uAn rfl (fun hc=>?_) (fun hc=>?_)
 ·try simp only [nn,uAj,T.rows_len,Tk.rows_len] at hc
  have h : chR l ws p=(0,p.off):=by rw[chR,if_pos hc]
  rw[h]
  refine uAd (uAb ?_);refine uAa rfl rfl rfl (uAg rfl gU rfl rfl) ?_;refine uAq rfl (uAy rfl rfl rfl rfl rfl rfl rfl) ?_;refine uAf ?_;refine uAd ?_;refine awp_drawn' (by kernel_rfl) ?_;refine uAF rfl rfl rfl rfl rfl rfl rfl gU rfl rfl rfl rfl rfl ?_;refine uAw rfl rfl rfl rfl (uAe rfl gU) ?_;refine uAR rfl rfl rfl rfl rfl rfl rfl rfl rfl rfl rfl rfl ?_;refine uA5 (by kernel_rfl) ?_;refine uAp ?_
  repeat(first|refine tR ?_|refine bR ?_)
  refine uAt rfl ?_ trivial
  rfl
 ·try simp only [nn,uAj,T.rows_len,Tk.rows_len] at hc
  have h : chR l ws p=(idx0 ws (uAx l [] p).1,(uAx l [] p).2):=by rw[chR,if_neg (by rintro (q | q); { rw[hc.1] at q; cases q }; { exact hc.2 q })]
  rw[h]
  refine uAo ?_;refine uAd ?_;refine awp_drawn' (by kernel_rfl) ?_;refine uAw rfl rfl rfl rfl (uAc rfl gU) ?_;refine uAw rfl rfl rfl rfl (uAc rfl gU) ?_;refine uAZ rfl rfl rfl rfl rfl rfl rfl gU gU (uF2 _ _) rfl ?_;refine uAF rfl rfl rfl rfl rfl rfl rfl gU rfl rfl rfl rfl rfl ?_;refine uAw rfl rfl rfl rfl (uAe rfl gU) ?_;refine uAR rfl rfl rfl rfl rfl rfl rfl rfl rfl rfl rfl rfl ?_;refine uA5 (by kernel_rfl) ?_;refine uAp ?_
  repeat(first|refine tR ?_|refine bR ?_)
  refine uAt rfl ?_ trivial
  rfl
theorem uCU (l : List Tk) (p : PS) (hl : l.length≤2000000) (hp : p.at'≤l.length) : Ctr sys 132 [xr l p] [] (.tup [.c (.sl 1 (strR (uBu l p).1)), .agg (pbx l (uBu l p).2)]) none []:=by
 have hrl:=Tk.rows_len l
 have h0:=uA4 l [] p
 refine uAA Tryz.func132 rfl rfl rfl rfl rfl rfl ?_;refine uAd (uAb ?_);refine uAq rfl (uAK rfl rfl rfl rfl) ?_;refine uAq rfl (uBd (.inr rfl) rfl rfl) ?_;refine uAq rfl (uAG rfl rfl rfl) ?_;refine uAf ?_;refine uAd (uAb ?_);refine uAa rfl rfl rfl (uAl rfl gU rfl rfl rfl rfl rfl) ?_;refine uAu rfl rfl rfl rfl rfl rfl gU gU (uBz _ _ (by omega) (by omega)) rfl ?_;refine uAa rfl rfl rfl (uAc rfl gU) ?_;refine uAa rfl rfl rfl (uAs rfl gU rfl) ?_;refine uAa rfl rfl rfl (uAs rfl gU rfl) ?_;refine uAa rfl rfl rfl (uAe rfl gU) ?_;refine uAq rfl (uAy rfl rfl rfl rfl rfl rfl rfl) ?_;refine uAf ?_;refine uAk (s:=⟨[(1,_,_),(3,_,_),(4,_,_)],[(.l 1,_),(.l 3,_)],[],[]⟩) (uAi (⟨sx rfl,sx rfl,sx rfl,trivial⟩) (⟨sx rfl,sx rfl,trivial⟩) trivial) ?_;refine uAd (uAb ?_);refine uAa rfl rfl rfl (uAc rfl gU) ?_;refine uAN (xs:=[_]) rfl rfl rfl rfl rfl rfl rfl rfl rfl gU rfl ?_;refine uAq rfl (uAM (.inr rfl) rfl rfl rfl) ?_;refine uAf ?_;refine uAd ?_;refine uAr ?_;refine uAW (ι:=PS × List (List UInt8) × List UInt8) { t:=[(1,_,_),(3,_,_)],bx:=[(.l 3,_)],ow:=[(.t 5,_)] } (fun q=>[(4,true,xs q.2.2),(5,true,xss q.2.1)]) (fun q=>[((.l 1),pbx l q.1)]) (fun q=>q.1.at'≤l.length∧q.2.1.length≤q.1.at' + 1 ∧ ∃ n,l.length + 1≤n + q.1.at'∧uBR l (uAx l []) n q.1 q.2.1=uBu l p) (fun q=>l.length - q.1.at') (((uAx l [] p).2,[(uAx l [] p).1],(uAx l [] p).1)) (⟨h0.2 hp,by simp,_,by dsimp only; omega,rfl⟩) (uAi (⟨sx rfl,sx rfl,sx rfl,sx rfl,trivial⟩) (⟨sx rfl,sx rfl,trivial⟩) (⟨rfl,trivial⟩)) ?_
 intro q hok
 dsimp only [List.cons_append,List.nil_append] at *
 obtain ⟨q,out,x⟩:=q
 dsimp only at hok ⊢
 obtain ⟨hq,ho,n,hn,hi⟩:=hok
 have hro:=uAj out
 refine uAd ?_;refine uAd (uAb ?_);refine uAa rfl rfl rfl (uAl rfl gU rfl rfl rfl rfl rfl) ?_;refine uAu rfl rfl rfl rfl rfl rfl gU gU (uCr _ _ _ (by omega) (by omega)) rfl ?_;refine uAf ?_;refine uAn rfl (fun hc=>?_) (fun hc=>?_)
 ·try simp only [nn,uAj,T.rows_len,Tk.rows_len] at hc
  have hlt:=(uCd hc).1
  have hs : uAQ l [44] q=q.go:=by rw[uAQ,if_pos hc]
  have h1:=uA4 l [] q.go
  have hg : q.go.at'=q.at' + 1:=rfl
  obtain ⟨n,rfl⟩ : ∃ k,n=k + 1:=⟨n - 1,by omega⟩
  rw[uKF hc] at hi
  have hsy:=uAY l q [44] (by omega) (by omega)
  rw[hs] at hsy
  refine uAo ?_;refine uAr ?_;refine uAd (uAb ?_);refine uAa rfl rfl rfl (uAl rfl gU rfl rfl rfl rfl rfl) ?_;refine uAu rfl rfl rfl rfl rfl rfl gU gU (hsy) rfl ?_;refine uAu rfl rfl rfl rfl rfl rfl gU gU (uBz l q.go (by omega) (by omega)) rfl ?_;refine uAa rfl rfl rfl (uAc rfl gU) ?_;refine uAa rfl rfl rfl (uAs rfl gU rfl) ?_;refine uAa rfl rfl rfl (uAs rfl gU rfl) ?_;refine uAa rfl rfl rfl (uAe rfl gU) ?_;refine uAq rfl (uAy rfl rfl rfl rfl rfl rfl rfl) ?_;refine uAf ?_;refine uAk (s:=⟨[(1,_,_),(3,_,_),(4,_,_),(5,_,_)],[(.l 1,_),(.l 3,_)],[(.t 5,_)],[]⟩) (uAi (⟨sx rfl,sx rfl,sx rfl,sx rfl,trivial⟩) (⟨sx rfl,sx rfl,trivial⟩) (⟨rfl,trivial⟩)) ?_;refine uAb ?_;refine uAq rfl (uAM (.inl rfl) rfl rfl rfl) ?_;refine uAa rfl rfl rfl (uAc rfl gU) ?_;refine uAN (xs:=[_]) rfl rfl rfl rfl rfl rfl rfl rfl rfl gU rfl ?_;refine uAq rfl (uAX rfl rfl rfl rfl rfl rfl rfl (by first|omega|(simp only [List.length_append,List.length_singleton,uAj]; omega)) (by first|omega|(simp only [List.length_append,List.length_singleton,uAj]; omega))) ?_;refine uAq rfl (uAM (.inr rfl) rfl rfl rfl) ?_;refine uAf ?_;refine ⟨((uAx l [] q.go).2,out++[(uAx l [] q.go).1],(uAx l [] q.go).1),?_,?_,uAi (⟨⟨_,rfl,?_⟩,⟨⟨_,rfl,?_⟩,⟨sx rfl,sx rfl,trivial⟩⟩⟩) (⟨⟨_,rfl,?_⟩,⟨sx rfl,trivial⟩⟩) (⟨rfl,trivial⟩)⟩
  ·exact ⟨h1.2 (by omega),by simp only [List.length_append,List.length_singleton]; omega,n,by dsimp only; omega,hi⟩
  ·dsimp only; omega
  ·rfl
  ·exact tx (uGC _ _)
  all_goals rfl
 ·try simp only [nn,uAj,T.rows_len,Tk.rows_len] at hc
  rw[uFh hc] at hi
  refine uAJ ?_
  repeat(first|refine uAC ?_|refine uAD ?_|refine uAB rfl ?_)
  refine uAd ?_;refine awp_drawn' (by kernel_rfl) ?_;refine uGq rfl (.inl rfl) rfl rfl rfl rfl rfl ?_;refine uAF rfl rfl rfl rfl rfl rfl rfl gU rfl rfl rfl rfl rfl ?_;refine uGq rfl (.inr rfl) rfl rfl rfl rfl rfl ?_;refine uAR rfl rfl rfl rfl rfl rfl rfl rfl rfl rfl rfl rfl ?_;refine uA5 (by kernel_rfl) ?_;refine uAp ?_
  repeat(first|refine tR ?_|refine bR ?_)
  refine uAt rfl ?_ trivial
  (rw[← hi]; rfl)
theorem uM1 : ∀ (n : Nat) (ts : List T),ts.length≤n→n≤3000000→0 < ts.length→Ctr sys 165 [xl ts] [] (xm (tupT ts)) none []:=by
 intro n
 induction n with
 | zero=>intro ts h _ h0; omega
 | succ n ih =>
  intro ts hts hn h0
  have hrl:=T.rows_len ts
  refine uAA Tryz.func165 rfl rfl rfl rfl rfl rfl ?_;refine uAd (uAb ?_);refine uAq rfl (uAG rfl rfl rfl) ?_;refine uAf ?_;refine uAd ?_;refine uAd (uAb ?_);refine uAa rfl rfl rfl (uAc rfl gU) ?_;refine uAI rfl rfl rfl rfl rfl gU rfl rfl ?_ (fun hh=>by simp at hh); intro hlen;refine uAa rfl rfl rfl (uAm rfl rfl gU gU rfl) ?_;refine uAf ?_;refine uAn rfl (fun hc=>?_) (fun hc=>?_)
  ·try simp only [nn,uAj,T.rows_len,Tk.rows_len] at hc
   obtain ⟨t,rfl⟩ : ∃ t,ts=[t]:=by
    match ts,hc with
    | [t],_=>exact ⟨t,rfl⟩
    | [],h=>simp at h
    | _ :: _ :: _,h=>simp at h; omega
   refine uAd (uAb ?_);refine uAa rfl rfl rfl (uAc rfl gU) ?_;refine uAa rfl rfl rfl (uAv (j:=0) rfl rfl gU gU rfl rfl (by first|omega|(simp at hh ⊢; omega)) (fun hh=>T.rows_at (by first|omega|(simp at hh ⊢; omega)))) ?_;refine uAa rfl rfl rfl (uAE rfl gU rfl rfl rfl rfl) ?_;refine uAq rfl (uAy rfl rfl rfl rfl rfl rfl rfl) ?_;refine uAf ?_;refine uAp ?_
   repeat(first|refine tR ?_|refine bR ?_)
   refine uAt rfl ?_ trivial
   rfl
  ·try simp only [nn,uAj,T.rows_len,Tk.rows_len] at hc
   obtain ⟨t,u,r,rfl⟩ : ∃ t u r,ts=t :: u :: r:=by
    match ts,hc,h0 with
    | [t],h,_=>exact absurd rfl h
    | [],_,h=>simp at h
    | t :: u :: r,_,_=>exact ⟨t,u,r,rfl⟩
   simp only [List.length_cons] at hts hrl
   have htu:=ih (u :: r) (by simp only [List.length_cons]; omega) (by omega) (by simp)
   have htu2 : ∀ rs : List (List C),rs=T.rows (u :: r)→Ctr sys 165 [.v (.c (.sl 4 rs))] [] (xm (tupT (u :: r))) none []:=by
    intro rs h; subst h; exact htu
   refine uAo ?_;refine uAd ?_;refine awp_drawn' (by kernel_rfl) ?_;refine uAw rfl rfl rfl rfl (uAc rfl gU) ?_;refine uAw rfl rfl rfl rfl (uAv (j:=0) rfl rfl gU gU rfl rfl (by first|omega|(simp at hh ⊢; omega)) (fun hh=>T.rows_at (by first|omega|(simp at hh ⊢; omega)))) ?_;refine uAw rfl rfl rfl rfl (uAE rfl gU rfl rfl rfl rfl) ?_;refine uAw rfl rfl rfl rfl (uAc rfl gU) ?_;refine uAw rfl rfl rfl rfl (uFa (l:=1) rfl gU rfl rfl (fun _=>⟨_,_,_,rfl,gU,by first|omega|(simp at hh ⊢; omega)⟩) (fun _=>rfl) (fun hh=>by first|omega|(simp at hh ⊢; omega)) (fun hh=>by first|omega|(simp at hh ⊢; omega))) ?_;refine uAZ rfl rfl rfl rfl rfl rfl rfl gU gU (htu2 _ (by simp [T.rows_eq,List.take_of_length_le])) rfl ?_;refine uHC (xs:=[_,_]) rfl rfl rfl rfl rfl rfl rfl rfl rfl rfl gU rfl ?_;refine uAZ rfl rfl rfl rfl rfl rfl rfl gU gU (uFL _ _ [t,tupT (u :: r)] (by simp [T.rows_eq,T.cells]) (by simp)) rfl ?_;refine uAR rfl rfl rfl rfl rfl rfl rfl rfl rfl rfl rfl rfl ?_;refine uA5 (by kernel_rfl) ?_;refine uAp ?_
   repeat(first|refine tR ?_|refine bR ?_)
   refine uAt rfl ?_ trivial
   rfl
theorem uKi (ts : List T) (rs : List (List C)) (h : rs=T.rows ts) (hts : ts.length≤3000000) (h0 : 0 < ts.length) : Ctr sys 165 [.v (.c (.sl 4 rs))] [] (xm (tupT ts)) none []:=by
 subst h; exact uM1 _ ts hts (Nat.le_refl _) h0
theorem uEC (l : List Tk) (n : Nat) (hl : l.length≤2000000) (ih : ∀ p : PS,p.at'≤l.length→l.length - p.at' < n→Ctr sys 153 [xr l p] [] (.tup [.agg (uA1 l n p).1.cells, .agg (pbx l (uA1 l n p).2)]) none []) (hf : Fwd l (uA1 l n)) (p : PS) (hp : p.at'≤l.length) (hn : l.length - p.at' < n) :
  Ctr sys 155 [xr l p] [] (.tup [.c (.sl 4 (T.rows (uA6 l (uA1 l n) p).1)), .agg (pbx l (uA6 l (uA1 l n) p).2)]) none []:=by
 have hrl:=Tk.rows_len l
 have h0:=hf p
 refine uAA Tryz.func155 rfl rfl rfl rfl rfl rfl ?_;refine uAd (uAb ?_);refine uAq rfl (uAK rfl rfl rfl rfl) ?_;refine uAq rfl (uBd (.inr rfl) rfl rfl) ?_;refine uAq rfl (uAG rfl rfl rfl) ?_;refine uAf ?_;refine uAd (uAb ?_);refine uAa rfl rfl rfl (uAl rfl gU rfl rfl rfl rfl rfl) ?_;refine uAu rfl rfl rfl rfl rfl rfl gU gU (ih p hp hn) rfl ?_;refine uAa rfl rfl rfl (uAc rfl gU) ?_;refine uAa rfl rfl rfl (uAs rfl gU rfl) ?_;refine uAa rfl rfl rfl (uAs rfl gU rfl) ?_;refine uAq rfl (uAG rfl rfl rfl) ?_;refine uAq rfl (uAy rfl rfl rfl rfl rfl rfl rfl) ?_;refine uAq rfl (uAy rfl rfl rfl rfl rfl rfl rfl) ?_;refine uAf ?_;refine uAk (s:=⟨[(1,_,_),(3,_,_),(4,_,_)],[(.l 1,_),(.l 3,_),(.l 4,_)],[],[]⟩) (uAi (⟨sx rfl,sx rfl,sx rfl,trivial⟩) (⟨sx rfl,sx rfl,sx rfl,trivial⟩) trivial) ?_;refine uAd (uAb ?_);refine uAa rfl rfl rfl (uAl rfl gU rfl rfl rfl rfl rfl) ?_;refine uAN (xs:=[_]) rfl rfl rfl rfl rfl rfl rfl rfl rfl gU rfl ?_;refine uAq rfl (uAM (.inr rfl) rfl rfl rfl) ?_;refine uAf ?_;refine uAd ?_;refine uAr ?_;refine uAW (ι:=PS × List T × T) { t:=[(1,_,_),(3,_,_),(4,_,_)],bx:=[(.l 3,_)],ow:=[(.t 5,_)] } (fun q=>[(5,true,xl q.2.1)]) (fun q=>[((.l 4),q.2.2.cells),((.l 1),pbx l q.1)]) (fun q=>p.at'≤q.1.at'∧q.1.at'≤l.length∧q.2.1.length≤q.1.at' + 1 ∧ ∃ k,l.length + 1≤k + q.1.at'∧uBR l (uA1 l n) k q.1 q.2.1=uA6 l (uA1 l n) p) (fun q=>l.length - q.1.at') (((uA1 l n p).2,[(uA1 l n p).1],(uA1 l n p).1)) (⟨h0.1,h0.2 hp,by simp,_,by dsimp only; omega,rfl⟩) (uAi (⟨⟨_,rfl,by exact tx (uEH [] (uA1 l n p).1)⟩,⟨sx rfl,sx rfl,sx rfl,trivial⟩⟩) (⟨sx rfl,sx rfl,sx rfl,trivial⟩) (⟨rfl,trivial⟩)) ?_
 intro q hok
 dsimp only [List.cons_append,List.nil_append] at *
 obtain ⟨q,out,x⟩:=q
 dsimp only at hok ⊢
 obtain ⟨hq0,hq,ho,k,hk,hi⟩:=hok
 have hro:=T.rows_len out
 refine uAd ?_;refine uAd (uAb ?_);refine uAa rfl rfl rfl (uAl rfl gU rfl rfl rfl rfl rfl) ?_;refine uAu rfl rfl rfl rfl rfl rfl gU gU (uCr _ _ _ (by omega) (by omega)) rfl ?_;refine uAf ?_;refine uAn rfl (fun hc=>?_) (fun hc=>?_)
 ·try simp only [nn,uAj,T.rows_len,Tk.rows_len] at hc
  have hlt:=(uCd hc).1
  have hs : uAQ l [44] q=q.go:=by rw[uAQ,if_pos hc]
  have hg : q.go.at'=q.at' + 1:=rfl
  have h1:=hf q.go
  obtain ⟨k,rfl⟩ : ∃ j,k=j + 1:=⟨k - 1,by omega⟩
  rw[uKF hc] at hi
  have hsy:=uAY l q [44] (by omega) (by omega)
  rw[hs] at hsy
  refine uAo ?_;refine uAr ?_;refine uAd (uAb ?_);refine uAa rfl rfl rfl (uAl rfl gU rfl rfl rfl rfl rfl) ?_;refine uAu rfl rfl rfl rfl rfl rfl gU gU (hsy) rfl ?_;refine uAu rfl rfl rfl rfl rfl rfl gU gU (ih q.go (by omega) (by omega)) rfl ?_;refine uAa rfl rfl rfl (uAc rfl gU) ?_;refine uAa rfl rfl rfl (uAs rfl gU rfl) ?_;refine uAa rfl rfl rfl (uAs rfl gU rfl) ?_;refine uAq rfl (uAy rfl rfl rfl rfl rfl rfl rfl) ?_;refine uAq rfl (uAy rfl rfl rfl rfl rfl rfl rfl) ?_;refine uAf ?_;refine uAk (s:=⟨[(1,_,_),(3,_,_),(4,_,_),(5,_,_)],[(.l 1,_),(.l 3,_),(.l 4,_)],[(.t 5,_)],[]⟩) (uAi (⟨sx rfl,sx rfl,sx rfl,sx rfl,trivial⟩) (⟨sx rfl,sx rfl,sx rfl,trivial⟩) (⟨rfl,trivial⟩)) ?_;refine uAb ?_;refine uAq rfl (uAM (.inl rfl) rfl rfl rfl) ?_;refine uAa rfl rfl rfl (uAl rfl gU rfl rfl rfl rfl rfl) ?_;refine uAN (xs:=[_]) rfl rfl rfl rfl rfl rfl rfl rfl rfl gU rfl ?_;refine uAq rfl (uAX rfl rfl rfl rfl rfl rfl rfl (by first|omega|(simp only [List.length_append,List.length_singleton,T.rows_len]; omega)) (by first|omega|(simp only [List.length_append,List.length_singleton,T.rows_len]; omega))) ?_;refine uAq rfl (uAM (.inr rfl) rfl rfl rfl) ?_;refine uAf ?_;refine ⟨((uA1 l n q.go).2,out++[(uA1 l n q.go).1],(uA1 l n q.go).1),?_,?_,uAi (⟨⟨_,rfl,?_⟩,⟨sx rfl,sx rfl,sx rfl,trivial⟩⟩) (⟨⟨_,rfl,?_⟩,⟨⟨_,rfl,?_⟩,⟨sx rfl,trivial⟩⟩⟩) (⟨rfl,trivial⟩)⟩
  ·exact ⟨by dsimp only; omega,h1.2 (by omega),by simp only [List.length_append,List.length_singleton]; omega,k,by dsimp only; omega,hi⟩
  ·dsimp only; omega
  all_goals first
   | rfl
   | exact tx (uEH out (uA1 l n q.go).1)
 ·try simp only [nn,uAj,T.rows_len,Tk.rows_len] at hc
  rw[uFh hc] at hi
  refine uAJ ?_
  repeat(first|refine uAC ?_|refine uAD ?_|refine uAB rfl ?_)
  refine uAd ?_;refine awp_drawn' (by kernel_rfl) ?_;refine uGq rfl (.inl rfl) rfl rfl rfl rfl rfl ?_;refine uAF rfl rfl rfl rfl rfl rfl rfl gU rfl rfl rfl rfl rfl ?_;refine uGq rfl (.inr rfl) rfl rfl rfl rfl rfl ?_;refine uAR rfl rfl rfl rfl rfl rfl rfl rfl rfl rfl rfl rfl ?_;refine uA5 (by kernel_rfl) ?_;refine uAp ?_
  repeat(first|refine tR ?_|refine bR ?_)
  refine uAt rfl ?_ trivial
  (rw[← hi]; rfl)
theorem uC2 (l : List Tk) (n : Nat) : Fwd l (uA1 l n):=fun p=>by rw[(uFs l n p).1]; exact uEi l n p
theorem uIv (l : List Tk) (n : Nat) (p : PS) : (uA6 l (uA1 l n) p).1.length + p.at'≤1 + (uA6 l (uA1 l n) p).2.at':=uEP (uC2 l n) p
theorem uN8 {l : List Tk} {n : Nat} {p : PS} (h : symQ l p [60]=true) (hb : (uAQ l [62] (uA6 l (uA1 l n) (uAQ l [44] (uA1 l n p.go).2)).2).bad=true) : uA1 l (n + 1) p=(T0,uAQ l [62] (uA6 l (uA1 l n) (uAQ l [44] (uA1 l n p.go).2)).2):=by
 rw[uA1,if_pos h,if_pos hb]
theorem uPp {l : List Tk} {n : Nat} {p : PS} (h : symQ l p [60]=true) (hb : (uAQ l [62] (uA6 l (uA1 l n) (uAQ l [44] (uA1 l n p.go).2)).2).bad=false) :
  uA1 l (n + 1) p=(tupT ((uA1 l n p.go).1 :: (uA6 l (uA1 l n) (uAQ l [44] (uA1 l n p.go).2)).1),uAQ l [62] (uA6 l (uA1 l n) (uAQ l [44] (uA1 l n p.go).2)).2):=by
 rw[uA1,if_pos h,if_neg (by rw[hb]; simp)]
theorem uPN {l : List Tk} {n : Nat} {p : PS} (h : symQ l p [60]=false) (h2 : symQ l (uAx l [] p).2 [40]=false) : uA1 l (n + 1) p=(⟨2,(uAx l [] p).1,0,[]⟩,(uAx l [] p).2):=by
 rw[uA1,if_neg (by rw[h]; simp),if_neg (by rw[h2]; simp)]
theorem uPO {l : List Tk} {n : Nat} {p : PS} (h : symQ l p [60]=false) (h2 : symQ l (uAx l [] p).2 [40]=true) (h3 : symQ l (uAx l [] p).2.go [41]=true) : uA1 l (n + 1) p=(⟨3,(uAx l [] p).1,0,[]⟩,(uAx l [] p).2.go.go):=by
 rw[uA1,if_neg (by rw[h]; simp),if_pos h2,if_pos h3]
theorem uPW {l : List Tk} {n : Nat} {p : PS} (h : symQ l p [60]=false) (h2 : symQ l (uAx l [] p).2 [40]=true) (h3 : symQ l (uAx l [] p).2.go [41]=false) :
  uA1 l (n + 1) p=(⟨3,(uAx l [] p).1,0,(uA6 l (uA1 l n) (uAx l [] p).2.go).1⟩,uAQ l [41] (uA6 l (uA1 l n) (uAx l [] p).2.go).2):=by
 rw[uA1,if_neg (by rw[h]; simp),if_pos h2,if_neg (by rw[h3]; simp)]
set_option maxHeartbeats 4000000 in
theorem uDL (l : List Tk) (hl : l.length≤2000000) : ∀ (n : Nat) (p : PS),p.at'≤l.length→l.length - p.at' < n→Ctr sys 153 [xr l p] [] (.tup [.agg (uA1 l n p).1.cells, .agg (pbx l (uA1 l n p).2)]) none []:=by
 intro n
 induction n with
 | zero=>intro p _ h; omega
 | succ n ih =>
  intro p hp hn
  have hrl:=Tk.rows_len l
  have hg : ∀ q : PS,q.go.at'=q.at' + 1:=fun _=>rfl
  have hml : ∀ q : PS,(T.rows (uA6 l (uA1 l n) q).1).length=(uA6 l (uA1 l n) q).1.length:=fun q=>T.rows_len _
  refine uAA Tryz.func153 rfl rfl rfl rfl rfl rfl ?_;refine uAd (uAb ?_);refine uAq rfl (uAK rfl rfl rfl rfl) ?_;refine uAq rfl (uAG rfl rfl rfl) ?_;refine uAq rfl (uAG rfl rfl rfl) ?_;refine uAf ?_;refine uAd ?_;refine uAd (uAb ?_);refine uAa rfl rfl rfl (uAl rfl gU rfl rfl rfl rfl rfl) ?_;refine uAu rfl rfl rfl rfl rfl rfl gU gU (uCr _ _ _ (by omega) (by omega)) rfl ?_;refine uAf ?_;refine uAk (s:=⟨[(1,_,_),(2,_,_),(3,_,_),(10,_,_)],[(.l 1,_),(.l 2,_),(.l 3,_)],[],[]⟩) (uAi (⟨sx rfl,sx rfl,sx rfl,sx rfl,trivial⟩) (⟨sx rfl,sx rfl,sx rfl,trivial⟩) trivial) ?_;refine uAn rfl (fun hc=>?_) (fun hc=>?_)
  ·try simp only [nn,uAj,T.rows_len,Tk.rows_len] at hc
   have hlt:=(uCd hc).1
   have hs : uAQ l [60] p=p.go:=by rw[uAQ,if_pos hc]
   have hgp:=hg p
   have a1:=uC2 l n p.go
   have a2:=uBs l [44] (uA1 l n p.go).2
   have a3:=uCJ (uC2 l n) (uAQ l [44] (uA1 l n p.go).2)
   have a4:=uBs l [62] (uA6 l (uA1 l n) (uAQ l [44] (uA1 l n p.go).2)).2
   have a5:=uIv l n (uAQ l [44] (uA1 l n p.go).2)
   have a6:=hml (uAQ l [44] (uA1 l n p.go).2)
   have hsy:=uAY l p [60] (by omega) (by omega)
   rw[hs] at hsy
   refine uAd (uAb ?_);refine uAa rfl rfl rfl (uAl rfl gU rfl rfl rfl rfl rfl) ?_;refine uAu rfl rfl rfl rfl rfl rfl gU gU (hsy) rfl ?_;refine uAu rfl rfl rfl rfl rfl rfl gU gU (ih p.go (by omega) (by omega)) rfl ?_;refine uAa rfl rfl rfl (uAc rfl gU) ?_;refine uAa rfl rfl rfl (uAs rfl gU rfl) ?_;refine uAa rfl rfl rfl (uAs rfl gU rfl) ?_;refine uAq rfl (uAG rfl rfl rfl) ?_;refine uAq rfl (uAG rfl rfl rfl) ?_;refine uAq rfl (uAy rfl rfl rfl rfl rfl rfl rfl) ?_;refine uAq rfl (uAy rfl rfl rfl rfl rfl rfl rfl) ?_;refine uAf ?_;refine uAk (s:=⟨[(2,_,_),(3,_,_),(4,_,_),(5,_,_)],[(.l 2,_),(.l 3,_),(.l 4,_),(.l 5,_)],[],[]⟩) (uAi (⟨sx rfl,sx rfl,sx rfl,sx rfl,trivial⟩) (⟨sx rfl,sx rfl,sx rfl,sx rfl,trivial⟩) trivial) ?_;refine uAd (uAb ?_);refine uAa rfl rfl rfl (uAl rfl gU rfl rfl rfl rfl rfl) ?_;refine uAu rfl rfl rfl rfl rfl rfl gU gU (uAY l (uA1 l n p.go).2 [44] (by omega) (by omega)) rfl ?_;refine uAu rfl rfl rfl rfl rfl rfl gU gU (uEC l n hl ih (uC2 l n) (uAQ l [44] (uA1 l n p.go).2) (by omega) (by omega)) rfl ?_;refine uAa rfl rfl rfl (uAc rfl gU) ?_;refine uAa rfl rfl rfl (uAs rfl gU rfl) ?_;refine uAa rfl rfl rfl (uAs rfl gU rfl) ?_;refine uAa rfl rfl rfl (uAe rfl gU) ?_;refine uAq rfl (uAy rfl rfl rfl rfl rfl rfl rfl) ?_
   refine uAf ?_;refine uAk (s:=⟨[(2,_,_),(3,_,_),(4,_,_),(5,_,_),(6,_,_)],[(.l 2,_),(.l 3,_),(.l 4,_),(.l 5,_)],[],[]⟩) (uAi (⟨sx rfl,sx rfl,sx rfl,sx rfl,sx rfl,trivial⟩) (⟨sx rfl,sx rfl,sx rfl,sx rfl,trivial⟩) trivial) ?_;refine uAd (uAb ?_);refine uAa rfl rfl rfl (uAl rfl gU rfl rfl rfl rfl rfl) ?_;refine uAu rfl rfl rfl rfl rfl rfl gU gU (uAY l (uA6 l (uA1 l n) (uAQ l [44] (uA1 l n p.go).2)).2 [62] (by omega) (by omega)) rfl ?_;refine uAq rfl (uAy rfl rfl rfl rfl rfl rfl rfl) ?_;refine uAf ?_;refine uAd ?_;refine uAd (uAb ?_);refine uAa rfl rfl rfl (uAg rfl gU rfl rfl) ?_;refine uAa rfl rfl rfl (uAh rfl gU rfl rfl rfl rfl) ?_;refine uAf ?_;refine uAn rfl (fun hc2=>?_) (fun hc2=>?_)
   ·try simp only [nn,uAj,T.rows_len,Tk.rows_len] at hc2
    rw[uN8 hc hc2]
    refine uAd ?_;refine awp_drawn' (by kernel_rfl) ?_;refine uAw rfl rfl rfl rfl (uAS rfl Tryz.underlying47 rfl gU) ?_;refine uAF rfl rfl rfl rfl rfl rfl rfl gU rfl rfl rfl rfl rfl ?_;refine uAR rfl rfl rfl rfl rfl rfl rfl rfl rfl rfl rfl rfl ?_;refine uAR rfl rfl rfl rfl rfl rfl rfl rfl rfl rfl rfl rfl ?_;refine uA5 (by kernel_rfl) ?_;refine uAp ?_
    repeat(first|refine tR ?_|refine bR ?_)
    refine uAt rfl ?_ trivial
    rfl
   ·try simp only [nn,uAj,T.rows_len,Tk.rows_len] at hc2
    rw[uPp hc hc2]
    refine uAo ?_;refine uAd ?_;refine awp_drawn' (by kernel_rfl) ?_;refine uAF rfl rfl rfl rfl rfl rfl rfl gU rfl rfl rfl rfl rfl ?_;refine uHC (xs:=[_]) rfl rfl rfl rfl rfl rfl rfl rfl rfl rfl gU rfl ?_;refine uAw rfl rfl rfl rfl (uAc rfl gU) ?_;refine uNd rfl rfl rfl rfl rfl rfl rfl rfl rfl rfl rfl (by first|omega|(simp only [List.length_append,List.length_singleton,T.rows_len]; omega)) (by first|omega|(simp only [List.length_append,List.length_singleton,T.rows_len]; omega)) ?_;refine uAZ rfl rfl rfl rfl rfl rfl rfl gU gU (uKi ((uA1 l n p.go).1 :: (uA6 l (uA1 l n) (uAQ l [44] (uA1 l n p.go).2)).1) _ (by rw[T.rows_eq,T.rows_eq]; rfl) (by simp only [List.length_cons]; omega) (by simp)) rfl ?_;refine uAF rfl rfl rfl rfl rfl rfl rfl gU rfl rfl rfl rfl rfl ?_;refine uAR rfl rfl rfl rfl rfl rfl rfl rfl rfl rfl rfl rfl ?_;refine uAR rfl rfl rfl rfl rfl rfl rfl rfl rfl rfl rfl rfl ?_;refine uA5 (by kernel_rfl) ?_;refine uAp ?_
    repeat(first|refine tR ?_|refine bR ?_)
    refine uAt rfl ?_ trivial
    rfl
  ·try simp only [nn,uAj,T.rows_len,Tk.rows_len] at hc
   have a1:=uA4 l [] p
   refine uAo ?_;refine uAd (uAb ?_);refine uAa rfl rfl rfl (uAl rfl gU rfl rfl rfl rfl rfl) ?_;refine uAu rfl rfl rfl rfl rfl rfl gU gU (uBz l p (by omega) (by omega)) rfl ?_;refine uAa rfl rfl rfl (uAc rfl gU) ?_;refine uAa rfl rfl rfl (uAs rfl gU rfl) ?_;refine uAa rfl rfl rfl (uAs rfl gU rfl) ?_;refine uAa rfl rfl rfl (uAe rfl gU) ?_;refine uAq rfl (uAy rfl rfl rfl rfl rfl rfl rfl) ?_;refine uAf ?_;refine uAk (s:=⟨[(1,_,_),(2,_,_),(3,_,_),(7,_,_)],[(.l 1,_),(.l 2,_),(.l 3,_)],[],[]⟩) (uAi (⟨sx rfl,sx rfl,sx rfl,sx rfl,trivial⟩) (⟨sx rfl,sx rfl,sx rfl,trivial⟩) trivial) ?_;refine uAd ?_;refine uAd (uAb ?_);refine uAa rfl rfl rfl (uAg rfl gU rfl rfl) ?_;refine uAa rfl rfl rfl (uAh rfl gU rfl rfl rfl rfl) ?_;refine uAa rfl rfl rfl (uAc rfl gU) ?_;refine uAa rfl rfl rfl (uAl rfl gU rfl rfl rfl rfl rfl) ?_;refine uAu rfl rfl rfl rfl rfl rfl gU (fun hh=>gA ((fun hh=>hh) hh) (gA rfl (rfl))) (uCr _ _ _ (by omega) (by omega)) rfl ?_;refine uAa rfl rfl rfl (uA0 rfl (fun hh=>hh)) ?_;refine uAa rfl rfl rfl (uAL rfl rfl gU (fun _ hi=>gP rfl hi)) ?_;refine uAf ?_;refine uAk (s:=⟨[(1,_,_),(2,_,_),(3,_,_),(7,_,_),(46,_,_)],[(.l 1,_),(.l 2,_),(.l 3,_)],[],[]⟩) (uAi (⟨sx rfl,sx rfl,sx rfl,sx rfl,sx rfl,trivial⟩) (⟨sx rfl,sx rfl,sx rfl,trivial⟩) trivial) ?_
   refine uAn rfl (fun hc2=>?_) (fun hc2=>?_)
   ·try simp only [nn,uAj,T.rows_len,Tk.rows_len] at hc2
    have h2 : symQ l (uAx l [] p).2 [40]=false:=by
     rcases hc2 with q | q
     ·exact uCG q
     ·exact q
    rw[uPN hc h2]
    refine uAd ?_;refine awp_drawn' (by kernel_rfl) ?_;refine uAw rfl rfl rfl rfl (uAc rfl gU) ?_;refine uAZ rfl rfl rfl rfl rfl rfl rfl gU gU (uNj _ _) rfl ?_;refine uAF rfl rfl rfl rfl rfl rfl rfl gU rfl rfl rfl rfl rfl ?_;refine uAR rfl rfl rfl rfl rfl rfl rfl rfl rfl rfl rfl rfl ?_;refine uAR rfl rfl rfl rfl rfl rfl rfl rfl rfl rfl rfl rfl ?_;refine uA5 (by kernel_rfl) ?_;refine uAp ?_
    repeat(first|refine tR ?_|refine bR ?_)
    refine uAt rfl ?_ trivial
    rfl
   ·try simp only [nn,uAj,T.rows_len,Tk.rows_len] at hc2
    have h2:=hc2.2
    have hlt:=(uCd h2).1
    have hg2:=hg (uAx l [] p).2
    have hs2 : uAQ l [40] (uAx l [] p).2=(uAx l [] p).2.go:=by rw[uAQ,if_pos h2]
    have hsy:=uAY l (uAx l [] p).2 [40] (by omega) (by omega)
    rw[hs2] at hsy
    refine uAo ?_;refine uAd (uAb ?_);refine uAa rfl rfl rfl (uAl rfl gU rfl rfl rfl rfl rfl) ?_;refine uAu rfl rfl rfl rfl rfl rfl gU gU (hsy) rfl ?_;refine uAq rfl (uAy rfl rfl rfl rfl rfl rfl rfl) ?_;refine uAf ?_;refine uAd ?_;refine uAd (uAb ?_);refine uAa rfl rfl rfl (uAl rfl gU rfl rfl rfl rfl rfl) ?_;refine uAu rfl rfl rfl rfl rfl rfl gU gU (uCr _ _ _ (by omega) (by omega)) rfl ?_;refine uAf ?_;refine uAn rfl (fun hc3=>?_) (fun hc3=>?_)
    ·try simp only [nn,uAj,T.rows_len,Tk.rows_len] at hc3
     have hlt3:=(uCd hc3).1
     rw[uPO hc h2 hc3]
     have hs3 : uAQ l [41] (uAx l [] p).2.go=(uAx l [] p).2.go.go:=by rw[uAQ,if_pos hc3]
     have hsy3:=uAY l (uAx l [] p).2.go [41] (by omega) (by omega)
     rw[hs3] at hsy3
     refine uAd ?_;refine awp_drawn' (by kernel_rfl) ?_;refine uAw rfl rfl rfl rfl (uAc rfl gU) ?_;refine uAZ rfl rfl rfl rfl rfl rfl rfl gU gU (uFL _ _ [] rfl (by simp)) rfl ?_;refine uAF rfl rfl rfl rfl rfl rfl rfl gU rfl rfl rfl rfl rfl ?_;refine uAZ rfl rfl rfl rfl rfl rfl rfl gU gU (hsy3) rfl ?_;refine uAR rfl rfl rfl rfl rfl rfl rfl rfl rfl rfl rfl rfl ?_;refine uAR rfl rfl rfl rfl rfl rfl rfl rfl rfl rfl rfl rfl ?_;refine uA5 (by kernel_rfl) ?_;refine uAp ?_
     repeat(first|refine tR ?_|refine bR ?_)
     refine uAt rfl ?_ trivial
     rfl
    ·try simp only [nn,uAj,T.rows_len,Tk.rows_len] at hc3
     rw[uPW hc h2 hc3]
     have a3:=uCJ (uC2 l n) (uAx l [] p).2.go
     have a5:=uIv l n (uAx l [] p).2.go
     refine uAo ?_;refine uAd (uAb ?_);refine uAa rfl rfl rfl (uAl rfl gU rfl rfl rfl rfl rfl) ?_;refine uAu rfl rfl rfl rfl rfl rfl gU gU (uEC l n hl ih (uC2 l n) (uAx l [] p).2.go (by omega) (by omega)) rfl ?_;refine uAa rfl rfl rfl (uAc rfl gU) ?_;refine uAa rfl rfl rfl (uAs rfl gU rfl) ?_;refine uAa rfl rfl rfl (uAs rfl gU rfl) ?_;refine uAa rfl rfl rfl (uAe rfl gU) ?_;refine uAq rfl (uAy rfl rfl rfl rfl rfl rfl rfl) ?_;refine uAf ?_;refine uAk (s:=⟨[(1,_,_),(2,_,_),(3,_,_),(7,_,_),(8,_,_)],[(.l 1,_),(.l 2,_),(.l 3,_)],[],[]⟩) (uAi (⟨sx rfl,sx rfl,sx rfl,sx rfl,sx rfl,trivial⟩) (⟨sx rfl,sx rfl,sx rfl,trivial⟩) trivial) ?_;refine uAd ?_;refine awp_drawn' (by kernel_rfl) ?_;refine uAw rfl rfl rfl rfl (uAc rfl gU) ?_;refine uAw rfl rfl rfl rfl (uAc rfl gU) ?_;refine uAZ rfl rfl rfl rfl rfl rfl rfl gU gU (uFL _ _ (uA6 l (uA1 l n) (uAx l [] p).2.go).1 rfl (by omega)) rfl ?_;refine uAF rfl rfl rfl rfl rfl rfl rfl gU rfl rfl rfl rfl rfl ?_;refine uAZ rfl rfl rfl rfl rfl rfl rfl gU gU (uAY l (uA6 l (uA1 l n) (uAx l [] p).2.go).2 [41] (by omega) (by omega)) rfl ?_;refine uAR rfl rfl rfl rfl rfl rfl rfl rfl rfl rfl rfl rfl ?_;refine uAR rfl rfl rfl rfl rfl rfl rfl rfl rfl rfl rfl rfl ?_;refine uA5 (by kernel_rfl) ?_;refine uAp ?_
     repeat(first|refine tR ?_|refine bR ?_)
     refine uAt rfl ?_ trivial
     rfl
def soC (n : Nar) (u1 u2 u3 u4 u5 : Value) : List C:=[.s n.name, .so u1 1 (strR n.roles), .so u2 3 (Fs.rows n.fresh), .so u3 1 (strR n.tags), .so u4 7 (Sp.rows n.steps), .so u5 5 (Gl.rows n.goals)]
abbrev narC (a : List UInt8) (r1 r2 r3 r4 r5 : List (List C)) : List C:=[.s a, .sl 1 r1, .sl 3 r2, .sl 1 r3, .sl 7 r4, .sl 5 r5]
abbrev uN3 (a : List UInt8) (r1 r2 r3 r4 r5 : List (List C)) (u1 u2 u3 u4 u5 : Value) : List C:=[.s a, .so u1 1 r1, .so u2 3 r2, .so u3 1 r3, .so u4 7 r4, .so u5 5 r5]
theorem uPU {st st' : St} {n : Nm} {cs : List C} (hb : st'.box n=some cs) (hbx : ∀ m,m≠n→st'.box m=st.box m) (ht : st'.t=st.t) (ho : st'.ow=st.ow) (hm : st'.mp=st.mp) : Sub { st with bx:=(n,cs) :: st.bx } st' where
 t:=fun k e h=>by
  show getT st'.t k=some e
  rw[ht]; exact h
 bx:=fun m ds h=>by
  have h2 : getB ((n,cs) :: st.bx) m=some ds:=h
  rw[uA3] at h2
  split at h2
  ·rename_i he; subst he; rw[hb]; exact h2
  ·rename_i he; rw[hbx m fun q=>he q.symm]; exact h2
 ow:=fun p sz h=>by
  show getO st'.ow p=some sz
  rw[ho]; exact h
 mp:=.inr hm.symm
theorem uCX (st : St) (n : Nm) (cs : List C) (m : Nm) : ({ st with bx:=(n,cs) :: st.bx } : St).box m=if n=m then some cs else st.box m:=uA3 _ _ _ _
theorem uBe {N : Nat} {c : Code} {Q : Exit→St→Prop} {st : St} (n : Nm) {a : List UInt8} {r1 r2 r3 r4 r5 : List (List C)} (hb : st.box n=some (narC a r1 r2 r3 r4 r5))
  (h : ∀ u1 u2 u3 u4 u5,AWP sysO N c Q { st with bx:=(n,uN3 a r1 r2 r3 r4 r5 u1 u2 u3 u4 u5) :: st.bx }) : AWP sysO N c Q st:=by
 refine uEg n 1 hb rfl fun u1=>?_
 refine uEg n 2 ((uCX _ _ _ _).trans (if_pos rfl)) rfl fun u2=>?_
 refine uEg n 3 ((uCX _ _ _ _).trans (if_pos rfl)) rfl fun u3=>?_
 refine uEg n 4 ((uCX _ _ _ _).trans (if_pos rfl)) rfl fun u4=>?_
 refine uEg n 5 ((uCX _ _ _ _).trans (if_pos rfl)) rfl fun u5=>?_
 have hn : ∀ {m : Nm},m≠n → ¬n=m:=fun h q=>h q.symm
 exact uAk (uPU ((uCX _ _ _ _).trans (if_pos rfl)) (fun m hm=>(uCX _ _ _ _).trans ((if_neg (hn hm)).trans ((uCX _ _ _ _).trans ((if_neg (hn hm)).trans ((uCX _ _ _ _).trans ((if_neg (hn hm)).trans ((uCX _ _ _ _).trans ((if_neg (hn hm)).trans ((uCX _ _ _ _).trans (if_neg (hn hm)))))))))) ) rfl rfl rfl) (h u1 u2 u3 u4 u5)
theorem uO8 (st : St) (n m : Nm) (k sz : Nat) (cs : List C) (x : Nm) : ((({ st with bx:=(n,cs) :: st.bx } : St).unown (.b m k)).addOwn (.b n k) sz).box x=if n=x then some cs else st.box x:=uA3 _ _ _ _
theorem uOo (st : St) (n m : Nm) (k sz : Nat) (cs : List C) (p : Pl) : ((({ st with bx:=(n,cs) :: st.bx } : St).unown (.b m k)).addOwn (.b n k) sz).own p=if .b n k=p then some sz else if p = .b m k then none else st.own p:=by
 rw[St.addOwn_own,St.unown_own]; rfl
def uNX (st : St) (m : Nm) : Bool:=decide (st.own (.b m 1)=some 1) && decide (st.own (.b m 2)=some 3) && decide (st.own (.b m 3)=some 1) && decide (st.own (.b m 4)=some 7) && decide (st.own (.b m 5)=some 5)
theorem uBi {N : Nat} {c : Code} {Q : Exit→St→Prop} {st : St} (n m : Nm) {a : List UInt8} {r1 r2 r3 r4 r5 : List (List C)} {u1 u2 u3 u4 u5 : Value} (hb : st.box n=some (uN3 a r1 r2 r3 r4 r5 u1 u2 u3 u4 u5)) (hbm : st.box m=some (uN3 a r1 r2 r3 r4 r5 u1 u2 u3 u4 u5))
  (ho : uNX st m=true) (hnb : n.isBd=false) (hne : Nm.beq m n=false)
  (h : AWP sysO N c Q { st with bx:=(n,narC a r1 r2 r3 r4 r5) :: st.bx,ow:=(.b n 1,1) :: (.b n 2,3) :: (.b n 3,1) :: (.b n 4,7) :: (.b n 5,5) :: st.ow.filter fun q=>!Pl.inBox m q.1 }) : AWP sysO N c Q st:=by
 have hmn : ¬n=m:=fun q=>by subst q; rw[Nm.beq_self] at hne; cases hne
 simp only [uNX,Bool.and_eq_true,decide_eq_true_eq] at ho
 obtain ⟨⟨⟨⟨o1,o2⟩,o3⟩,o4⟩,o5⟩:=ho
 have hpb : ∀ i j,Pl.beq (.b m i) (.b n j)=false:=fun i j=>by simp [Pl.beq,hne]
 have bn : ∀ (s : St) (k sz : Nat) (cs : List C),((({ s with bx:=(n,cs) :: s.bx } : St).unown (.b m k)).addOwn (.b n k) sz).box n=some cs:=fun s k sz cs=>(uO8 s n m k sz cs n).trans (if_pos rfl)
 have bm : ∀ (s : St) (k sz : Nat) (cs : List C) {x : Nm},¬n=x→((({ s with bx:=(n,cs) :: s.bx } : St).unown (.b m k)).addOwn (.b n k) sz).box x=s.box x:=fun s k sz cs x hx=>(uO8 s n m k sz cs x).trans (if_neg hx)
 have ow : ∀ (s : St) (k sz : Nat) (cs : List C) {p : Pl},¬Pl.b n k=p → ¬p=Pl.b m k→((({ s with bx:=(n,cs) :: s.bx } : St).unown (.b m k)).addOwn (.b n k) sz).own p=s.own p:=fun s k sz cs p h1 h2=>(uOo s n m k sz cs p).trans ((if_neg h1).trans (if_neg h2))
 have os : ∀ (s : St) (k sz : Nat) (cs : List C),((({ s with bx:=(n,cs) :: s.bx } : St).unown (.b m k)).addOwn (.b n k) sz).own (.b n k)=some sz:=fun s k sz cs=>(uOo s n m k sz cs _).trans (if_pos rfl)
 have dn : ∀ {i j : Nat} {x y : Nm},i≠j → ¬Pl.b x i=Pl.b y j:=fun h q=>by simp at q; exact h q.2
 have hnm : ∀ {i j : Nat},¬Pl.b n i=Pl.b m j:=fun q=>by simp at q; exact hmn q.1
 refine uEm n 1 m 1 hb rfl hbm rfl o1 hnb (hpb _ _) ?_;refine uEm n 2 m 2 (bn _ _ _ _) rfl ((bm _ _ _ _ hmn).trans hbm) rfl ((ow _ _ _ _ (dn (by decide)) (dn (by decide))).trans o2) hnb (hpb _ _) ?_;refine uEm n 3 m 3 (bn _ _ _ _) rfl ((bm _ _ _ _ hmn).trans ((bm _ _ _ _ hmn).trans hbm)) rfl ((ow _ _ _ _ (dn (by decide)) (dn (by decide))).trans ((ow _ _ _ _ (dn (by decide)) (dn (by decide))).trans o3)) hnb (hpb _ _) ?_;refine uEm n 4 m 4 (bn _ _ _ _) rfl ((bm _ _ _ _ hmn).trans ((bm _ _ _ _ hmn).trans ((bm _ _ _ _ hmn).trans hbm))) rfl
  ((ow _ _ _ _ (dn (by decide)) (dn (by decide))).trans ((ow _ _ _ _ (dn (by decide)) (dn (by decide))).trans ((ow _ _ _ _ (dn (by decide)) (dn (by decide))).trans o4))) hnb (hpb _ _) ?_
 refine uEm n 5 m 5 (bn _ _ _ _) rfl ((bm _ _ _ _ hmn).trans ((bm _ _ _ _ hmn).trans ((bm _ _ _ _ hmn).trans ((bm _ _ _ _ hmn).trans hbm)))) rfl
  ((ow _ _ _ _ (dn (by decide)) (dn (by decide))).trans ((ow _ _ _ _ (dn (by decide)) (dn (by decide))).trans ((ow _ _ _ _ (dn (by decide)) (dn (by decide))).trans ((ow _ _ _ _ (dn (by decide)) (dn (by decide))).trans o5)))) hnb (hpb _ _) ?_
 refine uAk ?_ h;refine ⟨fun k e q=>q,fun x cs q=>?_,fun p sz q=>?_, .inr rfl⟩
 ·have q2 : getB ((n,narC a r1 r2 r3 r4 r5) :: st.bx) x=some cs:=q
  clear q
  rw[uA3] at q2
  split at q2
  ·rename_i he; subst he; exact (bn _ _ _ _).trans q2
  ·rename_i he
   have q:=q2
   exact (bm _ _ _ _ he).trans ((bm _ _ _ _ he).trans ((bm _ _ _ _ he).trans ((bm _ _ _ _ he).trans ((bm _ _ _ _ he).trans q))))
 ·have q3 : getO ((Pl.b n 1,1) :: (.b n 2,3) :: (.b n 3,1) :: (.b n 4,7) :: (.b n 5,5) :: st.ow.filter fun q=>!Pl.inBox m q.1) p=some sz:=q
  clear q
  have q:=q3
  clear q3
  simp only [uBY] at q
  split at q
  ·rename_i he; subst he
   exact (ow _ _ _ _ (dn (by decide)) hnm).trans ((ow _ _ _ _ (dn (by decide)) hnm).trans ((ow _ _ _ _ (dn (by decide)) hnm).trans ((ow _ _ _ _ (dn (by decide)) hnm).trans ((os _ _ _ _).trans q))))
  rename_i p1
  split at q
  ·rename_i he; subst he
   exact (ow _ _ _ _ (dn (by decide)) hnm).trans ((ow _ _ _ _ (dn (by decide)) hnm).trans ((ow _ _ _ _ (dn (by decide)) hnm).trans ((os _ _ _ _).trans q)))
  rename_i p2
  split at q
  ·rename_i he; subst he
   exact (ow _ _ _ _ (dn (by decide)) hnm).trans ((ow _ _ _ _ (dn (by decide)) hnm).trans ((os _ _ _ _).trans q))
  rename_i p3
  split at q
  ·rename_i he; subst he
   exact (ow _ _ _ _ (dn (by decide)) hnm).trans ((os _ _ _ _).trans q)
  rename_i p4
  split at q
  ·rename_i he; subst he
   exact (os _ _ _ _).trans q
  rename_i p5
  rw[uBQ (fun r=>!Pl.inBox m r)] at q
  split at q
  ·rename_i hin
   have hpm : ∀ {j : Nat},¬p=Pl.b m j:=fun e=>by subst e; simp [Pl.inBox,Nm.beq_self] at hin
   exact (ow _ _ _ _ p5 hpm).trans ((ow _ _ _ _ p4 hpm).trans ((ow _ _ _ _ p3 hpm).trans ((ow _ _ _ _ p2 hpm).trans ((ow _ _ _ _ p1 hpm).trans q))))
  ·cases q
def osR : OS:=[(0,1,1),(0,2,3),(0,3,1),(0,4,7),(0,5,5)]
abbrev xnr (l : List Tk) (r : Nar × PS) : X:=.tup [.agg r.1.cells, .agg (pbx l r.2)]
set_option maxHeartbeats 4000000 in
theorem uEU (l : List Tk) (p : PS) (n : Nar) (line : Int) (u1 u2 u3 u4 u5 : Value) (hl : l.length≤2000000) (hp : p.at'≤l.length) (hn : n.steps.length≤3000000) :
  CtrO sysO 134 [.v (.agg (soC n u1 u2 u3 u4 u5)),xr l p,xi line] [soC n u1 u2 u3 u4 u5] osR (xnr l ({ n with steps:=n.steps++[(uEt l line p).1] },(uEt l line p).2)) [soC n u1 u2 u3 u4 u5] .res:=by
 have hrs:=Sp.rows_len n.steps
 have hrl:=Tk.rows_len l
 refine uBH Tryz.func134 rfl rfl rfl rfl rfl rfl rfl ?_;refine uAd (uAb ?_);refine uAq rfl (uAK rfl rfl rfl rfl) ?_;refine uAq rfl (uAK rfl rfl rfl rfl) ?_;refine uAq rfl (uAG rfl rfl rfl) ?_;refine uAq rfl (uAG rfl rfl rfl) ?_;refine uAf ?_;refine uAk (s:=⟨[(2,_,_),(3,_,_),(4,_,_),(6,_,_),(7,_,_)],[(.l 3,_),(.l 4,_),(.l 6,_),(.l 7,_),(.o 0,_)],[(.b (.o 0) 1,_),(.b (.o 0) 2,_),(.b (.o 0) 3,_),(.b (.o 0) 4,_),(.b (.o 0) 5,_)],[]⟩) (uAi (⟨sx rfl,sx rfl,sx rfl,sx rfl,sx rfl,trivial⟩) (⟨sx rfl,sx rfl,sx rfl,sx rfl,sx rfl,trivial⟩) (⟨rfl,rfl,rfl,rfl,rfl,trivial⟩)) ?_;refine uBi (.l 3) (.o 0) rfl rfl rfl rfl rfl ?_;refine uAk (s:=⟨[(2,_,_),(3,_,_),(4,_,_),(6,_,_),(7,_,_)],[(.l 3,_),(.l 4,_),(.l 6,_),(.l 7,_),(.o 0,_)],[(.b (.l 3) 1,_),(.b (.l 3) 2,_),(.b (.l 3) 3,_),(.b (.l 3) 4,_),(.b (.l 3) 5,_)],[]⟩) (uAi (⟨sx rfl,sx rfl,sx rfl,sx rfl,sx rfl,trivial⟩) (⟨sx rfl,sx rfl,sx rfl,sx rfl,sx rfl,trivial⟩) (⟨rfl,rfl,rfl,rfl,rfl,trivial⟩)) ?_;refine uAd (uAb ?_);refine uAa rfl rfl rfl (uAc rfl gU) ?_;refine uAa rfl rfl rfl (uAS rfl Tryz.underlying49 rfl gU) ?_;refine uAq rfl (uAG rfl rfl rfl) ?_;refine uAq rfl (uAy rfl rfl rfl rfl rfl rfl rfl) ?_;refine uAf ?_
 refine uAd (uAb ?_);refine uAa rfl rfl rfl (uAl rfl gU rfl rfl rfl rfl rfl) ?_;refine uAu rfl rfl rfl rfl rfl rfl gU gU (up (uBz l _ (by omega) (le3 hl (by repeat(first|exact hp|refine uB5 ?_|refine uBE ?_))))) rfl ?_;refine uAa rfl rfl rfl (uAc rfl gU) ?_;refine uAa rfl rfl rfl (uAs rfl gU rfl) ?_;refine uAa rfl rfl rfl (uAs rfl gU rfl) ?_;refine uAa rfl rfl rfl (uAg rfl gU rfl rfl) ?_;refine uAq rfl (uAy rfl rfl rfl rfl rfl rfl rfl) ?_;refine uAq rfl (uAy rfl rfl rfl rfl rfl rfl rfl) ?_;refine uAf ?_;refine uAk (s:=⟨[(3,_,_),(4,_,_),(6,_,_),(7,_,_),(8,_,_)],[(.l 3,_),(.l 4,_),(.l 6,_),(.l 7,_),(.l 8,_),(.o 0,_)],[(.b (.l 3) 1,_),(.b (.l 3) 2,_),(.b (.l 3) 3,_),(.b (.l 3) 4,_),(.b (.l 3) 5,_)],[]⟩) (uAi (⟨sx rfl,sx rfl,sx rfl,sx rfl,sx rfl,trivial⟩) (⟨sx rfl,sx rfl,sx rfl,sx rfl,sx rfl,sx rfl,trivial⟩) (⟨rfl,rfl,rfl,rfl,rfl,trivial⟩)) ?_;refine uAd (uAb ?_);refine uAa rfl rfl rfl (uAl rfl gU rfl rfl rfl rfl rfl) ?_;refine uAu rfl rfl rfl rfl rfl rfl gU gU (up (uAY l _ _ (by omega) (le3 hl (by repeat(first|exact hp|refine uB5 ?_|refine uBE ?_))))) rfl ?_;refine uAu rfl rfl rfl rfl rfl rfl gU gU (up (uAY l _ _ (by omega) (le3 hl (by repeat(first|exact hp|refine uB5 ?_|refine uBE ?_))))) rfl ?_
 refine uAq rfl (uAy rfl rfl rfl rfl rfl rfl rfl) ?_;refine uAf ?_;refine uAd (uAb ?_);refine uAa rfl rfl rfl (uAl rfl gU rfl rfl rfl rfl rfl) ?_;refine uAu rfl rfl rfl rfl rfl rfl gU gU (up (uBz l _ (by omega) (le3 hl (by repeat(first|exact hp|refine uB5 ?_|refine uBE ?_))))) rfl ?_;refine uAa rfl rfl rfl (uAc rfl gU) ?_;refine uAa rfl rfl rfl (uAs rfl gU rfl) ?_;refine uAa rfl rfl rfl (uAs rfl gU rfl) ?_;refine uAa rfl rfl rfl (uAg rfl gU rfl rfl) ?_;refine uAq rfl (uAy rfl rfl rfl rfl rfl rfl rfl) ?_;refine uAq rfl (uAy rfl rfl rfl rfl rfl rfl rfl) ?_;refine uAf ?_;refine uAk (s:=⟨[(3,_,_),(4,_,_),(6,_,_),(7,_,_),(8,_,_)],[(.l 3,_),(.l 4,_),(.l 6,_),(.l 7,_),(.l 8,_),(.o 0,_)],[(.b (.l 3) 1,_),(.b (.l 3) 2,_),(.b (.l 3) 3,_),(.b (.l 3) 4,_),(.b (.l 3) 5,_)],[]⟩) (uAi (⟨sx rfl,sx rfl,sx rfl,sx rfl,sx rfl,trivial⟩) (⟨sx rfl,sx rfl,sx rfl,sx rfl,sx rfl,sx rfl,trivial⟩) (⟨rfl,rfl,rfl,rfl,rfl,trivial⟩)) ?_;refine uAd (uAb ?_);refine uAa rfl rfl rfl (uAl rfl gU rfl rfl rfl rfl rfl) ?_;refine uAu rfl rfl rfl rfl rfl rfl gU gU (up (uAY l _ _ (by omega) (le3 hl (by repeat(first|exact hp|refine uB5 ?_|refine uBE ?_))))) rfl ?_;refine uAu rfl rfl rfl rfl rfl rfl gU gU (up (uDL l (by omega) (l.length + 1) _ (by repeat(first|exact hp|refine uB5 ?_|refine uBE ?_)) (by omega))) rfl ?_
 refine uAa rfl rfl rfl (uAc rfl gU) ?_;refine uAa rfl rfl rfl (uAs rfl gU rfl) ?_;refine uAa rfl rfl rfl (uAs rfl gU rfl) ?_;refine uAa rfl rfl rfl (uAg rfl gU rfl rfl) ?_;refine uAq rfl (uAy rfl rfl rfl rfl rfl rfl rfl) ?_;refine uAq rfl (uAy rfl rfl rfl rfl rfl rfl rfl) ?_;refine uAf ?_;refine uAk (s:=⟨[(3,_,_),(4,_,_),(6,_,_),(7,_,_),(8,_,_)],[(.l 3,_),(.l 4,_),(.l 6,_),(.l 7,_),(.l 8,_),(.o 0,_)],[(.b (.l 3) 1,_),(.b (.l 3) 2,_),(.b (.l 3) 3,_),(.b (.l 3) 4,_),(.b (.l 3) 5,_)],[]⟩) (uAi (⟨sx rfl,sx rfl,sx rfl,sx rfl,sx rfl,trivial⟩) (⟨sx rfl,sx rfl,sx rfl,sx rfl,sx rfl,sx rfl,trivial⟩) (⟨rfl,rfl,rfl,rfl,rfl,trivial⟩)) ?_;refine uAd (uAb ?_);refine uAa rfl rfl rfl (uAg rfl gU rfl rfl) ?_;refine uAq rfl (uBw rfl rfl rfl rfl rfl rfl rfl) ?_;refine uAa rfl rfl rfl (uAl rfl gU rfl rfl rfl rfl rfl) ?_;refine uAN (xs:=[_]) rfl rfl rfl rfl rfl rfl rfl rfl rfl gU rfl ?_;refine uAq rfl (uAX rfl rfl rfl rfl rfl rfl rfl (by first|omega|(simp only [List.length_append,List.length_singleton,Sp.rows_len]; omega)) (by first|omega|(simp only [List.length_append,List.length_singleton,Sp.rows_len]; omega))) ?_;refine uAa rfl rfl rfl (uAg rfl gU rfl rfl) ?_;refine uAq rfl (uBv rfl rfl rfl rfl rfl rfl rfl) ?_
 refine uAf ?_;refine uAk (s:=⟨[(3,_,_),(4,_,_),(6,_,_),(7,_,_)],[(.l 3,_),(.l 4,_),(.l 6,_),(.l 7,_),(.o 0,_)],[(.b (.l 3) 1,_),(.b (.l 3) 2,_),(.b (.l 3) 3,_),(.b (.l 3) 4,_),(.b (.l 3) 5,_)],[]⟩) (uAi (⟨sx rfl,sx rfl,sx rfl,sx rfl,trivial⟩) (⟨sx rfl,sx rfl,sx rfl,sx rfl,sx rfl,trivial⟩) (⟨rfl,rfl,rfl,rfl,rfl,trivial⟩)) ?_;refine uAk (s:=⟨[(3,_,_),(4,_,_),(6,_,_),(7,_,_)],[(.l 3,_),(.l 4,_),(.l 6,_),(.l 7,_),(.o 0,_)],[(.b (.l 3) 1,_),(.b (.l 3) 2,_),(.b (.l 3) 3,_),(.b (.l 3) 4,_),(.b (.l 3) 5,_)],[]⟩) (uAi (⟨sx rfl,sx rfl,sx rfl,sx rfl,trivial⟩) (⟨sx rfl,sx rfl,sx rfl,sx rfl,sx rfl,trivial⟩) (⟨rfl,rfl,rfl,rfl,rfl,trivial⟩)) ?_;refine uBe (.l 3) rfl (fun w1 w2 w3 w4 w5=>?_);refine uAk (s:=⟨[(3,_,_),(4,_,_),(6,_,_),(7,_,_)],[(.l 3,_),(.l 4,_),(.l 6,_),(.l 7,_),(.o 0,_)],[(.b (.l 3) 1,_),(.b (.l 3) 2,_),(.b (.l 3) 3,_),(.b (.l 3) 4,_),(.b (.l 3) 5,_)],[]⟩) (uAi (⟨sx rfl,sx rfl,sx rfl,sx rfl,trivial⟩) (⟨sx rfl,sx rfl,sx rfl,sx rfl,sx rfl,trivial⟩) (⟨rfl,rfl,rfl,rfl,rfl,trivial⟩)) ?_;refine uAd ?_;refine awp_drawn' (by kernel_rfl) ?_;refine uAF rfl rfl rfl rfl rfl rfl rfl gU rfl rfl rfl rfl rfl ?_;refine uAF rfl rfl rfl rfl rfl rfl rfl gU rfl rfl rfl rfl rfl ?_
 refine uAR rfl rfl rfl rfl rfl rfl rfl rfl rfl rfl rfl rfl ?_;refine uAR rfl rfl rfl rfl rfl rfl rfl rfl rfl rfl rfl rfl ?_;refine uA5 (by kernel_rfl) ?_;refine uAk (s:=⟨[(3,_,_),(6,_,_),(7,_,_)],[(.l 3,_),(.l 6,_),(.l 7,_),(.o 0,_)],[(.b (.l 3) 1,_),(.b (.l 3) 2,_),(.b (.l 3) 3,_),(.b (.l 3) 4,_),(.b (.l 3) 5,_)],[]⟩) (uAi (⟨sx rfl,sx rfl,sx rfl,trivial⟩) (⟨sx rfl,sx rfl,sx rfl,sx rfl,trivial⟩) (⟨(ak rfl (ak rfl (ak rfl (ak rfl (rfl))))),(ak rfl (ak rfl (ak rfl (ak rfl (rfl))))),(ak rfl (ak rfl (ak rfl (ak rfl (rfl))))),(ak rfl (ak rfl (ak rfl (ak rfl (rfl))))),(ak rfl (ak rfl (ak rfl (ak rfl (rfl))))),trivial⟩)) ?_;refine uBi (.l 6) (.l 3) rfl rfl rfl rfl rfl ?_;refine uAk (s:=⟨[(3,_,_),(6,_,_),(7,_,_)],[(.l 3,_),(.l 6,_),(.l 7,_),(.o 0,_)],[(.b (.l 6) 1,_),(.b (.l 6) 2,_),(.b (.l 6) 3,_),(.b (.l 6) 4,_),(.b (.l 6) 5,_)],[]⟩) (uAi (⟨sx rfl,sx rfl,sx rfl,trivial⟩) (⟨sx rfl,sx rfl,sx rfl,sx rfl,trivial⟩) (⟨rfl,rfl,rfl,rfl,rfl,trivial⟩)) ?_;refine uAp ?_
 repeat(first|refine tR ?_|refine bR ?_)
 refine uBq rfl ?_ ⟨⟨_,rfl,rfl⟩,trivial⟩ (by simp) rfl rfl rfl rfl rfl rfl;exact congrArg (fun z=>X.tup [.agg (narC n.name (strR n.roles) (Fs.rows n.fresh) (strR n.tags) z (Gl.rows n.goals)), .agg (pbx l (uEt l line p).2)]) (Sp.rows_app n.steps [(uEt l line p).1]).symm
theorem uJa (l : List Tk) (ws : List (List UInt8)) : Fwd l (chR l ws):=fun p=>by
 have h:=uA4 l [] p
 unfold chR
 split
 ·simp [PS.off]
 ·exact h
theorem uD3 {l : List Tk} {ws : List (List UInt8)} {p : PS} (h : p.at'≤l.length) : (chR l ws p).2.at'≤l.length:=(uJa l ws p).2 h
set_option maxHeartbeats 4000000 in
theorem uEX (l : List Tk) (p : PS) (n : Nar) (line : Int) (u1 u2 u3 u4 u5 : Value) (hl : l.length≤2000000) (hp : p.at'≤l.length) (hn : n.goals.length≤3000000) :
  CtrO sysO 135 [.v (.agg (soC n u1 u2 u3 u4 u5)),xr l p,xi line] [soC n u1 u2 u3 u4 u5] osR (xnr l ({ n with goals:=n.goals++[(uDE l line p).1] },(uDE l line p).2)) [soC n u1 u2 u3 u4 u5] .res:=by
 have hrs:=Gl.rows_len n.goals
 have hrl:=Tk.rows_len l
 refine uBH Tryz.func135 rfl rfl rfl rfl rfl rfl rfl ?_;refine uAd (uAb ?_);refine uAq rfl (uAK rfl rfl rfl rfl) ?_;refine uAq rfl (uAK rfl rfl rfl rfl) ?_;refine uAq rfl (uAG rfl rfl rfl) ?_;refine uAq rfl (uAG rfl rfl rfl) ?_;refine uAf ?_;refine uAk (s:=⟨[(2,_,_),(3,_,_),(4,_,_),(6,_,_),(7,_,_)],[(.l 3,_),(.l 4,_),(.l 6,_),(.l 7,_),(.o 0,_)],[(.b (.o 0) 1,_),(.b (.o 0) 2,_),(.b (.o 0) 3,_),(.b (.o 0) 4,_),(.b (.o 0) 5,_)],[]⟩) (uAi (⟨sx rfl,sx rfl,sx rfl,sx rfl,sx rfl,trivial⟩) (⟨sx rfl,sx rfl,sx rfl,sx rfl,sx rfl,trivial⟩) (⟨rfl,rfl,rfl,rfl,rfl,trivial⟩)) ?_;refine uBi (.l 3) (.o 0) rfl rfl rfl rfl rfl ?_;refine uAk (s:=⟨[(2,_,_),(3,_,_),(4,_,_),(6,_,_),(7,_,_)],[(.l 3,_),(.l 4,_),(.l 6,_),(.l 7,_),(.o 0,_)],[(.b (.l 3) 1,_),(.b (.l 3) 2,_),(.b (.l 3) 3,_),(.b (.l 3) 4,_),(.b (.l 3) 5,_)],[]⟩) (uAi (⟨sx rfl,sx rfl,sx rfl,sx rfl,sx rfl,trivial⟩) (⟨sx rfl,sx rfl,sx rfl,sx rfl,sx rfl,trivial⟩) (⟨rfl,rfl,rfl,rfl,rfl,trivial⟩)) ?_;refine uAd (uAb ?_);refine uAa rfl rfl rfl (uAc rfl gU) ?_;refine uAa rfl rfl rfl (uAS rfl Tryz.underlying51 rfl gU) ?_;refine uAq rfl (uAG rfl rfl rfl) ?_;refine uAq rfl (uAy rfl rfl rfl rfl rfl rfl rfl) ?_;refine uAf ?_
 refine uAd ?_;refine awp_drawn' (by kernel_rfl) ?_;refine uAF rfl rfl rfl rfl rfl rfl rfl gU rfl rfl rfl rfl rfl ?_;refine uAZ rfl rfl rfl rfl rfl rfl rfl gU gU (up uLS) rfl ?_;refine uAZ rfl rfl rfl rfl rfl rfl rfl gU gU (up (uC6 l p uBC (by omega) (by omega))) rfl ?_;refine uAw rfl rfl rfl rfl (uAc rfl gU) ?_;refine uAw rfl rfl rfl rfl (uAs rfl gU rfl) ?_;refine uAw rfl rfl rfl rfl (uAs rfl gU rfl) ?_;refine uAw rfl rfl rfl rfl (uAg rfl gU rfl rfl) ?_;refine uAR rfl rfl rfl rfl rfl rfl rfl rfl rfl rfl rfl rfl ?_;refine uAR rfl rfl rfl rfl rfl rfl rfl rfl rfl rfl rfl rfl ?_;refine uA5 (by kernel_rfl) ?_;refine uAk (s:=⟨[(3,_,_),(4,_,_),(6,_,_),(7,_,_),(8,_,_)],[(.l 3,_),(.l 4,_),(.l 6,_),(.l 7,_),(.l 8,_),(.o 0,_)],[(.b (.l 3) 1,_),(.b (.l 3) 2,_),(.b (.l 3) 3,_),(.b (.l 3) 4,_),(.b (.l 3) 5,_)],[]⟩) (uAi (⟨sx rfl,sx rfl,sx rfl,sx rfl,sx rfl,trivial⟩) (⟨sx rfl,sx rfl,sx rfl,sx rfl,sx rfl,sx rfl,trivial⟩) (⟨(ak rfl (ak rfl (ak rfl (ak rfl (ak rfl (ak rfl (ak rfl (ak rfl (ak rfl (rfl)))))))))),(ak rfl (ak rfl (ak rfl (ak rfl (ak rfl (ak rfl (ak rfl (ak rfl (ak rfl (rfl)))))))))),(ak rfl (ak rfl (ak rfl (ak rfl (ak rfl (ak rfl (ak rfl (ak rfl (ak rfl (rfl)))))))))),(ak rfl (ak rfl (ak rfl (ak rfl (ak rfl (ak rfl (ak rfl (ak rfl (ak rfl (rfl)))))))))),(ak rfl (ak rfl (ak rfl (ak rfl (ak rfl (ak rfl (ak rfl (ak rfl (ak rfl (rfl)))))))))),trivial⟩)) ?_
 refine uAd (uAb ?_);refine uAa rfl rfl rfl (uAl rfl gU rfl rfl rfl rfl rfl) ?_;refine uAu rfl rfl rfl rfl rfl rfl gU gU (up (uBz l _ (by omega) (le3 hl (by repeat(first|exact hp|refine uB5 ?_|refine uBE ?_|refine uD3 ?_))))) rfl ?_;refine uAa rfl rfl rfl (uAc rfl gU) ?_;refine uAa rfl rfl rfl (uAs rfl gU rfl) ?_;refine uAa rfl rfl rfl (uAs rfl gU rfl) ?_;refine uAa rfl rfl rfl (uAg rfl gU rfl rfl) ?_;refine uAq rfl (uAy rfl rfl rfl rfl rfl rfl rfl) ?_;refine uAq rfl (uAy rfl rfl rfl rfl rfl rfl rfl) ?_;refine uAf ?_;refine uAk (s:=⟨[(3,_,_),(4,_,_),(6,_,_),(7,_,_),(8,_,_)],[(.l 3,_),(.l 4,_),(.l 6,_),(.l 7,_),(.l 8,_),(.o 0,_)],[(.b (.l 3) 1,_),(.b (.l 3) 2,_),(.b (.l 3) 3,_),(.b (.l 3) 4,_),(.b (.l 3) 5,_)],[]⟩) (uAi (⟨sx rfl,sx rfl,sx rfl,sx rfl,sx rfl,trivial⟩) (⟨sx rfl,sx rfl,sx rfl,sx rfl,sx rfl,sx rfl,trivial⟩) (⟨rfl,rfl,rfl,rfl,rfl,trivial⟩)) ?_;refine uAd ?_;refine uAd (uAb ?_);refine uAa rfl rfl rfl (uAl rfl gU rfl rfl rfl rfl rfl) ?_;refine uAu rfl rfl rfl rfl rfl rfl gU gU (up (uCB ⟨(chR l uBC p).1,(uAx l [] (chR l uBC p).2).1,[],[],line⟩)) rfl ?_;refine uAf ?_;refine uAn rfl (fun hc=>?_) (fun hc=>?_)
 ·have h : uBo (chR l uBC p).1=true:=hc
  have hg : uDE l line p=(⟨(chR l uBC p).1,(uAx l [] (chR l uBC p).2).1,(uAx l [] (uAx l [] (chR l uBC p).2).2).1,(uA6 l (uA1 l (l.length + 1)) (uAQ l [58] (uAx l [] (uAx l [] (chR l uBC p).2).2).2)).1,line⟩,(uA6 l (uA1 l (l.length + 1)) (uAQ l [58] (uAx l [] (uAx l [] (chR l uBC p).2).2).2)).2):=by
   simp only [uDE,h,if_true]
  rw[hg]
  refine uAb ?_;refine uAa rfl rfl rfl (uAl rfl gU rfl rfl rfl rfl rfl) ?_;refine uAu rfl rfl rfl rfl rfl rfl gU gU (up (uBz l _ (by omega) (le3 hl (by repeat(first|exact hp|refine uB5 ?_|refine uBE ?_|refine uD3 ?_))))) rfl ?_;refine uAa rfl rfl rfl (uAc rfl gU) ?_;refine uAa rfl rfl rfl (uAs rfl gU rfl) ?_;refine uAa rfl rfl rfl (uAs rfl gU rfl) ?_;refine uAa rfl rfl rfl (uAg rfl gU rfl rfl) ?_;refine uAq rfl (uAy rfl rfl rfl rfl rfl rfl rfl) ?_;refine uAq rfl (uAy rfl rfl rfl rfl rfl rfl rfl) ?_;refine uAf ?_;refine uAk (s:=⟨[(3,_,_),(4,_,_),(6,_,_),(7,_,_),(8,_,_)],[(.l 3,_),(.l 4,_),(.l 6,_),(.l 7,_),(.l 8,_),(.o 0,_)],[(.b (.l 3) 1,_),(.b (.l 3) 2,_),(.b (.l 3) 3,_),(.b (.l 3) 4,_),(.b (.l 3) 5,_)],[]⟩) (uAi (⟨sx rfl,sx rfl,sx rfl,sx rfl,sx rfl,trivial⟩) (⟨sx rfl,sx rfl,sx rfl,sx rfl,sx rfl,sx rfl,trivial⟩) (⟨rfl,rfl,rfl,rfl,rfl,trivial⟩)) ?_;refine uAd (uAb ?_);refine uAa rfl rfl rfl (uAl rfl gU rfl rfl rfl rfl rfl) ?_;refine uAu rfl rfl rfl rfl rfl rfl gU gU (up (uAY l _ _ (by omega) (le3 hl (by repeat(first|exact hp|refine uB5 ?_|refine uBE ?_|refine uD3 ?_))))) rfl ?_;refine uAu rfl rfl rfl rfl rfl rfl gU gU (up (uEC l (l.length + 1) hl (fun q h1 h2=>uDL l hl _ q h1 h2) (uC2 l _) _ (by repeat(first|exact hp|refine uB5 ?_|refine uBE ?_|refine uD3 ?_)) (by omega))) rfl ?_
  refine uAa rfl rfl rfl (uAc rfl gU) ?_;refine uAa rfl rfl rfl (uAs rfl gU rfl) ?_;refine uAa rfl rfl rfl (uAs rfl gU rfl) ?_;refine uAa rfl rfl rfl (uAg rfl gU rfl rfl) ?_;refine uAq rfl (uAy rfl rfl rfl rfl rfl rfl rfl) ?_;refine uAq rfl (uAy rfl rfl rfl rfl rfl rfl rfl) ?_;refine uAf ?_;refine uAk (s:=⟨[(3,_,_),(4,_,_),(6,_,_),(7,_,_),(8,_,_)],[(.l 3,_),(.l 4,_),(.l 6,_),(.l 7,_),(.l 8,_),(.o 0,_)],[(.b (.l 3) 1,_),(.b (.l 3) 2,_),(.b (.l 3) 3,_),(.b (.l 3) 4,_),(.b (.l 3) 5,_)],[]⟩) (uAi (⟨sx rfl,sx rfl,sx rfl,sx rfl,sx rfl,trivial⟩) (⟨sx rfl,sx rfl,sx rfl,sx rfl,sx rfl,sx rfl,trivial⟩) (⟨rfl,rfl,rfl,rfl,rfl,trivial⟩)) ?_;refine uAd (uAb ?_);refine uAa rfl rfl rfl (uAg rfl gU rfl rfl) ?_;refine uAq rfl (uBw rfl rfl rfl rfl rfl rfl rfl) ?_;refine uAa rfl rfl rfl (uAl rfl gU rfl rfl rfl rfl rfl) ?_;refine uAN (xs:=[_]) rfl rfl rfl rfl rfl rfl rfl rfl rfl gU rfl ?_;refine uAq rfl (uAX rfl rfl rfl rfl rfl rfl rfl (by first|omega|(simp only [List.length_append,List.length_singleton,Gl.rows_len]; omega)) (by first|omega|(simp only [List.length_append,List.length_singleton,Gl.rows_len]; omega))) ?_;refine uAa rfl rfl rfl (uAg rfl gU rfl rfl) ?_;refine uAq rfl (uBv rfl rfl rfl rfl rfl rfl rfl) ?_
  refine uAf ?_;refine uAk (s:=⟨[(3,_,_),(4,_,_),(6,_,_),(7,_,_)],[(.l 3,_),(.l 4,_),(.l 6,_),(.l 7,_),(.o 0,_)],[(.b (.l 3) 1,_),(.b (.l 3) 2,_),(.b (.l 3) 3,_),(.b (.l 3) 4,_),(.b (.l 3) 5,_)],[]⟩) (uAi (⟨sx rfl,sx rfl,sx rfl,sx rfl,trivial⟩) (⟨sx rfl,sx rfl,sx rfl,sx rfl,sx rfl,trivial⟩) (⟨rfl,rfl,rfl,rfl,rfl,trivial⟩)) ?_;refine uAk (s:=⟨[(3,_,_),(4,_,_),(6,_,_),(7,_,_)],[(.l 3,_),(.l 4,_),(.l 6,_),(.l 7,_),(.o 0,_)],[(.b (.l 3) 1,_),(.b (.l 3) 2,_),(.b (.l 3) 3,_),(.b (.l 3) 4,_),(.b (.l 3) 5,_)],[]⟩) (uAi (⟨sx rfl,sx rfl,sx rfl,sx rfl,trivial⟩) (⟨sx rfl,sx rfl,sx rfl,sx rfl,sx rfl,trivial⟩) (⟨rfl,rfl,rfl,rfl,rfl,trivial⟩)) ?_;refine uBe (.l 3) rfl (fun w1 w2 w3 w4 w5=>?_);refine uAk (s:=⟨[(3,_,_),(4,_,_),(6,_,_),(7,_,_)],[(.l 3,_),(.l 4,_),(.l 6,_),(.l 7,_),(.o 0,_)],[(.b (.l 3) 1,_),(.b (.l 3) 2,_),(.b (.l 3) 3,_),(.b (.l 3) 4,_),(.b (.l 3) 5,_)],[]⟩) (uAi (⟨sx rfl,sx rfl,sx rfl,sx rfl,trivial⟩) (⟨sx rfl,sx rfl,sx rfl,sx rfl,sx rfl,trivial⟩) (⟨rfl,rfl,rfl,rfl,rfl,trivial⟩)) ?_;refine uAd ?_;refine awp_drawn' (by kernel_rfl) ?_;refine uAF rfl rfl rfl rfl rfl rfl rfl gU rfl rfl rfl rfl rfl ?_;refine uAF rfl rfl rfl rfl rfl rfl rfl gU rfl rfl rfl rfl rfl ?_
  refine uAR rfl rfl rfl rfl rfl rfl rfl rfl rfl rfl rfl rfl ?_;refine uAR rfl rfl rfl rfl rfl rfl rfl rfl rfl rfl rfl rfl ?_;refine uA5 (by kernel_rfl) ?_;refine uAk (s:=⟨[(3,_,_),(6,_,_),(7,_,_)],[(.l 3,_),(.l 6,_),(.l 7,_),(.o 0,_)],[(.b (.l 3) 1,_),(.b (.l 3) 2,_),(.b (.l 3) 3,_),(.b (.l 3) 4,_),(.b (.l 3) 5,_)],[]⟩) (uAi (⟨sx rfl,sx rfl,sx rfl,trivial⟩) (⟨sx rfl,sx rfl,sx rfl,sx rfl,trivial⟩) (⟨(ak rfl (ak rfl (ak rfl (ak rfl (rfl))))),(ak rfl (ak rfl (ak rfl (ak rfl (rfl))))),(ak rfl (ak rfl (ak rfl (ak rfl (rfl))))),(ak rfl (ak rfl (ak rfl (ak rfl (rfl))))),(ak rfl (ak rfl (ak rfl (ak rfl (rfl))))),trivial⟩)) ?_;refine uBi (.l 6) (.l 3) rfl rfl rfl rfl rfl ?_;refine uAk (s:=⟨[(3,_,_),(6,_,_),(7,_,_)],[(.l 3,_),(.l 6,_),(.l 7,_),(.o 0,_)],[(.b (.l 6) 1,_),(.b (.l 6) 2,_),(.b (.l 6) 3,_),(.b (.l 6) 4,_),(.b (.l 6) 5,_)],[]⟩) (uAi (⟨sx rfl,sx rfl,sx rfl,trivial⟩) (⟨sx rfl,sx rfl,sx rfl,sx rfl,trivial⟩) (⟨rfl,rfl,rfl,rfl,rfl,trivial⟩)) ?_;refine uAp ?_
  repeat(first|refine tR ?_|refine bR ?_)
  refine uBq rfl ?_ ⟨⟨_,rfl,rfl⟩,trivial⟩ (by simp) rfl rfl rfl rfl rfl rfl;exact congrArg (fun z=>X.tup [.agg (narC n.name (strR n.roles) (Fs.rows n.fresh) (strR n.tags) (Sp.rows n.steps) z), .agg (pbx l (uA6 l (uA1 l (l.length + 1)) (uAQ l [58] (uAx l [] (uAx l [] (chR l uBC p).2).2).2)).2)]) (Gl.rows_app n.goals [⟨(chR l uBC p).1,(uAx l [] (chR l uBC p).2).1,(uAx l [] (uAx l [] (chR l uBC p).2).2).1,(uA6 l (uA1 l (l.length + 1)) (uAQ l [58] (uAx l [] (uAx l [] (chR l uBC p).2).2).2)).1,line⟩]).symm
 ·have h : uBo (chR l uBC p).1=false:=hc
  have hg : uDE l line p=(⟨(chR l uBC p).1,(uAx l [] (chR l uBC p).2).1,[],(uA6 l (uA1 l (l.length + 1)) (uAQ l [58] (uAx l [] (chR l uBC p).2).2)).1,line⟩,(uA6 l (uA1 l (l.length + 1)) (uAQ l [58] (uAx l [] (chR l uBC p).2).2)).2):=by
   simp only [uDE,h,Bool.false_eq_true,if_false]
  rw[hg]
  refine uAo ?_;refine uAd (uAb ?_);refine uAa rfl rfl rfl (uAl rfl gU rfl rfl rfl rfl rfl) ?_;refine uAu rfl rfl rfl rfl rfl rfl gU gU (up (uAY l _ _ (by omega) (le3 hl (by repeat(first|exact hp|refine uB5 ?_|refine uBE ?_|refine uD3 ?_))))) rfl ?_;refine uAu rfl rfl rfl rfl rfl rfl gU gU (up (uEC l (l.length + 1) hl (fun q h1 h2=>uDL l hl _ q h1 h2) (uC2 l _) _ (by repeat(first|exact hp|refine uB5 ?_|refine uBE ?_|refine uD3 ?_)) (by omega))) rfl ?_;refine uAa rfl rfl rfl (uAc rfl gU) ?_;refine uAa rfl rfl rfl (uAs rfl gU rfl) ?_;refine uAa rfl rfl rfl (uAs rfl gU rfl) ?_;refine uAa rfl rfl rfl (uAg rfl gU rfl rfl) ?_;refine uAq rfl (uAy rfl rfl rfl rfl rfl rfl rfl) ?_;refine uAq rfl (uAy rfl rfl rfl rfl rfl rfl rfl) ?_;refine uAf ?_;refine uAk (s:=⟨[(3,_,_),(4,_,_),(6,_,_),(7,_,_),(8,_,_)],[(.l 3,_),(.l 4,_),(.l 6,_),(.l 7,_),(.l 8,_),(.o 0,_)],[(.b (.l 3) 1,_),(.b (.l 3) 2,_),(.b (.l 3) 3,_),(.b (.l 3) 4,_),(.b (.l 3) 5,_)],[]⟩) (uAi (⟨sx rfl,sx rfl,sx rfl,sx rfl,sx rfl,trivial⟩) (⟨sx rfl,sx rfl,sx rfl,sx rfl,sx rfl,sx rfl,trivial⟩) (⟨rfl,rfl,rfl,rfl,rfl,trivial⟩)) ?_;refine uAd (uAb ?_);refine uAa rfl rfl rfl (uAg rfl gU rfl rfl) ?_;refine uAq rfl (uBw rfl rfl rfl rfl rfl rfl rfl) ?_
  refine uAa rfl rfl rfl (uAl rfl gU rfl rfl rfl rfl rfl) ?_;refine uAN (xs:=[_]) rfl rfl rfl rfl rfl rfl rfl rfl rfl gU rfl ?_;refine uAq rfl (uAX rfl rfl rfl rfl rfl rfl rfl (by first|omega|(simp only [List.length_append,List.length_singleton,Gl.rows_len]; omega)) (by first|omega|(simp only [List.length_append,List.length_singleton,Gl.rows_len]; omega))) ?_;refine uAa rfl rfl rfl (uAg rfl gU rfl rfl) ?_;refine uAq rfl (uBv rfl rfl rfl rfl rfl rfl rfl) ?_;refine uAf ?_;refine uAk (s:=⟨[(3,_,_),(4,_,_),(6,_,_),(7,_,_)],[(.l 3,_),(.l 4,_),(.l 6,_),(.l 7,_),(.o 0,_)],[(.b (.l 3) 1,_),(.b (.l 3) 2,_),(.b (.l 3) 3,_),(.b (.l 3) 4,_),(.b (.l 3) 5,_)],[]⟩) (uAi (⟨sx rfl,sx rfl,sx rfl,sx rfl,trivial⟩) (⟨sx rfl,sx rfl,sx rfl,sx rfl,sx rfl,trivial⟩) (⟨rfl,rfl,rfl,rfl,rfl,trivial⟩)) ?_;refine uAk (s:=⟨[(3,_,_),(4,_,_),(6,_,_),(7,_,_)],[(.l 3,_),(.l 4,_),(.l 6,_),(.l 7,_),(.o 0,_)],[(.b (.l 3) 1,_),(.b (.l 3) 2,_),(.b (.l 3) 3,_),(.b (.l 3) 4,_),(.b (.l 3) 5,_)],[]⟩) (uAi (⟨sx rfl,sx rfl,sx rfl,sx rfl,trivial⟩) (⟨sx rfl,sx rfl,sx rfl,sx rfl,sx rfl,trivial⟩) (⟨rfl,rfl,rfl,rfl,rfl,trivial⟩)) ?_;refine uBe (.l 3) rfl (fun w1 w2 w3 w4 w5=>?_);refine uAk (s:=⟨[(3,_,_),(4,_,_),(6,_,_),(7,_,_)],[(.l 3,_),(.l 4,_),(.l 6,_),(.l 7,_),(.o 0,_)],[(.b (.l 3) 1,_),(.b (.l 3) 2,_),(.b (.l 3) 3,_),(.b (.l 3) 4,_),(.b (.l 3) 5,_)],[]⟩) (uAi (⟨sx rfl,sx rfl,sx rfl,sx rfl,trivial⟩) (⟨sx rfl,sx rfl,sx rfl,sx rfl,sx rfl,trivial⟩) (⟨rfl,rfl,rfl,rfl,rfl,trivial⟩)) ?_
  refine uAd ?_;refine awp_drawn' (by kernel_rfl) ?_;refine uAF rfl rfl rfl rfl rfl rfl rfl gU rfl rfl rfl rfl rfl ?_;refine uAF rfl rfl rfl rfl rfl rfl rfl gU rfl rfl rfl rfl rfl ?_;refine uAR rfl rfl rfl rfl rfl rfl rfl rfl rfl rfl rfl rfl ?_;refine uAR rfl rfl rfl rfl rfl rfl rfl rfl rfl rfl rfl rfl ?_;refine uA5 (by kernel_rfl) ?_;refine uAk (s:=⟨[(3,_,_),(6,_,_),(7,_,_)],[(.l 3,_),(.l 6,_),(.l 7,_),(.o 0,_)],[(.b (.l 3) 1,_),(.b (.l 3) 2,_),(.b (.l 3) 3,_),(.b (.l 3) 4,_),(.b (.l 3) 5,_)],[]⟩) (uAi (⟨sx rfl,sx rfl,sx rfl,trivial⟩) (⟨sx rfl,sx rfl,sx rfl,sx rfl,trivial⟩) (⟨(ak rfl (ak rfl (ak rfl (ak rfl (rfl))))),(ak rfl (ak rfl (ak rfl (ak rfl (rfl))))),(ak rfl (ak rfl (ak rfl (ak rfl (rfl))))),(ak rfl (ak rfl (ak rfl (ak rfl (rfl))))),(ak rfl (ak rfl (ak rfl (ak rfl (rfl))))),trivial⟩)) ?_;refine uBi (.l 6) (.l 3) rfl rfl rfl rfl rfl ?_;refine uAk (s:=⟨[(3,_,_),(6,_,_),(7,_,_)],[(.l 3,_),(.l 6,_),(.l 7,_),(.o 0,_)],[(.b (.l 6) 1,_),(.b (.l 6) 2,_),(.b (.l 6) 3,_),(.b (.l 6) 4,_),(.b (.l 6) 5,_)],[]⟩) (uAi (⟨sx rfl,sx rfl,sx rfl,trivial⟩) (⟨sx rfl,sx rfl,sx rfl,sx rfl,trivial⟩) (⟨rfl,rfl,rfl,rfl,rfl,trivial⟩)) ?_;refine uAp ?_
  repeat(first|refine tR ?_|refine bR ?_)
  refine uBq rfl ?_ ⟨⟨_,rfl,rfl⟩,trivial⟩ (by simp) rfl rfl rfl rfl rfl rfl;exact congrArg (fun z=>X.tup [.agg (narC n.name (strR n.roles) (Fs.rows n.fresh) (strR n.tags) (Sp.rows n.steps) z), .agg (pbx l (uA6 l (uA1 l (l.length + 1)) (uAQ l [58] (uAx l [] (chR l uBC p).2).2)).2)]) (Gl.rows_app n.goals [⟨(chR l uBC p).1,(uAx l [] (chR l uBC p).2).1,[],(uA6 l (uA1 l (l.length + 1)) (uAQ l [58] (uAx l [] (chR l uBC p).2).2)).1,line⟩]).symm
theorem uMF {l : List Tk} {p : PS} (h : (chR l uBm p).2.bad=false) : (chR l uBm p).2.at'=p.at' + 1:=by
 rw[(uL1 l p).1] at h ⊢
 have hq:=uFU h
 rw[uAx,if_pos hq]; rfl
abbrev frC (n : Nar) (o : List Fs) : List C:=narC n.name (strR n.roles) (Fs.rows o) (strR n.tags) (Sp.rows n.steps) (Gl.rows n.goals)
set_option maxHeartbeats 8000000 in
theorem uEr (l : List Tk) (p : PS) (n : Nar) (u1 u2 u3 u4 u5 : Value) (hl : l.length≤2000000) (hp : p.at'≤l.length) (hn : n.fresh.length≤3000000) :
  CtrO sysO 133 [.v (.agg (soC n u1 u2 u3 u4 u5)),xr l p] [soC n u1 u2 u3 u4 u5] osR (xnr l ({ n with fresh:=(frRd l p n.fresh).1 },(frRd l p n.fresh).2)) [soC n u1 u2 u3 u4 u5] .res:=by
 have hrl:=Tk.rows_len l
 have a3 : (uAQ l [58] (uAx l [] p).2).at'≤l.length:=uB5 (uBE hp)
 obtain ⟨role,hrole⟩ : ∃ r,(uAx l [] p).1=r:=⟨_,rfl⟩
 refine uBH Tryz.func133 rfl rfl rfl rfl rfl rfl rfl ?_;refine uAd (uAb ?_);refine uAq rfl (uAK rfl rfl rfl rfl) ?_;refine uAq rfl (uAK rfl rfl rfl rfl) ?_;refine uAq rfl (uAG rfl rfl rfl) ?_;refine uAq rfl (uAG rfl rfl rfl) ?_;refine uAf ?_;refine uAk (s:=⟨[(2,_,_),(3,_,_),(4,_,_),(5,_,_)],[(.l 2,_),(.l 3,_),(.l 4,_),(.l 5,_),(.o 0,_)],[(.b (.o 0) 1,_),(.b (.o 0) 2,_),(.b (.o 0) 3,_),(.b (.o 0) 4,_),(.b (.o 0) 5,_)],[]⟩) (uAi (⟨sx rfl,sx rfl,sx rfl,sx rfl,trivial⟩) (⟨sx rfl,sx rfl,sx rfl,sx rfl,sx rfl,trivial⟩) (⟨rfl,rfl,rfl,rfl,rfl,trivial⟩)) ?_;refine uBi (.l 2) (.o 0) rfl rfl rfl rfl rfl ?_;refine uAk (s:=⟨[(2,_,_),(3,_,_),(4,_,_),(5,_,_)],[(.l 2,_),(.l 3,_),(.l 4,_),(.l 5,_),(.o 0,_)],[(.b (.l 2) 1,_),(.b (.l 2) 2,_),(.b (.l 2) 3,_),(.b (.l 2) 4,_),(.b (.l 2) 5,_)],[]⟩) (uAi (⟨sx rfl,sx rfl,sx rfl,sx rfl,trivial⟩) (⟨sx rfl,sx rfl,sx rfl,sx rfl,sx rfl,trivial⟩) (⟨rfl,rfl,rfl,rfl,rfl,trivial⟩)) ?_;refine uAd (uAb ?_);refine uAa rfl rfl rfl (uAl rfl gU rfl rfl rfl rfl rfl) ?_;refine uAu rfl rfl rfl rfl rfl rfl gU gU (up (uBz l p (by omega) (le3 hl hp))) rfl ?_;refine uAa rfl rfl rfl (uAc rfl gU) ?_;refine uAa rfl rfl rfl (uAs rfl gU rfl) ?_
 refine uAa rfl rfl rfl (uAs rfl gU rfl) ?_;refine uAa rfl rfl rfl (uAe rfl gU) ?_;refine uAq rfl (uAy rfl rfl rfl rfl rfl rfl rfl) ?_;refine uAf ?_;refine uAk (s:=⟨[(2,_,_),(3,_,_),(4,_,_),(5,_,_),(6,_,_)],[(.l 2,_),(.l 3,_),(.l 4,_),(.l 5,_),(.o 0,_)],[(.b (.l 2) 1,_),(.b (.l 2) 2,_),(.b (.l 2) 3,_),(.b (.l 2) 4,_),(.b (.l 2) 5,_)],[]⟩) (uAi (⟨sx rfl,sx rfl,sx rfl,sx rfl,sx rfl,trivial⟩) (⟨sx rfl,sx rfl,sx rfl,sx rfl,sx rfl,trivial⟩) (⟨rfl,rfl,rfl,rfl,rfl,trivial⟩)) ?_;refine uAd (uAb ?_);refine uAa rfl rfl rfl (uAl rfl gU rfl rfl rfl rfl rfl) ?_;refine uAu rfl rfl rfl rfl rfl rfl gU gU (up (uAY l (uAx l [] p).2 _ (by omega) (le3 hl (uBE hp)))) rfl ?_;refine uAq rfl (uAy rfl rfl rfl rfl rfl rfl rfl) ?_;refine uAf ?_;refine uAd ?_;refine uAd (uAb ?_);refine uAa rfl rfl rfl (uAe rfl gU) ?_;refine uAf ?_;refine uAr ?_
 rw[hrole]
 refine uAW (ι:=PS × Bool × List Fs) { t:=[(2,_,_),(3,_,_),(4,_,_),(5,_,_),(6,_,_)],bx:=[(.l 4,_),(.l 5,_),(.o 0,_)],ow:=[(.b (.l 2) 1,_),(.b (.l 2) 2,_),(.b (.l 2) 3,_),(.b (.l 2) 4,_),(.b (.l 2) 5,_)] } (fun q=>[(7,true,xb q.2.1)]) (fun q=>[((.l 3),pbx l q.1),((.l 2),frC n q.2.2)]) (fun q=>q.1.at'≤l.length∧q.2.2.length≤n.fresh.length + q.1.at' + (if q.2.1=true then 0 else 1) ∧ ∃ k,l.length + 1≤k + q.1.at'∧(if q.2.1=true then frRA l role k q.1 q.2.2 else if symQ l q.1 [44]=true then frRA l role k q.1.go q.2.2 else (q.2.2,q.1))=frRd l p n.fresh) (fun q=>(if q.2.1=true then 1 else 0) + (l.length - q.1.at')) ((uAQ l [58] (uAx l [] p).2,true,n.fresh)) (⟨a3,by simp,l.length + 1,by dsimp only; omega,by dsimp only; rw[if_pos rfl,← hrole]; rfl⟩) (uAi (⟨sx rfl,sx rfl,sx rfl,sx rfl,sx rfl,sx rfl,trivial⟩) (⟨sx rfl,sx rfl,sx rfl,sx rfl,sx rfl,trivial⟩) (⟨rfl,rfl,rfl,rfl,rfl,trivial⟩)) ?_
 intro q hok
 dsimp only [List.cons_append,List.nil_append] at *
 obtain ⟨q,first,out⟩:=q
 dsimp only at hok ⊢
 obtain ⟨hq,ho,k,hk,hi⟩:=hok
 have hro:=Fs.rows_len out
 cases first
 ·rw[if_neg (by simp)] at hi
  simp only [Bool.false_eq_true,if_false] at ho
  refine uAd ?_;refine uAd (uAb ?_);refine uAa rfl rfl rfl (uAc rfl gU) ?_;refine uAa rfl rfl rfl (uAc rfl gU) ?_;refine uAa rfl rfl rfl (uAl rfl gU rfl rfl rfl rfl rfl) ?_;refine uAu rfl rfl rfl rfl rfl rfl gU (fun hh=>gA ((fun hh=>hh) hh) (gA rfl (rfl))) (up (uCr l q _ (by omega) (le3 hl hq))) rfl ?_;refine uAa rfl rfl rfl (uAL rfl rfl gU (fun _ hi=>gP rfl hi)) ?_;refine uAf ?_;refine uAk (s:=⟨[(2,_,_),(3,_,_),(4,_,_),(5,_,_),(6,_,_),(7,_,_),(20,_,_)],[(.l 2,_),(.l 3,_),(.l 4,_),(.l 5,_),(.o 0,_)],[(.b (.l 2) 1,_),(.b (.l 2) 2,_),(.b (.l 2) 3,_),(.b (.l 2) 4,_),(.b (.l 2) 5,_)],[]⟩) (uAi (⟨sx rfl,sx rfl,sx rfl,sx rfl,sx rfl,sx rfl,sx rfl,trivial⟩) (⟨sx rfl,sx rfl,sx rfl,sx rfl,sx rfl,trivial⟩) (⟨rfl,rfl,rfl,rfl,rfl,trivial⟩)) ?_;refine uAn rfl (fun hc1=>?_) (fun hc1=>?_)
  ·try simp only [nn,uAj,T.rows_len,Tk.rows_len] at hc1
   have hc1:=hc1.resolve_left (by simp)
   have hlt:=(uCd hc1).1
   have hs : uAQ l [44] q=q.go:=by rw[uAQ,if_pos hc1]
   have hg : q.go.at'=q.at' + 1:=rfl
   have hq2 : q.go.at'≤l.length:=by omega
   rw[if_pos hc1] at hi
   obtain ⟨k,rfl⟩ : ∃ j,k=j + 1:=⟨k - 1,by omega⟩
   have hsy:=uAY l q [44] (by omega) (le3 hl hq)
   rw[hs] at hsy
   refine uAo ?_;refine uAd ?_;refine uAr ?_;refine uAd ?_;refine uAd (uAb ?_);refine uAa rfl rfl rfl (uAc rfl gU) ?_;refine uAa rfl rfl rfl (uA0 rfl gU) ?_;refine uAf ?_;refine uAn rfl (fun hc2=>?_) (fun hc2=>?_)
   ·refine uAb ?_
    refine uAa rfl rfl rfl (uAl rfl gU rfl rfl rfl rfl rfl) ?_;refine uAu rfl rfl rfl rfl rfl rfl gU gU (up hsy) rfl ?_;refine uAq rfl (uAy rfl rfl rfl rfl rfl rfl rfl) ?_;refine uAf ?_;refine uAd (uAb ?_);refine uAa rfl rfl rfl (uAc rfl gU) ?_;refine uAa rfl rfl rfl (uAS rfl Tryz.underlying79 rfl gU) ?_;refine uAq rfl (uAG rfl rfl rfl) ?_;refine uAq rfl (uAy rfl rfl rfl rfl rfl rfl rfl) ?_;refine uAf ?_;refine uAk (s:=⟨[(2,_,_),(3,_,_),(4,_,_),(5,_,_),(6,_,_),(8,_,_)],[(.l 2,_),(.l 3,_),(.l 4,_),(.l 5,_),(.l 8,_),(.o 0,_)],[(.b (.l 2) 1,_),(.b (.l 2) 2,_),(.b (.l 2) 3,_),(.b (.l 2) 4,_),(.b (.l 2) 5,_)],[]⟩) (uAi (⟨sx rfl,sx rfl,sx rfl,sx rfl,sx rfl,sx rfl,trivial⟩) (⟨sx rfl,sx rfl,sx rfl,sx rfl,sx rfl,sx rfl,trivial⟩) (⟨rfl,rfl,rfl,rfl,rfl,trivial⟩)) ?_;refine uAd (uAb ?_)
    have b1:=(uA4 l [] q.go).1
    have b2:=(uJa l uBm (uAx l [] q.go).2).1
    have b3 : (chR l uBm (uAx l [] q.go).2).2.at'≤l.length:=uD3 (uBE hq2)
    refine uAa rfl rfl rfl (uAl rfl gU rfl rfl rfl rfl rfl) ?_;refine uAu rfl rfl rfl rfl rfl rfl gU gU (up (uBz l q.go (by omega) (le3 hl hq2))) rfl ?_;refine uAa rfl rfl rfl (uAc rfl gU) ?_;refine uAa rfl rfl rfl (uAs rfl gU rfl) ?_;refine uAa rfl rfl rfl (uAs rfl gU rfl) ?_;refine uAa rfl rfl rfl (uAg rfl gU rfl rfl) ?_;refine uAq rfl (uAy rfl rfl rfl rfl rfl rfl rfl) ?_;refine uAq rfl (uAy rfl rfl rfl rfl rfl rfl rfl) ?_;refine uAf ?_;refine uAk (s:=⟨[(2,_,_),(3,_,_),(4,_,_),(5,_,_),(6,_,_),(8,_,_)],[(.l 2,_),(.l 3,_),(.l 4,_),(.l 5,_),(.l 8,_),(.o 0,_)],[(.b (.l 2) 1,_),(.b (.l 2) 2,_),(.b (.l 2) 3,_),(.b (.l 2) 4,_),(.b (.l 2) 5,_)],[]⟩) (uAi (⟨sx rfl,sx rfl,sx rfl,sx rfl,sx rfl,sx rfl,trivial⟩) (⟨sx rfl,sx rfl,sx rfl,sx rfl,sx rfl,sx rfl,trivial⟩) (⟨rfl,rfl,rfl,rfl,rfl,trivial⟩)) ?_;refine uAd ?_;refine awp_drawn' (by kernel_rfl) ?_;refine uAF rfl rfl rfl rfl rfl rfl rfl gU rfl rfl rfl rfl rfl ?_;refine uAZ rfl rfl rfl rfl rfl rfl rfl gU gU (up uF8) rfl ?_;refine uAZ rfl rfl rfl rfl rfl rfl rfl gU gU (up (uC6 l (uAx l [] q.go).2 uBm (by omega) (le3 hl (uBE hq2)))) rfl ?_;refine uAw rfl rfl rfl rfl (uAc rfl gU) ?_;refine uAw rfl rfl rfl rfl (uAs rfl gU rfl) ?_;refine uAw rfl rfl rfl rfl (uAs rfl gU rfl) ?_
    refine uAw rfl rfl rfl rfl (uAg rfl gU rfl rfl) ?_;refine uAR rfl rfl rfl rfl rfl rfl rfl rfl rfl rfl rfl rfl ?_;refine uAR rfl rfl rfl rfl rfl rfl rfl rfl rfl rfl rfl rfl ?_;refine uA5 (by kernel_rfl) ?_;refine uAk (s:=⟨[(2,_,_),(3,_,_),(4,_,_),(5,_,_),(6,_,_),(8,_,_)],[(.l 2,_),(.l 3,_),(.l 4,_),(.l 5,_),(.l 8,_),(.o 0,_)],[(.b (.l 2) 1,_),(.b (.l 2) 2,_),(.b (.l 2) 3,_),(.b (.l 2) 4,_),(.b (.l 2) 5,_)],[]⟩) (uAi (⟨sx rfl,sx rfl,sx rfl,sx rfl,sx rfl,sx rfl,trivial⟩) (⟨sx rfl,sx rfl,sx rfl,sx rfl,sx rfl,sx rfl,trivial⟩) (⟨(ak rfl (ak rfl (ak rfl (ak rfl (ak rfl (ak rfl (ak rfl (ak rfl (ak rfl (rfl)))))))))),(ak rfl (ak rfl (ak rfl (ak rfl (ak rfl (ak rfl (ak rfl (ak rfl (ak rfl (rfl)))))))))),(ak rfl (ak rfl (ak rfl (ak rfl (ak rfl (ak rfl (ak rfl (ak rfl (ak rfl (rfl)))))))))),(ak rfl (ak rfl (ak rfl (ak rfl (ak rfl (ak rfl (ak rfl (ak rfl (ak rfl (rfl)))))))))),(ak rfl (ak rfl (ak rfl (ak rfl (ak rfl (ak rfl (ak rfl (ak rfl (ak rfl (rfl)))))))))),trivial⟩)) ?_;refine uAd (uAb ?_);refine uAa rfl rfl rfl (uAg rfl gU rfl rfl) ?_;refine uAq rfl (uBw rfl rfl rfl rfl rfl rfl rfl) ?_;refine uAa rfl rfl rfl (uAl rfl gU rfl rfl rfl rfl rfl) ?_;refine uAN (xs:=[_]) rfl rfl rfl rfl rfl rfl rfl rfl rfl gU rfl ?_;refine uAq rfl (uAX rfl rfl rfl rfl rfl rfl rfl (by first|omega|(simp only [List.length_append,List.length_singleton,Fs.rows_len]; omega)) (by first|omega|(simp only [List.length_append,List.length_singleton,Fs.rows_len]; omega))) ?_
    refine uAa rfl rfl rfl (uAg rfl gU rfl rfl) ?_;refine uAq rfl (uBv rfl rfl rfl rfl rfl rfl rfl) ?_;refine uAf ?_;refine uAk (s:=⟨[(2,_,_),(3,_,_),(4,_,_),(5,_,_),(6,_,_)],[(.l 2,_),(.l 3,_),(.l 4,_),(.l 5,_),(.o 0,_)],[(.b (.l 2) 1,_),(.b (.l 2) 2,_),(.b (.l 2) 3,_),(.b (.l 2) 4,_),(.b (.l 2) 5,_)],[]⟩) (uAi (⟨sx rfl,sx rfl,sx rfl,sx rfl,sx rfl,trivial⟩) (⟨sx rfl,sx rfl,sx rfl,sx rfl,sx rfl,trivial⟩) (⟨rfl,rfl,rfl,rfl,rfl,trivial⟩)) ?_;refine uAd (uAb ?_);refine uAa rfl rfl rfl (uAg rfl gU rfl rfl) ?_;refine uAa rfl rfl rfl (uAh rfl gU rfl rfl rfl rfl) ?_;refine uAf ?_;refine uAn rfl (fun hc3=>?_) (fun hc3=>?_)
    ·try simp only [nn,uAj,T.rows_len,Tk.rows_len] at hc3
     rw[frRA,if_pos hc3] at hi
     rw[← hi]
     refine uAk (s:=⟨[(2,_,_),(3,_,_),(4,_,_),(5,_,_)],[(.l 2,_),(.l 3,_),(.l 4,_),(.l 5,_),(.o 0,_)],[(.b (.l 2) 1,_),(.b (.l 2) 2,_),(.b (.l 2) 3,_),(.b (.l 2) 4,_),(.b (.l 2) 5,_)],[]⟩) (uAi (⟨sx rfl,sx rfl,sx rfl,sx rfl,trivial⟩) (⟨sx rfl,sx rfl,sx rfl,sx rfl,sx rfl,trivial⟩) (⟨rfl,rfl,rfl,rfl,rfl,trivial⟩)) ?_;refine uBe (.l 2) rfl (fun w1 w2 w3 w4 w5=>?_);refine uAk (s:=⟨[(2,_,_),(3,_,_),(4,_,_),(5,_,_)],[(.l 2,_),(.l 3,_),(.l 4,_),(.l 5,_),(.o 0,_)],[(.b (.l 2) 1,_),(.b (.l 2) 2,_),(.b (.l 2) 3,_),(.b (.l 2) 4,_),(.b (.l 2) 5,_)],[]⟩) (uAi (⟨sx rfl,sx rfl,sx rfl,sx rfl,trivial⟩) (⟨sx rfl,sx rfl,sx rfl,sx rfl,sx rfl,trivial⟩) (⟨rfl,rfl,rfl,rfl,rfl,trivial⟩)) ?_;refine uAd ?_;refine awp_drawn' (by kernel_rfl) ?_;refine uAF rfl rfl rfl rfl rfl rfl rfl gU rfl rfl rfl rfl rfl ?_;refine uAF rfl rfl rfl rfl rfl rfl rfl gU rfl rfl rfl rfl rfl ?_;refine uAR rfl rfl rfl rfl rfl rfl rfl rfl rfl rfl rfl rfl ?_;refine uAR rfl rfl rfl rfl rfl rfl rfl rfl rfl rfl rfl rfl ?_;refine uA5 (by kernel_rfl) ?_;refine uAk (s:=⟨[(2,_,_),(4,_,_),(5,_,_)],[(.l 2,_),(.l 4,_),(.l 5,_),(.o 0,_)],[(.b (.l 2) 1,_),(.b (.l 2) 2,_),(.b (.l 2) 3,_),(.b (.l 2) 4,_),(.b (.l 2) 5,_)],[]⟩) (uAi (⟨sx rfl,sx rfl,sx rfl,trivial⟩) (⟨sx rfl,sx rfl,sx rfl,sx rfl,trivial⟩) (⟨(ak rfl (ak rfl (ak rfl (ak rfl (rfl))))),(ak rfl (ak rfl (ak rfl (ak rfl (rfl))))),(ak rfl (ak rfl (ak rfl (ak rfl (rfl))))),(ak rfl (ak rfl (ak rfl (ak rfl (rfl))))),(ak rfl (ak rfl (ak rfl (ak rfl (rfl))))),trivial⟩)) ?_
     refine uBi (.l 4) (.l 2) rfl rfl rfl rfl rfl ?_;refine uAk (s:=⟨[(2,_,_),(4,_,_),(5,_,_)],[(.l 2,_),(.l 4,_),(.l 5,_),(.o 0,_)],[(.b (.l 4) 1,_),(.b (.l 4) 2,_),(.b (.l 4) 3,_),(.b (.l 4) 4,_),(.b (.l 4) 5,_)],[]⟩) (uAi (⟨sx rfl,sx rfl,sx rfl,trivial⟩) (⟨sx rfl,sx rfl,sx rfl,sx rfl,trivial⟩) (⟨rfl,rfl,rfl,rfl,rfl,trivial⟩)) ?_;refine uAp ?_
     repeat(first|refine tR ?_|refine bR ?_)
     refine uBq rfl ?_ ⟨⟨_,rfl,rfl⟩,trivial⟩ (by simp) rfl rfl rfl rfl rfl rfl;exact congrArg (fun z=>X.tup [.agg (narC n.name (strR n.roles) z (strR n.tags) (Sp.rows n.steps) (Gl.rows n.goals)), .agg (pbx l (chR l uBm (uAx l [] q.go).2).2)]) (Fs.rows_app out [⟨role,(uAx l [] q.go).1,(chR l uBm (uAx l [] q.go).2).1⟩]).symm
    ·try simp only [nn,uAj,T.rows_len,Tk.rows_len] at hc3
     rw[frRA,if_neg (by rw[hc3]; simp)] at hi
     have b4:=uMF hc3
     refine uAo ?_;refine uAb ?_;refine uAa rfl rfl rfl (uAe rfl gU) ?_;refine uAf ?_;refine ⟨((chR l uBm (uAx l [] q.go).2).2,false,out++[⟨role,(uAx l [] q.go).1,(chR l uBm (uAx l [] q.go).2).1⟩]),?_,?_,uAi (⟨⟨_,rfl,?_⟩,⟨sx rfl,sx rfl,sx rfl,sx rfl,sx rfl,trivial⟩⟩) (⟨⟨_,rfl,?_⟩,⟨⟨_,rfl,?_⟩,⟨sx rfl,sx rfl,sx rfl,trivial⟩⟩⟩) (⟨rfl,rfl,rfl,rfl,rfl,trivial⟩)⟩
     ·refine ⟨b3,by dsimp only; simp only [List.length_append,List.length_singleton,Bool.false_eq_true,if_false]; omega,k,by dsimp only; omega,?_⟩
      rw[if_neg (by simp)]; exact hi
     ·dsimp only
      simp only [Bool.false_eq_true,if_false,if_true]
      omega
     all_goals first|rfl|exact congrArg (fun z=>some (narC n.name (strR n.roles) z (strR n.tags) (Sp.rows n.steps) (Gl.rows n.goals))) (Fs.rows_app out [⟨role,(uAx l [] q.go).1,(chR l uBm (uAx l [] q.go).2).1⟩]).symm|exact congrArg (fun z=>narC n.name (strR n.roles) z (strR n.tags) (Sp.rows n.steps) (Gl.rows n.goals)) (Fs.rows_app out [⟨role,(uAx l [] q.go).1,(chR l uBm (uAx l [] q.go).2).1⟩]).symm
   ·exfalso
    simp at hc2
  ·try simp only [nn,uAj,T.rows_len,Tk.rows_len] at hc1
   have hc1:=hc1.2
   rw[if_neg (by rw[hc1]; simp)] at hi
   rw[← hi]
   refine uAJ ?_
   repeat(first|refine uAC ?_|refine uAD ?_|refine uAB rfl ?_)
   refine uAk (s:=⟨[(2,_,_),(3,_,_),(4,_,_),(5,_,_)],[(.l 2,_),(.l 3,_),(.l 4,_),(.l 5,_),(.o 0,_)],[(.b (.l 2) 1,_),(.b (.l 2) 2,_),(.b (.l 2) 3,_),(.b (.l 2) 4,_),(.b (.l 2) 5,_)],[]⟩) (uAi (⟨sx rfl,sx rfl,sx rfl,sx rfl,trivial⟩) (⟨sx rfl,sx rfl,sx rfl,sx rfl,sx rfl,trivial⟩) (⟨rfl,rfl,rfl,rfl,rfl,trivial⟩)) ?_;refine uBe (.l 2) rfl (fun w1 w2 w3 w4 w5=>?_);refine uAk (s:=⟨[(2,_,_),(3,_,_),(4,_,_),(5,_,_)],[(.l 2,_),(.l 3,_),(.l 4,_),(.l 5,_),(.o 0,_)],[(.b (.l 2) 1,_),(.b (.l 2) 2,_),(.b (.l 2) 3,_),(.b (.l 2) 4,_),(.b (.l 2) 5,_)],[]⟩) (uAi (⟨sx rfl,sx rfl,sx rfl,sx rfl,trivial⟩) (⟨sx rfl,sx rfl,sx rfl,sx rfl,sx rfl,trivial⟩) (⟨rfl,rfl,rfl,rfl,rfl,trivial⟩)) ?_;refine uAd ?_;refine awp_drawn' (by kernel_rfl) ?_;refine uAF rfl rfl rfl rfl rfl rfl rfl gU rfl rfl rfl rfl rfl ?_;refine uAF rfl rfl rfl rfl rfl rfl rfl gU rfl rfl rfl rfl rfl ?_;refine uAR rfl rfl rfl rfl rfl rfl rfl rfl rfl rfl rfl rfl ?_;refine uAR rfl rfl rfl rfl rfl rfl rfl rfl rfl rfl rfl rfl ?_;refine uA5 (by kernel_rfl) ?_;refine uAk (s:=⟨[(2,_,_),(4,_,_),(5,_,_)],[(.l 2,_),(.l 4,_),(.l 5,_),(.o 0,_)],[(.b (.l 2) 1,_),(.b (.l 2) 2,_),(.b (.l 2) 3,_),(.b (.l 2) 4,_),(.b (.l 2) 5,_)],[]⟩) (uAi (⟨sx rfl,sx rfl,sx rfl,trivial⟩) (⟨sx rfl,sx rfl,sx rfl,sx rfl,trivial⟩) (⟨(ak rfl (ak rfl (ak rfl (ak rfl (rfl))))),(ak rfl (ak rfl (ak rfl (ak rfl (rfl))))),(ak rfl (ak rfl (ak rfl (ak rfl (rfl))))),(ak rfl (ak rfl (ak rfl (ak rfl (rfl))))),(ak rfl (ak rfl (ak rfl (ak rfl (rfl))))),trivial⟩)) ?_
   refine uBi (.l 4) (.l 2) rfl rfl rfl rfl rfl ?_;refine uAk (s:=⟨[(2,_,_),(4,_,_),(5,_,_)],[(.l 2,_),(.l 4,_),(.l 5,_),(.o 0,_)],[(.b (.l 4) 1,_),(.b (.l 4) 2,_),(.b (.l 4) 3,_),(.b (.l 4) 4,_),(.b (.l 4) 5,_)],[]⟩) (uAi (⟨sx rfl,sx rfl,sx rfl,trivial⟩) (⟨sx rfl,sx rfl,sx rfl,sx rfl,trivial⟩) (⟨rfl,rfl,rfl,rfl,rfl,trivial⟩)) ?_;refine uAp ?_
   repeat(first|refine tR ?_|refine bR ?_)
   refine uBq rfl ?_ ⟨⟨_,rfl,rfl⟩,trivial⟩ (by simp) rfl rfl rfl rfl rfl rfl
   rfl
 ·rw[if_pos rfl] at hi
  simp only [if_true] at ho
  have hq2:=hq
  obtain ⟨k,rfl⟩ : ∃ j,k=j + 1:=⟨k - 1,by omega⟩
  refine uAd ?_;refine uAd (uAb ?_);refine uAa rfl rfl rfl (uAc rfl gU) ?_;refine uAa rfl rfl rfl (uAc rfl gU) ?_;refine uAa rfl rfl rfl (uAl rfl gU rfl rfl rfl rfl rfl) ?_;refine uAu rfl rfl rfl rfl rfl rfl gU (fun hh=>gA ((fun hh=>hh) hh) (gA rfl (rfl))) (up (uCr l q _ (by omega) (le3 hl hq))) rfl ?_;refine uAa rfl rfl rfl (uAL rfl rfl gU (fun _ hi=>gP rfl hi)) ?_;refine uAf ?_;refine uAk (s:=⟨[(2,_,_),(3,_,_),(4,_,_),(5,_,_),(6,_,_),(7,_,_),(20,_,_)],[(.l 2,_),(.l 3,_),(.l 4,_),(.l 5,_),(.o 0,_)],[(.b (.l 2) 1,_),(.b (.l 2) 2,_),(.b (.l 2) 3,_),(.b (.l 2) 4,_),(.b (.l 2) 5,_)],[]⟩) (uAi (⟨sx rfl,sx rfl,sx rfl,sx rfl,sx rfl,sx rfl,sx rfl,trivial⟩) (⟨sx rfl,sx rfl,sx rfl,sx rfl,sx rfl,trivial⟩) (⟨rfl,rfl,rfl,rfl,rfl,trivial⟩)) ?_;refine uAn rfl (fun hc1=>?_) (fun hc1=>?_)
  ·refine uAo ?_
   refine uAd ?_;refine uAr ?_;refine uAd ?_;refine uAd (uAb ?_);refine uAa rfl rfl rfl (uAc rfl gU) ?_;refine uAa rfl rfl rfl (uA0 rfl gU) ?_;refine uAf ?_;refine uAn rfl (fun hc2=>?_) (fun hc2=>?_)
   ·exfalso
    simp at hc2
   ·refine uAo ?_
    refine uAd (uAb ?_);refine uAa rfl rfl rfl (uAc rfl gU) ?_;refine uAa rfl rfl rfl (uAS rfl Tryz.underlying79 rfl gU) ?_;refine uAq rfl (uAG rfl rfl rfl) ?_;refine uAq rfl (uAy rfl rfl rfl rfl rfl rfl rfl) ?_;refine uAf ?_;refine uAk (s:=⟨[(2,_,_),(3,_,_),(4,_,_),(5,_,_),(6,_,_),(8,_,_)],[(.l 2,_),(.l 3,_),(.l 4,_),(.l 5,_),(.l 8,_),(.o 0,_)],[(.b (.l 2) 1,_),(.b (.l 2) 2,_),(.b (.l 2) 3,_),(.b (.l 2) 4,_),(.b (.l 2) 5,_)],[]⟩) (uAi (⟨sx rfl,sx rfl,sx rfl,sx rfl,sx rfl,sx rfl,trivial⟩) (⟨sx rfl,sx rfl,sx rfl,sx rfl,sx rfl,sx rfl,trivial⟩) (⟨rfl,rfl,rfl,rfl,rfl,trivial⟩)) ?_;refine uAd (uAb ?_)
    have b1:=(uA4 l [] q).1
    have b2:=(uJa l uBm (uAx l [] q).2).1
    have b3 : (chR l uBm (uAx l [] q).2).2.at'≤l.length:=uD3 (uBE hq2)
    refine uAa rfl rfl rfl (uAl rfl gU rfl rfl rfl rfl rfl) ?_;refine uAu rfl rfl rfl rfl rfl rfl gU gU (up (uBz l q (by omega) (le3 hl hq2))) rfl ?_;refine uAa rfl rfl rfl (uAc rfl gU) ?_;refine uAa rfl rfl rfl (uAs rfl gU rfl) ?_;refine uAa rfl rfl rfl (uAs rfl gU rfl) ?_;refine uAa rfl rfl rfl (uAg rfl gU rfl rfl) ?_;refine uAq rfl (uAy rfl rfl rfl rfl rfl rfl rfl) ?_;refine uAq rfl (uAy rfl rfl rfl rfl rfl rfl rfl) ?_;refine uAf ?_;refine uAk (s:=⟨[(2,_,_),(3,_,_),(4,_,_),(5,_,_),(6,_,_),(8,_,_)],[(.l 2,_),(.l 3,_),(.l 4,_),(.l 5,_),(.l 8,_),(.o 0,_)],[(.b (.l 2) 1,_),(.b (.l 2) 2,_),(.b (.l 2) 3,_),(.b (.l 2) 4,_),(.b (.l 2) 5,_)],[]⟩) (uAi (⟨sx rfl,sx rfl,sx rfl,sx rfl,sx rfl,sx rfl,trivial⟩) (⟨sx rfl,sx rfl,sx rfl,sx rfl,sx rfl,sx rfl,trivial⟩) (⟨rfl,rfl,rfl,rfl,rfl,trivial⟩)) ?_;refine uAd ?_;refine awp_drawn' (by kernel_rfl) ?_;refine uAF rfl rfl rfl rfl rfl rfl rfl gU rfl rfl rfl rfl rfl ?_;refine uAZ rfl rfl rfl rfl rfl rfl rfl gU gU (up uF8) rfl ?_;refine uAZ rfl rfl rfl rfl rfl rfl rfl gU gU (up (uC6 l (uAx l [] q).2 uBm (by omega) (le3 hl (uBE hq2)))) rfl ?_;refine uAw rfl rfl rfl rfl (uAc rfl gU) ?_;refine uAw rfl rfl rfl rfl (uAs rfl gU rfl) ?_;refine uAw rfl rfl rfl rfl (uAs rfl gU rfl) ?_
    refine uAw rfl rfl rfl rfl (uAg rfl gU rfl rfl) ?_;refine uAR rfl rfl rfl rfl rfl rfl rfl rfl rfl rfl rfl rfl ?_;refine uAR rfl rfl rfl rfl rfl rfl rfl rfl rfl rfl rfl rfl ?_;refine uA5 (by kernel_rfl) ?_;refine uAk (s:=⟨[(2,_,_),(3,_,_),(4,_,_),(5,_,_),(6,_,_),(8,_,_)],[(.l 2,_),(.l 3,_),(.l 4,_),(.l 5,_),(.l 8,_),(.o 0,_)],[(.b (.l 2) 1,_),(.b (.l 2) 2,_),(.b (.l 2) 3,_),(.b (.l 2) 4,_),(.b (.l 2) 5,_)],[]⟩) (uAi (⟨sx rfl,sx rfl,sx rfl,sx rfl,sx rfl,sx rfl,trivial⟩) (⟨sx rfl,sx rfl,sx rfl,sx rfl,sx rfl,sx rfl,trivial⟩) (⟨(ak rfl (ak rfl (ak rfl (ak rfl (ak rfl (ak rfl (ak rfl (ak rfl (ak rfl (rfl)))))))))),(ak rfl (ak rfl (ak rfl (ak rfl (ak rfl (ak rfl (ak rfl (ak rfl (ak rfl (rfl)))))))))),(ak rfl (ak rfl (ak rfl (ak rfl (ak rfl (ak rfl (ak rfl (ak rfl (ak rfl (rfl)))))))))),(ak rfl (ak rfl (ak rfl (ak rfl (ak rfl (ak rfl (ak rfl (ak rfl (ak rfl (rfl)))))))))),(ak rfl (ak rfl (ak rfl (ak rfl (ak rfl (ak rfl (ak rfl (ak rfl (ak rfl (rfl)))))))))),trivial⟩)) ?_;refine uAd (uAb ?_);refine uAa rfl rfl rfl (uAg rfl gU rfl rfl) ?_;refine uAq rfl (uBw rfl rfl rfl rfl rfl rfl rfl) ?_;refine uAa rfl rfl rfl (uAl rfl gU rfl rfl rfl rfl rfl) ?_;refine uAN (xs:=[_]) rfl rfl rfl rfl rfl rfl rfl rfl rfl gU rfl ?_;refine uAq rfl (uAX rfl rfl rfl rfl rfl rfl rfl (by first|omega|(simp only [List.length_append,List.length_singleton,Fs.rows_len]; omega)) (by first|omega|(simp only [List.length_append,List.length_singleton,Fs.rows_len]; omega))) ?_
    refine uAa rfl rfl rfl (uAg rfl gU rfl rfl) ?_;refine uAq rfl (uBv rfl rfl rfl rfl rfl rfl rfl) ?_;refine uAf ?_;refine uAk (s:=⟨[(2,_,_),(3,_,_),(4,_,_),(5,_,_),(6,_,_)],[(.l 2,_),(.l 3,_),(.l 4,_),(.l 5,_),(.o 0,_)],[(.b (.l 2) 1,_),(.b (.l 2) 2,_),(.b (.l 2) 3,_),(.b (.l 2) 4,_),(.b (.l 2) 5,_)],[]⟩) (uAi (⟨sx rfl,sx rfl,sx rfl,sx rfl,sx rfl,trivial⟩) (⟨sx rfl,sx rfl,sx rfl,sx rfl,sx rfl,trivial⟩) (⟨rfl,rfl,rfl,rfl,rfl,trivial⟩)) ?_;refine uAd (uAb ?_);refine uAa rfl rfl rfl (uAg rfl gU rfl rfl) ?_;refine uAa rfl rfl rfl (uAh rfl gU rfl rfl rfl rfl) ?_;refine uAf ?_;refine uAn rfl (fun hc3=>?_) (fun hc3=>?_)
    ·try simp only [nn,uAj,T.rows_len,Tk.rows_len] at hc3
     rw[frRA,if_pos hc3] at hi
     rw[← hi]
     refine uAk (s:=⟨[(2,_,_),(3,_,_),(4,_,_),(5,_,_)],[(.l 2,_),(.l 3,_),(.l 4,_),(.l 5,_),(.o 0,_)],[(.b (.l 2) 1,_),(.b (.l 2) 2,_),(.b (.l 2) 3,_),(.b (.l 2) 4,_),(.b (.l 2) 5,_)],[]⟩) (uAi (⟨sx rfl,sx rfl,sx rfl,sx rfl,trivial⟩) (⟨sx rfl,sx rfl,sx rfl,sx rfl,sx rfl,trivial⟩) (⟨rfl,rfl,rfl,rfl,rfl,trivial⟩)) ?_;refine uBe (.l 2) rfl (fun w1 w2 w3 w4 w5=>?_);refine uAk (s:=⟨[(2,_,_),(3,_,_),(4,_,_),(5,_,_)],[(.l 2,_),(.l 3,_),(.l 4,_),(.l 5,_),(.o 0,_)],[(.b (.l 2) 1,_),(.b (.l 2) 2,_),(.b (.l 2) 3,_),(.b (.l 2) 4,_),(.b (.l 2) 5,_)],[]⟩) (uAi (⟨sx rfl,sx rfl,sx rfl,sx rfl,trivial⟩) (⟨sx rfl,sx rfl,sx rfl,sx rfl,sx rfl,trivial⟩) (⟨rfl,rfl,rfl,rfl,rfl,trivial⟩)) ?_;refine uAd ?_;refine awp_drawn' (by kernel_rfl) ?_;refine uAF rfl rfl rfl rfl rfl rfl rfl gU rfl rfl rfl rfl rfl ?_;refine uAF rfl rfl rfl rfl rfl rfl rfl gU rfl rfl rfl rfl rfl ?_;refine uAR rfl rfl rfl rfl rfl rfl rfl rfl rfl rfl rfl rfl ?_;refine uAR rfl rfl rfl rfl rfl rfl rfl rfl rfl rfl rfl rfl ?_;refine uA5 (by kernel_rfl) ?_;refine uAk (s:=⟨[(2,_,_),(4,_,_),(5,_,_)],[(.l 2,_),(.l 4,_),(.l 5,_),(.o 0,_)],[(.b (.l 2) 1,_),(.b (.l 2) 2,_),(.b (.l 2) 3,_),(.b (.l 2) 4,_),(.b (.l 2) 5,_)],[]⟩) (uAi (⟨sx rfl,sx rfl,sx rfl,trivial⟩) (⟨sx rfl,sx rfl,sx rfl,sx rfl,trivial⟩) (⟨(ak rfl (ak rfl (ak rfl (ak rfl (rfl))))),(ak rfl (ak rfl (ak rfl (ak rfl (rfl))))),(ak rfl (ak rfl (ak rfl (ak rfl (rfl))))),(ak rfl (ak rfl (ak rfl (ak rfl (rfl))))),(ak rfl (ak rfl (ak rfl (ak rfl (rfl))))),trivial⟩)) ?_
     refine uBi (.l 4) (.l 2) rfl rfl rfl rfl rfl ?_;refine uAk (s:=⟨[(2,_,_),(4,_,_),(5,_,_)],[(.l 2,_),(.l 4,_),(.l 5,_),(.o 0,_)],[(.b (.l 4) 1,_),(.b (.l 4) 2,_),(.b (.l 4) 3,_),(.b (.l 4) 4,_),(.b (.l 4) 5,_)],[]⟩) (uAi (⟨sx rfl,sx rfl,sx rfl,trivial⟩) (⟨sx rfl,sx rfl,sx rfl,sx rfl,trivial⟩) (⟨rfl,rfl,rfl,rfl,rfl,trivial⟩)) ?_;refine uAp ?_
     repeat(first|refine tR ?_|refine bR ?_)
     refine uBq rfl ?_ ⟨⟨_,rfl,rfl⟩,trivial⟩ (by simp) rfl rfl rfl rfl rfl rfl;exact congrArg (fun z=>X.tup [.agg (narC n.name (strR n.roles) z (strR n.tags) (Sp.rows n.steps) (Gl.rows n.goals)), .agg (pbx l (chR l uBm (uAx l [] q).2).2)]) (Fs.rows_app out [⟨role,(uAx l [] q).1,(chR l uBm (uAx l [] q).2).1⟩]).symm
    ·try simp only [nn,uAj,T.rows_len,Tk.rows_len] at hc3
     rw[frRA,if_neg (by rw[hc3]; simp)] at hi
     have b4:=uMF hc3
     refine uAo ?_;refine uAb ?_;refine uAa rfl rfl rfl (uAe rfl gU) ?_;refine uAf ?_;refine ⟨((chR l uBm (uAx l [] q).2).2,false,out++[⟨role,(uAx l [] q).1,(chR l uBm (uAx l [] q).2).1⟩]),?_,?_,uAi (⟨⟨_,rfl,?_⟩,⟨sx rfl,sx rfl,sx rfl,sx rfl,sx rfl,trivial⟩⟩) (⟨⟨_,rfl,?_⟩,⟨⟨_,rfl,?_⟩,⟨sx rfl,sx rfl,sx rfl,trivial⟩⟩⟩) (⟨rfl,rfl,rfl,rfl,rfl,trivial⟩)⟩
     ·refine ⟨b3,by dsimp only; simp only [List.length_append,List.length_singleton,Bool.false_eq_true,if_false]; omega,k,by dsimp only; omega,?_⟩
      rw[if_neg (by simp)]; exact hi
     ·dsimp only
      simp only [Bool.false_eq_true,if_false,if_true]
      omega
     all_goals first|rfl|exact congrArg (fun z=>some (narC n.name (strR n.roles) z (strR n.tags) (Sp.rows n.steps) (Gl.rows n.goals))) (Fs.rows_app out [⟨role,(uAx l [] q).1,(chR l uBm (uAx l [] q).2).1⟩]).symm|exact congrArg (fun z=>narC n.name (strR n.roles) z (strR n.tags) (Sp.rows n.steps) (Gl.rows n.goals)) (Fs.rows_app out [⟨role,(uAx l [] q).1,(chR l uBm (uAx l [] q).2).1⟩]).symm
  ·exfalso
   simp at hc1
theorem uJv (l : List Tk) (n : Nar) (line : Int) (q : PS) : uCc l n line 1 q=({ n with roles:=n.roles++(uBu l q).1 },(uBu l q).2):=by rw[uCc,if_pos rfl]
theorem uJy (l : List Tk) (n : Nar) (line : Int) (q : PS) : uCc l n line 2 q=({ n with fresh:=(frRd l q n.fresh).1 },(frRd l q n.fresh).2):=by rw[uCc,if_neg (by decide),if_pos rfl]
theorem uKD (l : List Tk) (n : Nar) (line : Int) (q : PS) : uCc l n line 3 q=({ n with tags:=n.tags++(uBu l q).1 },(uBu l q).2):=by rw[uCc,if_neg (by decide),if_neg (by decide),if_pos rfl]
theorem uKg (l : List Tk) (n : Nar) (line : Int) (q : PS) : uCc l n line 4 q=({ n with steps:=n.steps++[(uEt l line q).1] },(uEt l line q).2):=by rw[uCc,if_neg (by decide),if_neg (by decide),if_neg (by decide),if_pos rfl]
theorem uKV (l : List Tk) (n : Nar) (line : Int) (q : PS) : uCc l n line 5 q=({ n with goals:=n.goals++[(uDE l line q).1] },(uDE l line q).2):=by rw[uCc,if_neg (by decide),if_neg (by decide),if_neg (by decide),if_neg (by decide),if_pos rfl]
theorem uKu (l : List Tk) (n : Nar) (line : Int) (q : PS) {k : Int} (h1 : k≠1) (h2 : k≠2) (h3 : k≠3) (h4 : k≠4) (h5 : k≠5) : uCc l n line k q=(n,q):=by rw[uCc,if_neg h1,if_neg h2,if_neg h3,if_neg h4,if_neg h5]
theorem uCi {l : List Tk} {n n' : Nar} {p q : PS} {line : Int} {k : Int} (hw : chR l uDn p=(k,q)) (hl : uCy l p=line) {r : PS} (h : uCc l n line k q=(n',r)) : uDR l n p=(n',uAQ l [59] r):=by
 unfold uDR; rw[hl,hw]; dsimp only; rw[h]
theorem uP5 (l : List Tk) (out : List Fs) : Fwd l (fun p=>frRd l p out):=fun p=>by
 have h:=(uKC l out p).1
 have h2:=uIc l out p
 dsimp only at h h2 ⊢
 rw[h]; exact h2
theorem uOM (l : List Tk) (line : Int) : Fwd l (uEt l line):=fun p=>by rw[(uJA l line p).1]; exact uG0 l line p
theorem uOP (l : List Tk) (line : Int) : Fwd l (uDE l line):=fun p=>by rw[(uKp l line p).1]; exact uGB l line p
set_option maxHeartbeats 16000000 in
theorem uK8 (l : List Tk) (p : PS) (n : Nar) (u1 u2 u3 u4 u5 : Value) (hl : l.length≤2000000) (hp : p.at'≤l.length) (hn : n.Le 2000000) :
  CtrO sysO 108 [.v (.agg (soC n u1 u2 u3 u4 u5)),xr l p] [soC n u1 u2 u3 u4 u5] osR (xnr l (uDR l n p)) [soC n u1 u2 u3 u4 u5] .res:=by
 have hrl:=Tk.rows_len l
 have hr1:=uAj n.roles
 have hr2:=uAj n.tags
 have hq1:=uD3 (ws:=uDn) hp
 obtain ⟨b1,b2,b3,b4,b5⟩:=hn
 obtain ⟨k,q,hk⟩ : ∃ k q,chR l uDn p=(k,q):=⟨_,_,rfl⟩
 have hns:=uC6 l p uDn (by omega) (by omega)
 rw[hk] at hns hq1
 dsimp only at hns hq1
 have hnl : (uBu l q).1.length≤2000001:=by
  have h1:=uEP (uA4 l []) q
  have h2:=(uCJ (uA4 l []) q).2 hq1
  unfold uBu; omega
 have hnr:=uAj (uBu l q).1
 have hq2 : (uBu l q).2.at'≤l.length:=(uCJ (uA4 l []) q).2 hq1
 have hq3 : (frRd l q n.fresh).2.at'≤l.length:=(uP5 l n.fresh q).2 hq1
 have hq4 : ∀ line,(uEt l line q).2.at'≤l.length:=fun line=>(uOM l line q).2 hq1
 have hq5 : ∀ line,(uDE l line q).2.at'≤l.length:=fun line=>(uOP l line q).2 hq1
 refine uBH Tryz.func108 rfl rfl rfl rfl rfl rfl rfl ?_;refine uAd (uAb ?_);refine uAq rfl (uAK rfl rfl rfl rfl) ?_;refine uAq rfl (uAK rfl rfl rfl rfl) ?_;refine uAq rfl (uAG rfl rfl rfl) ?_;refine uAq rfl (uAG rfl rfl rfl) ?_;refine uAf ?_;refine uAk (s:=⟨[(2,_,_),(3,_,_),(4,_,_),(5,_,_)],[(.l 2,_),(.l 3,_),(.l 4,_),(.l 5,_),(.o 0,_)],[(.b (.o 0) 1,_),(.b (.o 0) 2,_),(.b (.o 0) 3,_),(.b (.o 0) 4,_),(.b (.o 0) 5,_)],[]⟩) (uAi (⟨sx rfl,sx rfl,sx rfl,sx rfl,trivial⟩) (⟨sx rfl,sx rfl,sx rfl,sx rfl,sx rfl,trivial⟩) (⟨rfl,rfl,rfl,rfl,rfl,trivial⟩)) ?_;refine uBi (.l 2) (.o 0) rfl rfl rfl rfl rfl ?_;refine uAk (s:=⟨[(2,_,_),(3,_,_),(4,_,_),(5,_,_)],[(.l 2,_),(.l 3,_),(.l 4,_),(.l 5,_),(.o 0,_)],[(.b (.l 2) 1,_),(.b (.l 2) 2,_),(.b (.l 2) 3,_),(.b (.l 2) 4,_),(.b (.l 2) 5,_)],[]⟩) (uAi (⟨sx rfl,sx rfl,sx rfl,sx rfl,trivial⟩) (⟨sx rfl,sx rfl,sx rfl,sx rfl,sx rfl,trivial⟩) (⟨rfl,rfl,rfl,rfl,rfl,trivial⟩)) ?_;refine uAd (uAb ?_);refine uAa rfl rfl rfl (uAe rfl gU) ?_;refine uAf ?_;refine uAd ?_;refine uAd (uAb ?_);refine uAa rfl rfl rfl (uAg rfl gU rfl rfl) ?_;refine uAa rfl rfl rfl (uAh rfl gU rfl rfl rfl rfl) ?_;refine uAa rfl rfl rfl (uAg rfl gU rfl rfl) ?_
 refine uAa rfl rfl rfl (uAh rfl gU rfl rfl rfl rfl) ?_;refine uAI rfl rfl rfl rfl rfl gU rfl rfl ?_ (fun hh=>by simp at hh); intro hlen;refine uAa rfl rfl rfl (uAm rfl rfl gU gU rfl) ?_;refine uAf ?_;refine uAk (s:=⟨[(2,_,_),(3,_,_),(4,_,_),(5,_,_),(6,_,_),(14,_,_)],[(.l 2,_),(.l 3,_),(.l 4,_),(.l 5,_),(.o 0,_)],[(.b (.l 2) 1,_),(.b (.l 2) 2,_),(.b (.l 2) 3,_),(.b (.l 2) 4,_),(.b (.l 2) 5,_)],[]⟩) (uAi (⟨sx rfl,sx rfl,sx rfl,sx rfl,sx rfl,sx rfl,trivial⟩) (⟨sx rfl,sx rfl,sx rfl,sx rfl,sx rfl,trivial⟩) (⟨rfl,rfl,rfl,rfl,rfl,trivial⟩)) ?_;refine uAn rfl (fun hcx=>?_) (fun hcx=>?_)
 ·try simp only [nn,uAj,T.rows_len,Tk.rows_len] at hcx
  have hline : uCy l p=(l.getD p.at' tk0).line:=by rw[uCy,if_pos (by omega)]
  refine uAb ?_;refine uAa rfl rfl rfl (uAg rfl gU rfl rfl) ?_;refine uAa rfl rfl rfl (uAh rfl gU rfl rfl rfl rfl) ?_;refine uAa rfl rfl rfl (uAg rfl gU rfl rfl) ?_;refine uAa rfl rfl rfl (uAh rfl gU rfl rfl rfl rfl) ?_;refine uAa rfl rfl rfl (uAv (j:=p.at') rfl rfl gU gU rfl rfl (by first|omega|(simp at hh ⊢; omega)) (fun hh=>Tk.rows_at (by first|omega|(simp at hh ⊢; omega)))) ?_;refine uAa rfl rfl rfl (uA2 rfl gU rfl rfl) ?_;refine uAa rfl rfl rfl (uAU rfl gU rfl rfl rfl) ?_;refine uAa rfl rfl rfl (uAe rfl gU) ?_;refine uAf ?_;refine uAk (s:=⟨[(2,_,_),(3,_,_),(4,_,_),(5,_,_),(6,_,_)],[(.l 2,_),(.l 3,_),(.l 4,_),(.l 5,_),(.o 0,_)],[(.b (.l 2) 1,_),(.b (.l 2) 2,_),(.b (.l 2) 3,_),(.b (.l 2) 4,_),(.b (.l 2) 5,_)],[]⟩) (uAi (⟨sx rfl,sx rfl,sx rfl,sx rfl,sx rfl,trivial⟩) (⟨sx rfl,sx rfl,sx rfl,sx rfl,sx rfl,trivial⟩) (⟨rfl,rfl,rfl,rfl,rfl,trivial⟩)) ?_;refine uAd (uAb ?_);refine uAa rfl rfl rfl (uAl rfl gU rfl rfl rfl rfl rfl) ?_;refine uAN (xs:=[_,_,_,_,_,_]) rfl rfl rfl rfl rfl rfl rfl rfl rfl gU rfl ?_;refine uAu rfl rfl rfl rfl rfl rfl gU gU (up hns) rfl ?_;refine uAa rfl rfl rfl (uAc rfl gU) ?_;refine uAa rfl rfl rfl (uAs rfl gU rfl) ?_;refine uAa rfl rfl rfl (uAs rfl gU rfl) ?_
  refine uAa rfl rfl rfl (uAe rfl gU) ?_;refine uAq rfl (uAy rfl rfl rfl rfl rfl rfl rfl) ?_;refine uAf ?_;refine uAk (s:=⟨[(2,_,_),(3,_,_),(4,_,_),(5,_,_),(6,_,_),(7,_,_)],[(.l 2,_),(.l 3,_),(.l 4,_),(.l 5,_),(.o 0,_)],[(.b (.l 2) 1,_),(.b (.l 2) 2,_),(.b (.l 2) 3,_),(.b (.l 2) 4,_),(.b (.l 2) 5,_)],[]⟩) (uAi (⟨sx rfl,sx rfl,sx rfl,sx rfl,sx rfl,sx rfl,trivial⟩) (⟨sx rfl,sx rfl,sx rfl,sx rfl,sx rfl,trivial⟩) (⟨rfl,rfl,rfl,rfl,rfl,trivial⟩)) ?_;refine uAd (uAb ?_);refine uAq rfl (uBd (.inr rfl) rfl rfl) ?_;refine uAf ?_;refine uAd ?_;refine uAd (uAb ?_);refine uAa rfl rfl rfl (uAc rfl gU) ?_;refine uAf ?_;refine uAr ?_;refine uAd (uAb ?_);refine uAa rfl rfl rfl (uAm rfl rfl gU gU rfl) ?_;refine uAa rfl rfl rfl (uAe rfl gU) ?_;refine uAf ?_;refine uAn rfl (fun hcu1=>?_) (fun hcu1=>?_)
  ·try simp only [nn,uAj,T.rows_len,Tk.rows_len] at hcu1
   subst hcu1
   rw[uCi hk hline (uJv l n (l.getD p.at' tk0).line q)]
   refine uAd (uAb ?_);refine uAa rfl rfl rfl (uAl rfl gU rfl rfl rfl rfl rfl) ?_;refine uAu rfl rfl rfl rfl rfl rfl gU gU (up (uCU l q (by omega) hq1)) rfl ?_;refine uAa rfl rfl rfl (uAc rfl gU) ?_;refine uAa rfl rfl rfl (uAs rfl gU rfl) ?_;refine uAa rfl rfl rfl (uAs rfl gU rfl) ?_;refine uAa rfl rfl rfl (uAe rfl gU) ?_;refine uAq rfl (uAy rfl rfl rfl rfl rfl rfl rfl) ?_;refine uAf ?_;refine uAk (s:=⟨[(2,_,_),(3,_,_),(4,_,_),(5,_,_),(8,_,_)],[(.l 2,_),(.l 3,_),(.l 4,_),(.l 5,_),(.o 0,_)],[(.b (.l 2) 1,_),(.b (.l 2) 2,_),(.b (.l 2) 3,_),(.b (.l 2) 4,_),(.b (.l 2) 5,_)],[]⟩) (uAi (⟨sx rfl,sx rfl,sx rfl,sx rfl,sx rfl,trivial⟩) (⟨sx rfl,sx rfl,sx rfl,sx rfl,sx rfl,trivial⟩) (⟨rfl,rfl,rfl,rfl,rfl,trivial⟩)) ?_;refine uAb ?_;refine uAa rfl rfl rfl (uAg rfl gU rfl rfl) ?_;refine uAq rfl (uBw rfl rfl rfl rfl rfl rfl rfl) ?_;refine uAa rfl rfl rfl (uAc rfl gU) ?_;refine uAq rfl (uAX rfl rfl rfl rfl rfl rfl rfl (by first|omega|(simp only [List.length_append,List.length_singleton,uAj]; omega)) (by first|omega|(simp only [List.length_append,List.length_singleton,uAj]; omega))) ?_;refine uAa rfl rfl rfl (uAg rfl gU rfl rfl) ?_;refine uAq rfl (uBv rfl rfl rfl rfl rfl rfl rfl) ?_
   refine uAf ?_;refine uAk (s:=⟨[(2,_,_),(3,_,_),(4,_,_),(5,_,_)],[(.l 2,_),(.l 3,_),(.l 4,_),(.l 5,_),(.o 0,_)],[(.b (.l 2) 1,_),(.b (.l 2) 2,_),(.b (.l 2) 3,_),(.b (.l 2) 4,_),(.b (.l 2) 5,_)],[]⟩) (uAi (⟨sx rfl,sx rfl,sx rfl,sx rfl,trivial⟩) (⟨sx rfl,sx rfl,sx rfl,sx rfl,sx rfl,trivial⟩) (⟨rfl,rfl,rfl,rfl,rfl,trivial⟩)) ?_;refine uAk (s:=⟨[(2,_,_),(3,_,_),(4,_,_),(5,_,_)],[(.l 2,_),(.l 3,_),(.l 4,_),(.l 5,_),(.o 0,_)],[(.b (.l 2) 1,_),(.b (.l 2) 2,_),(.b (.l 2) 3,_),(.b (.l 2) 4,_),(.b (.l 2) 5,_)],[]⟩) (uAi (⟨sx rfl,sx rfl,sx rfl,sx rfl,trivial⟩) (⟨sx rfl,sx rfl,sx rfl,sx rfl,sx rfl,trivial⟩) (⟨rfl,rfl,rfl,rfl,rfl,trivial⟩)) ?_;refine uBe (.l 2) rfl (fun w1 w2 w3 w4 w5=>?_);refine uAk (s:=⟨[(2,_,_),(3,_,_),(4,_,_),(5,_,_)],[(.l 2,_),(.l 3,_),(.l 4,_),(.l 5,_),(.o 0,_)],[(.b (.l 2) 1,_),(.b (.l 2) 2,_),(.b (.l 2) 3,_),(.b (.l 2) 4,_),(.b (.l 2) 5,_)],[]⟩) (uAi (⟨sx rfl,sx rfl,sx rfl,sx rfl,trivial⟩) (⟨sx rfl,sx rfl,sx rfl,sx rfl,sx rfl,trivial⟩) (⟨rfl,rfl,rfl,rfl,rfl,trivial⟩)) ?_;refine uAd ?_;refine awp_drawn' (by kernel_rfl) ?_;refine uAF rfl rfl rfl rfl rfl rfl rfl gU rfl rfl rfl rfl rfl ?_;refine uAF rfl rfl rfl rfl rfl rfl rfl gU rfl rfl rfl rfl rfl ?_
   refine uAZ rfl rfl rfl rfl rfl rfl rfl gU gU (up (uAY l _ _ (by omega) (le3 hl (by first|assumption|(dsimp only; first|assumption|exact hq4 _|exact hq5 _))))) rfl ?_;refine uAR rfl rfl rfl rfl rfl rfl rfl rfl rfl rfl rfl rfl ?_;refine uAR rfl rfl rfl rfl rfl rfl rfl rfl rfl rfl rfl rfl ?_;refine uA5 (by kernel_rfl) ?_;refine uAk (s:=⟨[(2,_,_),(4,_,_),(5,_,_)],[(.l 2,_),(.l 4,_),(.l 5,_),(.o 0,_)],[(.b (.l 2) 1,_),(.b (.l 2) 2,_),(.b (.l 2) 3,_),(.b (.l 2) 4,_),(.b (.l 2) 5,_)],[]⟩) (uAi (⟨sx rfl,sx rfl,sx rfl,trivial⟩) (⟨sx rfl,sx rfl,sx rfl,sx rfl,trivial⟩) (⟨(ak rfl (ak rfl (ak rfl (ak rfl (ak rfl (rfl)))))),(ak rfl (ak rfl (ak rfl (ak rfl (ak rfl (rfl)))))),(ak rfl (ak rfl (ak rfl (ak rfl (ak rfl (rfl)))))),(ak rfl (ak rfl (ak rfl (ak rfl (ak rfl (rfl)))))),(ak rfl (ak rfl (ak rfl (ak rfl (ak rfl (rfl)))))),trivial⟩)) ?_;refine uBi (.l 4) (.l 2) rfl rfl rfl rfl rfl ?_;refine uAk (s:=⟨[(2,_,_),(4,_,_),(5,_,_)],[(.l 2,_),(.l 4,_),(.l 5,_),(.o 0,_)],[(.b (.l 4) 1,_),(.b (.l 4) 2,_),(.b (.l 4) 3,_),(.b (.l 4) 4,_),(.b (.l 4) 5,_)],[]⟩) (uAi (⟨sx rfl,sx rfl,sx rfl,trivial⟩) (⟨sx rfl,sx rfl,sx rfl,sx rfl,trivial⟩) (⟨rfl,rfl,rfl,rfl,rfl,trivial⟩)) ?_;refine uAp ?_
   repeat(first|refine tR ?_|refine bR ?_)
   refine uBq rfl ?_ ⟨⟨_,rfl,rfl⟩,trivial⟩ (by simp) rfl rfl rfl rfl rfl rfl;exact congrArg (fun z=>X.tup [.agg (narC n.name z (Fs.rows n.fresh) (strR n.tags) (Sp.rows n.steps) (Gl.rows n.goals)), .agg (pbx l (uAQ l [59] (uBu l q).2))]) (uEq _ _).symm
  ·try simp only [nn,uAj,T.rows_len,Tk.rows_len] at hcu1
   refine uAd (uAb ?_);refine uAa rfl rfl rfl (uAm rfl rfl gU gU rfl) ?_;refine uAa rfl rfl rfl (uAe rfl gU) ?_;refine uAf ?_;refine uAk (s:=⟨[(2,_,_),(3,_,_),(4,_,_),(5,_,_),(6,_,_),(28,_,_),(41,_,_)],[(.l 2,_),(.l 3,_),(.l 4,_),(.l 5,_),(.o 0,_)],[(.b (.l 2) 1,_),(.b (.l 2) 2,_),(.b (.l 2) 3,_),(.b (.l 2) 4,_),(.b (.l 2) 5,_)],[]⟩) (uAi (⟨sx rfl,sx rfl,sx rfl,sx rfl,sx rfl,sx rfl,sx rfl,trivial⟩) (⟨sx rfl,sx rfl,sx rfl,sx rfl,sx rfl,trivial⟩) (⟨rfl,rfl,rfl,rfl,rfl,trivial⟩)) ?_;refine uAn rfl (fun hcu2=>?_) (fun hcu2=>?_)
   ·try simp only [nn,uAj,T.rows_len,Tk.rows_len] at hcu2
    subst hcu2
    rw[uCi hk hline (uJy l n (l.getD p.at' tk0).line q)]
    refine uAk (s:=⟨[(2,_,_),(3,_,_),(4,_,_),(5,_,_)],[(.l 2,_),(.l 3,_),(.l 4,_),(.l 5,_),(.o 0,_)],[(.b (.l 2) 1,_),(.b (.l 2) 2,_),(.b (.l 2) 3,_),(.b (.l 2) 4,_),(.b (.l 2) 5,_)],[]⟩) (uAi (⟨sx rfl,sx rfl,sx rfl,sx rfl,trivial⟩) (⟨sx rfl,sx rfl,sx rfl,sx rfl,sx rfl,trivial⟩) (⟨rfl,rfl,rfl,rfl,rfl,trivial⟩)) ?_;refine uBe (.l 2) rfl (fun w1 w2 w3 w4 w5=>?_);refine uAk (s:=⟨[(2,_,_),(3,_,_),(4,_,_),(5,_,_)],[(.l 2,_),(.l 3,_),(.l 4,_),(.l 5,_),(.o 0,_)],[(.b (.l 2) 1,_),(.b (.l 2) 2,_),(.b (.l 2) 3,_),(.b (.l 2) 4,_),(.b (.l 2) 5,_)],[]⟩) (uAi (⟨sx rfl,sx rfl,sx rfl,sx rfl,trivial⟩) (⟨sx rfl,sx rfl,sx rfl,sx rfl,sx rfl,trivial⟩) (⟨rfl,rfl,rfl,rfl,rfl,trivial⟩)) ?_;refine uAb ?_;refine uAa rfl rfl rfl (uAl rfl gU rfl rfl rfl rfl rfl) ?_;refine uAa rfl rfl rfl (uAl rfl gU rfl rfl rfl rfl rfl) ?_;refine uDr (.l 2) (.l 3) osR rfl rfl rfl rfl rfl rfl ⟨rfl,rfl,rfl,rfl,rfl,rfl⟩ ⟨rfl,rfl,rfl,rfl,rfl,rfl⟩ rfl rfl rfl rfl rfl rfl rfl rfl rfl ⟨rfl,rfl⟩ rfl (uEr l q n w1 w2 w3 w4 w5 hl hq1 (by omega)) rfl rfl rfl rfl rfl rfl rfl rfl ?_;refine uAf ?_;refine uAk (s:=⟨[(2,_,_),(3,_,_),(4,_,_),(5,_,_)],[(.l 2,_),(.l 3,_),(.l 4,_),(.l 5,_),(.o 0,_)],[(.b (.l 2) 1,_),(.b (.l 2) 2,_),(.b (.l 2) 3,_),(.b (.l 2) 4,_),(.b (.l 2) 5,_)],[]⟩) (uAi (⟨sx rfl,sx rfl,sx rfl,sx rfl,trivial⟩) (⟨sx rfl,sx rfl,sx rfl,sx rfl,sx rfl,trivial⟩) (⟨rfl,rfl,rfl,rfl,rfl,trivial⟩)) ?_
    refine uAk (s:=⟨[(2,_,_),(3,_,_),(4,_,_),(5,_,_)],[(.l 2,_),(.l 3,_),(.l 4,_),(.l 5,_),(.o 0,_)],[(.b (.l 2) 1,_),(.b (.l 2) 2,_),(.b (.l 2) 3,_),(.b (.l 2) 4,_),(.b (.l 2) 5,_)],[]⟩) (uAi (⟨sx rfl,sx rfl,sx rfl,sx rfl,trivial⟩) (⟨sx rfl,sx rfl,sx rfl,sx rfl,sx rfl,trivial⟩) (⟨rfl,rfl,rfl,rfl,rfl,trivial⟩)) ?_;refine uBe (.l 2) rfl (fun w1 w2 w3 w4 w5=>?_);refine uAk (s:=⟨[(2,_,_),(3,_,_),(4,_,_),(5,_,_)],[(.l 2,_),(.l 3,_),(.l 4,_),(.l 5,_),(.o 0,_)],[(.b (.l 2) 1,_),(.b (.l 2) 2,_),(.b (.l 2) 3,_),(.b (.l 2) 4,_),(.b (.l 2) 5,_)],[]⟩) (uAi (⟨sx rfl,sx rfl,sx rfl,sx rfl,trivial⟩) (⟨sx rfl,sx rfl,sx rfl,sx rfl,sx rfl,trivial⟩) (⟨rfl,rfl,rfl,rfl,rfl,trivial⟩)) ?_;refine uAd ?_;refine awp_drawn' (by kernel_rfl) ?_;refine uAF rfl rfl rfl rfl rfl rfl rfl gU rfl rfl rfl rfl rfl ?_;refine uAF rfl rfl rfl rfl rfl rfl rfl gU rfl rfl rfl rfl rfl ?_;refine uAZ rfl rfl rfl rfl rfl rfl rfl gU gU (up (uAY l _ _ (by omega) (le3 hl (by first|assumption|(dsimp only; first|assumption|exact hq4 _|exact hq5 _))))) rfl ?_;refine uAR rfl rfl rfl rfl rfl rfl rfl rfl rfl rfl rfl rfl ?_;refine uAR rfl rfl rfl rfl rfl rfl rfl rfl rfl rfl rfl rfl ?_;refine uA5 (by kernel_rfl) ?_;refine uAk (s:=⟨[(2,_,_),(4,_,_),(5,_,_)],[(.l 2,_),(.l 4,_),(.l 5,_),(.o 0,_)],[(.b (.l 2) 1,_),(.b (.l 2) 2,_),(.b (.l 2) 3,_),(.b (.l 2) 4,_),(.b (.l 2) 5,_)],[]⟩) (uAi (⟨sx rfl,sx rfl,sx rfl,trivial⟩) (⟨sx rfl,sx rfl,sx rfl,sx rfl,trivial⟩) (⟨(ak rfl (ak rfl (ak rfl (ak rfl (ak rfl (rfl)))))),(ak rfl (ak rfl (ak rfl (ak rfl (ak rfl (rfl)))))),(ak rfl (ak rfl (ak rfl (ak rfl (ak rfl (rfl)))))),(ak rfl (ak rfl (ak rfl (ak rfl (ak rfl (rfl)))))),(ak rfl (ak rfl (ak rfl (ak rfl (ak rfl (rfl)))))),trivial⟩)) ?_
    refine uBi (.l 4) (.l 2) rfl rfl rfl rfl rfl ?_;refine uAk (s:=⟨[(2,_,_),(4,_,_),(5,_,_)],[(.l 2,_),(.l 4,_),(.l 5,_),(.o 0,_)],[(.b (.l 4) 1,_),(.b (.l 4) 2,_),(.b (.l 4) 3,_),(.b (.l 4) 4,_),(.b (.l 4) 5,_)],[]⟩) (uAi (⟨sx rfl,sx rfl,sx rfl,trivial⟩) (⟨sx rfl,sx rfl,sx rfl,sx rfl,trivial⟩) (⟨rfl,rfl,rfl,rfl,rfl,trivial⟩)) ?_;refine uAp ?_
    repeat(first|refine tR ?_|refine bR ?_)
    refine uBq rfl ?_ ⟨⟨_,rfl,rfl⟩,trivial⟩ (by simp) rfl rfl rfl rfl rfl rfl
    rfl
   ·try simp only [nn,uAj,T.rows_len,Tk.rows_len] at hcu2
    refine uAd (uAb ?_);refine uAa rfl rfl rfl (uAm rfl rfl gU gU rfl) ?_;refine uAa rfl rfl rfl (uAe rfl gU) ?_;refine uAf ?_;refine uAn rfl (fun hcu3=>?_) (fun hcu3=>?_)
    ·try simp only [nn,uAj,T.rows_len,Tk.rows_len] at hcu3
     subst hcu3
     rw[uCi hk hline (uKD l n (l.getD p.at' tk0).line q)]
     refine uAd (uAb ?_);refine uAa rfl rfl rfl (uAl rfl gU rfl rfl rfl rfl rfl) ?_;refine uAu rfl rfl rfl rfl rfl rfl gU gU (up (uCU l q (by omega) hq1)) rfl ?_;refine uAa rfl rfl rfl (uAc rfl gU) ?_;refine uAa rfl rfl rfl (uAs rfl gU rfl) ?_;refine uAa rfl rfl rfl (uAs rfl gU rfl) ?_;refine uAa rfl rfl rfl (uAe rfl gU) ?_;refine uAq rfl (uAy rfl rfl rfl rfl rfl rfl rfl) ?_;refine uAf ?_;refine uAk (s:=⟨[(2,_,_),(3,_,_),(4,_,_),(5,_,_),(8,_,_)],[(.l 2,_),(.l 3,_),(.l 4,_),(.l 5,_),(.o 0,_)],[(.b (.l 2) 1,_),(.b (.l 2) 2,_),(.b (.l 2) 3,_),(.b (.l 2) 4,_),(.b (.l 2) 5,_)],[]⟩) (uAi (⟨sx rfl,sx rfl,sx rfl,sx rfl,sx rfl,trivial⟩) (⟨sx rfl,sx rfl,sx rfl,sx rfl,sx rfl,trivial⟩) (⟨rfl,rfl,rfl,rfl,rfl,trivial⟩)) ?_;refine uAb ?_;refine uAa rfl rfl rfl (uAg rfl gU rfl rfl) ?_;refine uAq rfl (uBw rfl rfl rfl rfl rfl rfl rfl) ?_;refine uAa rfl rfl rfl (uAc rfl gU) ?_;refine uAq rfl (uAX rfl rfl rfl rfl rfl rfl rfl (by first|omega|(simp only [List.length_append,List.length_singleton,uAj]; omega)) (by first|omega|(simp only [List.length_append,List.length_singleton,uAj]; omega))) ?_;refine uAa rfl rfl rfl (uAg rfl gU rfl rfl) ?_;refine uAq rfl (uBv rfl rfl rfl rfl rfl rfl rfl) ?_
     refine uAf ?_;refine uAk (s:=⟨[(2,_,_),(3,_,_),(4,_,_),(5,_,_)],[(.l 2,_),(.l 3,_),(.l 4,_),(.l 5,_),(.o 0,_)],[(.b (.l 2) 1,_),(.b (.l 2) 2,_),(.b (.l 2) 3,_),(.b (.l 2) 4,_),(.b (.l 2) 5,_)],[]⟩) (uAi (⟨sx rfl,sx rfl,sx rfl,sx rfl,trivial⟩) (⟨sx rfl,sx rfl,sx rfl,sx rfl,sx rfl,trivial⟩) (⟨rfl,rfl,rfl,rfl,rfl,trivial⟩)) ?_;refine uAk (s:=⟨[(2,_,_),(3,_,_),(4,_,_),(5,_,_)],[(.l 2,_),(.l 3,_),(.l 4,_),(.l 5,_),(.o 0,_)],[(.b (.l 2) 1,_),(.b (.l 2) 2,_),(.b (.l 2) 3,_),(.b (.l 2) 4,_),(.b (.l 2) 5,_)],[]⟩) (uAi (⟨sx rfl,sx rfl,sx rfl,sx rfl,trivial⟩) (⟨sx rfl,sx rfl,sx rfl,sx rfl,sx rfl,trivial⟩) (⟨rfl,rfl,rfl,rfl,rfl,trivial⟩)) ?_;refine uBe (.l 2) rfl (fun w1 w2 w3 w4 w5=>?_);refine uAk (s:=⟨[(2,_,_),(3,_,_),(4,_,_),(5,_,_)],[(.l 2,_),(.l 3,_),(.l 4,_),(.l 5,_),(.o 0,_)],[(.b (.l 2) 1,_),(.b (.l 2) 2,_),(.b (.l 2) 3,_),(.b (.l 2) 4,_),(.b (.l 2) 5,_)],[]⟩) (uAi (⟨sx rfl,sx rfl,sx rfl,sx rfl,trivial⟩) (⟨sx rfl,sx rfl,sx rfl,sx rfl,sx rfl,trivial⟩) (⟨rfl,rfl,rfl,rfl,rfl,trivial⟩)) ?_;refine uAd ?_;refine awp_drawn' (by kernel_rfl) ?_;refine uAF rfl rfl rfl rfl rfl rfl rfl gU rfl rfl rfl rfl rfl ?_;refine uAF rfl rfl rfl rfl rfl rfl rfl gU rfl rfl rfl rfl rfl ?_
     refine uAZ rfl rfl rfl rfl rfl rfl rfl gU gU (up (uAY l _ _ (by omega) (le3 hl (by first|assumption|(dsimp only; first|assumption|exact hq4 _|exact hq5 _))))) rfl ?_;refine uAR rfl rfl rfl rfl rfl rfl rfl rfl rfl rfl rfl rfl ?_;refine uAR rfl rfl rfl rfl rfl rfl rfl rfl rfl rfl rfl rfl ?_;refine uA5 (by kernel_rfl) ?_;refine uAk (s:=⟨[(2,_,_),(4,_,_),(5,_,_)],[(.l 2,_),(.l 4,_),(.l 5,_),(.o 0,_)],[(.b (.l 2) 1,_),(.b (.l 2) 2,_),(.b (.l 2) 3,_),(.b (.l 2) 4,_),(.b (.l 2) 5,_)],[]⟩) (uAi (⟨sx rfl,sx rfl,sx rfl,trivial⟩) (⟨sx rfl,sx rfl,sx rfl,sx rfl,trivial⟩) (⟨(ak rfl (ak rfl (ak rfl (ak rfl (ak rfl (rfl)))))),(ak rfl (ak rfl (ak rfl (ak rfl (ak rfl (rfl)))))),(ak rfl (ak rfl (ak rfl (ak rfl (ak rfl (rfl)))))),(ak rfl (ak rfl (ak rfl (ak rfl (ak rfl (rfl)))))),(ak rfl (ak rfl (ak rfl (ak rfl (ak rfl (rfl)))))),trivial⟩)) ?_;refine uBi (.l 4) (.l 2) rfl rfl rfl rfl rfl ?_;refine uAk (s:=⟨[(2,_,_),(4,_,_),(5,_,_)],[(.l 2,_),(.l 4,_),(.l 5,_),(.o 0,_)],[(.b (.l 4) 1,_),(.b (.l 4) 2,_),(.b (.l 4) 3,_),(.b (.l 4) 4,_),(.b (.l 4) 5,_)],[]⟩) (uAi (⟨sx rfl,sx rfl,sx rfl,trivial⟩) (⟨sx rfl,sx rfl,sx rfl,sx rfl,trivial⟩) (⟨rfl,rfl,rfl,rfl,rfl,trivial⟩)) ?_;refine uAp ?_
     repeat(first|refine tR ?_|refine bR ?_)
     refine uBq rfl ?_ ⟨⟨_,rfl,rfl⟩,trivial⟩ (by simp) rfl rfl rfl rfl rfl rfl;exact congrArg (fun z=>X.tup [.agg (narC n.name (strR n.roles) (Fs.rows n.fresh) z (Sp.rows n.steps) (Gl.rows n.goals)), .agg (pbx l (uAQ l [59] (uBu l q).2))]) (uEq _ _).symm
    ·try simp only [nn,uAj,T.rows_len,Tk.rows_len] at hcu3
     refine uAd (uAb ?_);refine uAa rfl rfl rfl (uAm rfl rfl gU gU rfl) ?_;refine uAa rfl rfl rfl (uAe rfl gU) ?_;refine uAf ?_;refine uAn rfl (fun hcu4=>?_) (fun hcu4=>?_)
     ·try simp only [nn,uAj,T.rows_len,Tk.rows_len] at hcu4
      subst hcu4
      rw[uCi hk hline (uKg l n (l.getD p.at' tk0).line q)]
      refine uAk (s:=⟨[(2,_,_),(3,_,_),(4,_,_),(5,_,_),(6,_,_)],[(.l 2,_),(.l 3,_),(.l 4,_),(.l 5,_),(.o 0,_)],[(.b (.l 2) 1,_),(.b (.l 2) 2,_),(.b (.l 2) 3,_),(.b (.l 2) 4,_),(.b (.l 2) 5,_)],[]⟩) (uAi (⟨sx rfl,sx rfl,sx rfl,sx rfl,sx rfl,trivial⟩) (⟨sx rfl,sx rfl,sx rfl,sx rfl,sx rfl,trivial⟩) (⟨rfl,rfl,rfl,rfl,rfl,trivial⟩)) ?_;refine uBe (.l 2) rfl (fun w1 w2 w3 w4 w5=>?_);refine uAk (s:=⟨[(2,_,_),(3,_,_),(4,_,_),(5,_,_),(6,_,_)],[(.l 2,_),(.l 3,_),(.l 4,_),(.l 5,_),(.o 0,_)],[(.b (.l 2) 1,_),(.b (.l 2) 2,_),(.b (.l 2) 3,_),(.b (.l 2) 4,_),(.b (.l 2) 5,_)],[]⟩) (uAi (⟨sx rfl,sx rfl,sx rfl,sx rfl,sx rfl,trivial⟩) (⟨sx rfl,sx rfl,sx rfl,sx rfl,sx rfl,trivial⟩) (⟨rfl,rfl,rfl,rfl,rfl,trivial⟩)) ?_;refine uAb ?_;refine uAa rfl rfl rfl (uAl rfl gU rfl rfl rfl rfl rfl) ?_;refine uAa rfl rfl rfl (uAl rfl gU rfl rfl rfl rfl rfl) ?_;refine uAa rfl rfl rfl (uAc rfl gU) ?_;refine uDr (.l 2) (.l 3) osR rfl rfl rfl rfl rfl rfl ⟨rfl,rfl,rfl,rfl,rfl,rfl⟩ ⟨rfl,rfl,rfl,rfl,rfl,rfl⟩ rfl rfl rfl rfl rfl rfl rfl rfl rfl ⟨rfl,rfl⟩ rfl (uEU l q n ((l.getD p.at' tk0).line) w1 w2 w3 w4 w5 hl hq1 (by omega)) rfl rfl rfl rfl rfl rfl rfl rfl ?_;refine uAf ?_;refine uAk (s:=⟨[(2,_,_),(3,_,_),(4,_,_),(5,_,_)],[(.l 2,_),(.l 3,_),(.l 4,_),(.l 5,_),(.o 0,_)],[(.b (.l 2) 1,_),(.b (.l 2) 2,_),(.b (.l 2) 3,_),(.b (.l 2) 4,_),(.b (.l 2) 5,_)],[]⟩) (uAi (⟨sx rfl,sx rfl,sx rfl,sx rfl,trivial⟩) (⟨sx rfl,sx rfl,sx rfl,sx rfl,sx rfl,trivial⟩) (⟨rfl,rfl,rfl,rfl,rfl,trivial⟩)) ?_
      refine uAk (s:=⟨[(2,_,_),(3,_,_),(4,_,_),(5,_,_)],[(.l 2,_),(.l 3,_),(.l 4,_),(.l 5,_),(.o 0,_)],[(.b (.l 2) 1,_),(.b (.l 2) 2,_),(.b (.l 2) 3,_),(.b (.l 2) 4,_),(.b (.l 2) 5,_)],[]⟩) (uAi (⟨sx rfl,sx rfl,sx rfl,sx rfl,trivial⟩) (⟨sx rfl,sx rfl,sx rfl,sx rfl,sx rfl,trivial⟩) (⟨rfl,rfl,rfl,rfl,rfl,trivial⟩)) ?_;refine uBe (.l 2) rfl (fun w1 w2 w3 w4 w5=>?_);refine uAk (s:=⟨[(2,_,_),(3,_,_),(4,_,_),(5,_,_)],[(.l 2,_),(.l 3,_),(.l 4,_),(.l 5,_),(.o 0,_)],[(.b (.l 2) 1,_),(.b (.l 2) 2,_),(.b (.l 2) 3,_),(.b (.l 2) 4,_),(.b (.l 2) 5,_)],[]⟩) (uAi (⟨sx rfl,sx rfl,sx rfl,sx rfl,trivial⟩) (⟨sx rfl,sx rfl,sx rfl,sx rfl,sx rfl,trivial⟩) (⟨rfl,rfl,rfl,rfl,rfl,trivial⟩)) ?_;refine uAd ?_;refine awp_drawn' (by kernel_rfl) ?_;refine uAF rfl rfl rfl rfl rfl rfl rfl gU rfl rfl rfl rfl rfl ?_;refine uAF rfl rfl rfl rfl rfl rfl rfl gU rfl rfl rfl rfl rfl ?_;refine uAZ rfl rfl rfl rfl rfl rfl rfl gU gU (up (uAY l _ _ (by omega) (le3 hl (by first|assumption|(dsimp only; first|assumption|exact hq4 _|exact hq5 _))))) rfl ?_;refine uAR rfl rfl rfl rfl rfl rfl rfl rfl rfl rfl rfl rfl ?_;refine uAR rfl rfl rfl rfl rfl rfl rfl rfl rfl rfl rfl rfl ?_;refine uA5 (by kernel_rfl) ?_;refine uAk (s:=⟨[(2,_,_),(4,_,_),(5,_,_)],[(.l 2,_),(.l 4,_),(.l 5,_),(.o 0,_)],[(.b (.l 2) 1,_),(.b (.l 2) 2,_),(.b (.l 2) 3,_),(.b (.l 2) 4,_),(.b (.l 2) 5,_)],[]⟩) (uAi (⟨sx rfl,sx rfl,sx rfl,trivial⟩) (⟨sx rfl,sx rfl,sx rfl,sx rfl,trivial⟩) (⟨(ak rfl (ak rfl (ak rfl (ak rfl (ak rfl (rfl)))))),(ak rfl (ak rfl (ak rfl (ak rfl (ak rfl (rfl)))))),(ak rfl (ak rfl (ak rfl (ak rfl (ak rfl (rfl)))))),(ak rfl (ak rfl (ak rfl (ak rfl (ak rfl (rfl)))))),(ak rfl (ak rfl (ak rfl (ak rfl (ak rfl (rfl)))))),trivial⟩)) ?_
      refine uBi (.l 4) (.l 2) rfl rfl rfl rfl rfl ?_;refine uAk (s:=⟨[(2,_,_),(4,_,_),(5,_,_)],[(.l 2,_),(.l 4,_),(.l 5,_),(.o 0,_)],[(.b (.l 4) 1,_),(.b (.l 4) 2,_),(.b (.l 4) 3,_),(.b (.l 4) 4,_),(.b (.l 4) 5,_)],[]⟩) (uAi (⟨sx rfl,sx rfl,sx rfl,trivial⟩) (⟨sx rfl,sx rfl,sx rfl,sx rfl,trivial⟩) (⟨rfl,rfl,rfl,rfl,rfl,trivial⟩)) ?_;refine uAp ?_
      repeat(first|refine tR ?_|refine bR ?_)
      refine uBq rfl ?_ ⟨⟨_,rfl,rfl⟩,trivial⟩ (by simp) rfl rfl rfl rfl rfl rfl
      rfl
     ·try simp only [nn,uAj,T.rows_len,Tk.rows_len] at hcu4
      refine uAd (uAb ?_);refine uAa rfl rfl rfl (uAm rfl rfl gU gU rfl) ?_;refine uAa rfl rfl rfl (uAe rfl gU) ?_;refine uAf ?_;refine uAk (s:=⟨[(2,_,_),(3,_,_),(4,_,_),(5,_,_),(6,_,_),(70,_,_)],[(.l 2,_),(.l 3,_),(.l 4,_),(.l 5,_),(.o 0,_)],[(.b (.l 2) 1,_),(.b (.l 2) 2,_),(.b (.l 2) 3,_),(.b (.l 2) 4,_),(.b (.l 2) 5,_)],[]⟩) (uAi (⟨sx rfl,sx rfl,sx rfl,sx rfl,sx rfl,sx rfl,trivial⟩) (⟨sx rfl,sx rfl,sx rfl,sx rfl,sx rfl,trivial⟩) (⟨rfl,rfl,rfl,rfl,rfl,trivial⟩)) ?_;refine uAn rfl (fun hcu5=>?_) (fun hcu5=>?_)
      ·try simp only [nn,uAj,T.rows_len,Tk.rows_len] at hcu5
       subst hcu5
       rw[uCi hk hline (uKV l n (l.getD p.at' tk0).line q)]
       refine uAk (s:=⟨[(2,_,_),(3,_,_),(4,_,_),(5,_,_),(6,_,_)],[(.l 2,_),(.l 3,_),(.l 4,_),(.l 5,_),(.o 0,_)],[(.b (.l 2) 1,_),(.b (.l 2) 2,_),(.b (.l 2) 3,_),(.b (.l 2) 4,_),(.b (.l 2) 5,_)],[]⟩) (uAi (⟨sx rfl,sx rfl,sx rfl,sx rfl,sx rfl,trivial⟩) (⟨sx rfl,sx rfl,sx rfl,sx rfl,sx rfl,trivial⟩) (⟨rfl,rfl,rfl,rfl,rfl,trivial⟩)) ?_;refine uBe (.l 2) rfl (fun w1 w2 w3 w4 w5=>?_);refine uAk (s:=⟨[(2,_,_),(3,_,_),(4,_,_),(5,_,_),(6,_,_)],[(.l 2,_),(.l 3,_),(.l 4,_),(.l 5,_),(.o 0,_)],[(.b (.l 2) 1,_),(.b (.l 2) 2,_),(.b (.l 2) 3,_),(.b (.l 2) 4,_),(.b (.l 2) 5,_)],[]⟩) (uAi (⟨sx rfl,sx rfl,sx rfl,sx rfl,sx rfl,trivial⟩) (⟨sx rfl,sx rfl,sx rfl,sx rfl,sx rfl,trivial⟩) (⟨rfl,rfl,rfl,rfl,rfl,trivial⟩)) ?_;refine uAb ?_;refine uAa rfl rfl rfl (uAl rfl gU rfl rfl rfl rfl rfl) ?_;refine uAa rfl rfl rfl (uAl rfl gU rfl rfl rfl rfl rfl) ?_;refine uAa rfl rfl rfl (uAc rfl gU) ?_;refine uDr (.l 2) (.l 3) osR rfl rfl rfl rfl rfl rfl ⟨rfl,rfl,rfl,rfl,rfl,rfl⟩ ⟨rfl,rfl,rfl,rfl,rfl,rfl⟩ rfl rfl rfl rfl rfl rfl rfl rfl rfl ⟨rfl,rfl⟩ rfl (uEX l q n ((l.getD p.at' tk0).line) w1 w2 w3 w4 w5 hl hq1 (by omega)) rfl rfl rfl rfl rfl rfl rfl rfl ?_;refine uAf ?_;refine uAk (s:=⟨[(2,_,_),(3,_,_),(4,_,_),(5,_,_)],[(.l 2,_),(.l 3,_),(.l 4,_),(.l 5,_),(.o 0,_)],[(.b (.l 2) 1,_),(.b (.l 2) 2,_),(.b (.l 2) 3,_),(.b (.l 2) 4,_),(.b (.l 2) 5,_)],[]⟩) (uAi (⟨sx rfl,sx rfl,sx rfl,sx rfl,trivial⟩) (⟨sx rfl,sx rfl,sx rfl,sx rfl,sx rfl,trivial⟩) (⟨rfl,rfl,rfl,rfl,rfl,trivial⟩)) ?_
       refine uAk (s:=⟨[(2,_,_),(3,_,_),(4,_,_),(5,_,_)],[(.l 2,_),(.l 3,_),(.l 4,_),(.l 5,_),(.o 0,_)],[(.b (.l 2) 1,_),(.b (.l 2) 2,_),(.b (.l 2) 3,_),(.b (.l 2) 4,_),(.b (.l 2) 5,_)],[]⟩) (uAi (⟨sx rfl,sx rfl,sx rfl,sx rfl,trivial⟩) (⟨sx rfl,sx rfl,sx rfl,sx rfl,sx rfl,trivial⟩) (⟨rfl,rfl,rfl,rfl,rfl,trivial⟩)) ?_;refine uBe (.l 2) rfl (fun w1 w2 w3 w4 w5=>?_);refine uAk (s:=⟨[(2,_,_),(3,_,_),(4,_,_),(5,_,_)],[(.l 2,_),(.l 3,_),(.l 4,_),(.l 5,_),(.o 0,_)],[(.b (.l 2) 1,_),(.b (.l 2) 2,_),(.b (.l 2) 3,_),(.b (.l 2) 4,_),(.b (.l 2) 5,_)],[]⟩) (uAi (⟨sx rfl,sx rfl,sx rfl,sx rfl,trivial⟩) (⟨sx rfl,sx rfl,sx rfl,sx rfl,sx rfl,trivial⟩) (⟨rfl,rfl,rfl,rfl,rfl,trivial⟩)) ?_;refine uAd ?_;refine awp_drawn' (by kernel_rfl) ?_;refine uAF rfl rfl rfl rfl rfl rfl rfl gU rfl rfl rfl rfl rfl ?_;refine uAF rfl rfl rfl rfl rfl rfl rfl gU rfl rfl rfl rfl rfl ?_;refine uAZ rfl rfl rfl rfl rfl rfl rfl gU gU (up (uAY l _ _ (by omega) (le3 hl (by first|assumption|(dsimp only; first|assumption|exact hq4 _|exact hq5 _))))) rfl ?_;refine uAR rfl rfl rfl rfl rfl rfl rfl rfl rfl rfl rfl rfl ?_;refine uAR rfl rfl rfl rfl rfl rfl rfl rfl rfl rfl rfl rfl ?_;refine uA5 (by kernel_rfl) ?_;refine uAk (s:=⟨[(2,_,_),(4,_,_),(5,_,_)],[(.l 2,_),(.l 4,_),(.l 5,_),(.o 0,_)],[(.b (.l 2) 1,_),(.b (.l 2) 2,_),(.b (.l 2) 3,_),(.b (.l 2) 4,_),(.b (.l 2) 5,_)],[]⟩) (uAi (⟨sx rfl,sx rfl,sx rfl,trivial⟩) (⟨sx rfl,sx rfl,sx rfl,sx rfl,trivial⟩) (⟨(ak rfl (ak rfl (ak rfl (ak rfl (ak rfl (rfl)))))),(ak rfl (ak rfl (ak rfl (ak rfl (ak rfl (rfl)))))),(ak rfl (ak rfl (ak rfl (ak rfl (ak rfl (rfl)))))),(ak rfl (ak rfl (ak rfl (ak rfl (ak rfl (rfl)))))),(ak rfl (ak rfl (ak rfl (ak rfl (ak rfl (rfl)))))),trivial⟩)) ?_
       refine uBi (.l 4) (.l 2) rfl rfl rfl rfl rfl ?_;refine uAk (s:=⟨[(2,_,_),(4,_,_),(5,_,_)],[(.l 2,_),(.l 4,_),(.l 5,_),(.o 0,_)],[(.b (.l 4) 1,_),(.b (.l 4) 2,_),(.b (.l 4) 3,_),(.b (.l 4) 4,_),(.b (.l 4) 5,_)],[]⟩) (uAi (⟨sx rfl,sx rfl,sx rfl,trivial⟩) (⟨sx rfl,sx rfl,sx rfl,sx rfl,trivial⟩) (⟨rfl,rfl,rfl,rfl,rfl,trivial⟩)) ?_;refine uAp ?_
       repeat(first|refine tR ?_|refine bR ?_)
       refine uBq rfl ?_ ⟨⟨_,rfl,rfl⟩,trivial⟩ (by simp) rfl rfl rfl rfl rfl rfl
       rfl
      ·try simp only [nn,uAj,T.rows_len,Tk.rows_len] at hcu5
       rw[uCi hk hline (uKu l n (l.getD p.at' tk0).line q hcu1 hcu2 hcu3 hcu4 hcu5)]
       refine uAo ?_;refine uAk (s:=⟨[(2,_,_),(3,_,_),(4,_,_),(5,_,_)],[(.l 2,_),(.l 3,_),(.l 4,_),(.l 5,_),(.o 0,_)],[(.b (.l 2) 1,_),(.b (.l 2) 2,_),(.b (.l 2) 3,_),(.b (.l 2) 4,_),(.b (.l 2) 5,_)],[]⟩) (uAi (⟨sx rfl,sx rfl,sx rfl,sx rfl,trivial⟩) (⟨sx rfl,sx rfl,sx rfl,sx rfl,sx rfl,trivial⟩) (⟨rfl,rfl,rfl,rfl,rfl,trivial⟩)) ?_;refine uBe (.l 2) rfl (fun w1 w2 w3 w4 w5=>?_);refine uAk (s:=⟨[(2,_,_),(3,_,_),(4,_,_),(5,_,_)],[(.l 2,_),(.l 3,_),(.l 4,_),(.l 5,_),(.o 0,_)],[(.b (.l 2) 1,_),(.b (.l 2) 2,_),(.b (.l 2) 3,_),(.b (.l 2) 4,_),(.b (.l 2) 5,_)],[]⟩) (uAi (⟨sx rfl,sx rfl,sx rfl,sx rfl,trivial⟩) (⟨sx rfl,sx rfl,sx rfl,sx rfl,sx rfl,trivial⟩) (⟨rfl,rfl,rfl,rfl,rfl,trivial⟩)) ?_;refine uAd ?_;refine awp_drawn' (by kernel_rfl) ?_;refine uAF rfl rfl rfl rfl rfl rfl rfl gU rfl rfl rfl rfl rfl ?_;refine uAF rfl rfl rfl rfl rfl rfl rfl gU rfl rfl rfl rfl rfl ?_;refine uAZ rfl rfl rfl rfl rfl rfl rfl gU gU (up (uAY l _ _ (by omega) (le3 hl (by first|assumption|(dsimp only; first|assumption|exact hq4 _|exact hq5 _))))) rfl ?_;refine uAR rfl rfl rfl rfl rfl rfl rfl rfl rfl rfl rfl rfl ?_;refine uAR rfl rfl rfl rfl rfl rfl rfl rfl rfl rfl rfl rfl ?_;refine uA5 (by kernel_rfl) ?_;refine uAk (s:=⟨[(2,_,_),(4,_,_),(5,_,_)],[(.l 2,_),(.l 4,_),(.l 5,_),(.o 0,_)],[(.b (.l 2) 1,_),(.b (.l 2) 2,_),(.b (.l 2) 3,_),(.b (.l 2) 4,_),(.b (.l 2) 5,_)],[]⟩) (uAi (⟨sx rfl,sx rfl,sx rfl,trivial⟩) (⟨sx rfl,sx rfl,sx rfl,sx rfl,trivial⟩) (⟨(ak rfl (ak rfl (ak rfl (ak rfl (ak rfl (rfl)))))),(ak rfl (ak rfl (ak rfl (ak rfl (ak rfl (rfl)))))),(ak rfl (ak rfl (ak rfl (ak rfl (ak rfl (rfl)))))),(ak rfl (ak rfl (ak rfl (ak rfl (ak rfl (rfl)))))),(ak rfl (ak rfl (ak rfl (ak rfl (ak rfl (rfl)))))),trivial⟩)) ?_
       refine uBi (.l 4) (.l 2) rfl rfl rfl rfl rfl ?_;refine uAk (s:=⟨[(2,_,_),(4,_,_),(5,_,_)],[(.l 2,_),(.l 4,_),(.l 5,_),(.o 0,_)],[(.b (.l 4) 1,_),(.b (.l 4) 2,_),(.b (.l 4) 3,_),(.b (.l 4) 4,_),(.b (.l 4) 5,_)],[]⟩) (uAi (⟨sx rfl,sx rfl,sx rfl,trivial⟩) (⟨sx rfl,sx rfl,sx rfl,sx rfl,trivial⟩) (⟨rfl,rfl,rfl,rfl,rfl,trivial⟩)) ?_;refine uAp ?_
       repeat(first|refine tR ?_|refine bR ?_)
       refine uBq rfl ?_ ⟨⟨_,rfl,rfl⟩,trivial⟩ (by simp) rfl rfl rfl rfl rfl rfl
       rfl
 ·try simp only [nn,uAj,T.rows_len,Tk.rows_len] at hcx
  have hline : uCy l p=0:=by rw[uCy,if_neg (by omega)]
  refine uAo ?_;refine uAd (uAb ?_);refine uAa rfl rfl rfl (uAl rfl gU rfl rfl rfl rfl rfl) ?_;refine uAN (xs:=[_,_,_,_,_,_]) rfl rfl rfl rfl rfl rfl rfl rfl rfl gU rfl ?_;refine uAu rfl rfl rfl rfl rfl rfl gU gU (up hns) rfl ?_;refine uAa rfl rfl rfl (uAc rfl gU) ?_;refine uAa rfl rfl rfl (uAs rfl gU rfl) ?_;refine uAa rfl rfl rfl (uAs rfl gU rfl) ?_;refine uAa rfl rfl rfl (uAe rfl gU) ?_;refine uAq rfl (uAy rfl rfl rfl rfl rfl rfl rfl) ?_;refine uAf ?_;refine uAk (s:=⟨[(2,_,_),(3,_,_),(4,_,_),(5,_,_),(6,_,_),(7,_,_)],[(.l 2,_),(.l 3,_),(.l 4,_),(.l 5,_),(.o 0,_)],[(.b (.l 2) 1,_),(.b (.l 2) 2,_),(.b (.l 2) 3,_),(.b (.l 2) 4,_),(.b (.l 2) 5,_)],[]⟩) (uAi (⟨sx rfl,sx rfl,sx rfl,sx rfl,sx rfl,sx rfl,trivial⟩) (⟨sx rfl,sx rfl,sx rfl,sx rfl,sx rfl,trivial⟩) (⟨rfl,rfl,rfl,rfl,rfl,trivial⟩)) ?_;refine uAd (uAb ?_);refine uAq rfl (uBd (.inr rfl) rfl rfl) ?_;refine uAf ?_;refine uAd ?_;refine uAd (uAb ?_);refine uAa rfl rfl rfl (uAc rfl gU) ?_;refine uAf ?_;refine uAr ?_;refine uAd (uAb ?_);refine uAa rfl rfl rfl (uAm rfl rfl gU gU rfl) ?_;refine uAa rfl rfl rfl (uAe rfl gU) ?_;refine uAf ?_;refine uAn rfl (fun hcv1=>?_) (fun hcv1=>?_)
  ·try simp only [nn,uAj,T.rows_len,Tk.rows_len] at hcv1
   subst hcv1
   rw[uCi hk hline (uJv l n 0 q)]
   refine uAd (uAb ?_);refine uAa rfl rfl rfl (uAl rfl gU rfl rfl rfl rfl rfl) ?_;refine uAu rfl rfl rfl rfl rfl rfl gU gU (up (uCU l q (by omega) hq1)) rfl ?_;refine uAa rfl rfl rfl (uAc rfl gU) ?_;refine uAa rfl rfl rfl (uAs rfl gU rfl) ?_;refine uAa rfl rfl rfl (uAs rfl gU rfl) ?_;refine uAa rfl rfl rfl (uAe rfl gU) ?_;refine uAq rfl (uAy rfl rfl rfl rfl rfl rfl rfl) ?_;refine uAf ?_;refine uAk (s:=⟨[(2,_,_),(3,_,_),(4,_,_),(5,_,_),(8,_,_)],[(.l 2,_),(.l 3,_),(.l 4,_),(.l 5,_),(.o 0,_)],[(.b (.l 2) 1,_),(.b (.l 2) 2,_),(.b (.l 2) 3,_),(.b (.l 2) 4,_),(.b (.l 2) 5,_)],[]⟩) (uAi (⟨sx rfl,sx rfl,sx rfl,sx rfl,sx rfl,trivial⟩) (⟨sx rfl,sx rfl,sx rfl,sx rfl,sx rfl,trivial⟩) (⟨rfl,rfl,rfl,rfl,rfl,trivial⟩)) ?_;refine uAb ?_;refine uAa rfl rfl rfl (uAg rfl gU rfl rfl) ?_;refine uAq rfl (uBw rfl rfl rfl rfl rfl rfl rfl) ?_;refine uAa rfl rfl rfl (uAc rfl gU) ?_;refine uAq rfl (uAX rfl rfl rfl rfl rfl rfl rfl (by first|omega|(simp only [List.length_append,List.length_singleton,uAj]; omega)) (by first|omega|(simp only [List.length_append,List.length_singleton,uAj]; omega))) ?_;refine uAa rfl rfl rfl (uAg rfl gU rfl rfl) ?_;refine uAq rfl (uBv rfl rfl rfl rfl rfl rfl rfl) ?_
   refine uAf ?_;refine uAk (s:=⟨[(2,_,_),(3,_,_),(4,_,_),(5,_,_)],[(.l 2,_),(.l 3,_),(.l 4,_),(.l 5,_),(.o 0,_)],[(.b (.l 2) 1,_),(.b (.l 2) 2,_),(.b (.l 2) 3,_),(.b (.l 2) 4,_),(.b (.l 2) 5,_)],[]⟩) (uAi (⟨sx rfl,sx rfl,sx rfl,sx rfl,trivial⟩) (⟨sx rfl,sx rfl,sx rfl,sx rfl,sx rfl,trivial⟩) (⟨rfl,rfl,rfl,rfl,rfl,trivial⟩)) ?_;refine uAk (s:=⟨[(2,_,_),(3,_,_),(4,_,_),(5,_,_)],[(.l 2,_),(.l 3,_),(.l 4,_),(.l 5,_),(.o 0,_)],[(.b (.l 2) 1,_),(.b (.l 2) 2,_),(.b (.l 2) 3,_),(.b (.l 2) 4,_),(.b (.l 2) 5,_)],[]⟩) (uAi (⟨sx rfl,sx rfl,sx rfl,sx rfl,trivial⟩) (⟨sx rfl,sx rfl,sx rfl,sx rfl,sx rfl,trivial⟩) (⟨rfl,rfl,rfl,rfl,rfl,trivial⟩)) ?_;refine uBe (.l 2) rfl (fun w1 w2 w3 w4 w5=>?_);refine uAk (s:=⟨[(2,_,_),(3,_,_),(4,_,_),(5,_,_)],[(.l 2,_),(.l 3,_),(.l 4,_),(.l 5,_),(.o 0,_)],[(.b (.l 2) 1,_),(.b (.l 2) 2,_),(.b (.l 2) 3,_),(.b (.l 2) 4,_),(.b (.l 2) 5,_)],[]⟩) (uAi (⟨sx rfl,sx rfl,sx rfl,sx rfl,trivial⟩) (⟨sx rfl,sx rfl,sx rfl,sx rfl,sx rfl,trivial⟩) (⟨rfl,rfl,rfl,rfl,rfl,trivial⟩)) ?_;refine uAd ?_;refine awp_drawn' (by kernel_rfl) ?_;refine uAF rfl rfl rfl rfl rfl rfl rfl gU rfl rfl rfl rfl rfl ?_;refine uAF rfl rfl rfl rfl rfl rfl rfl gU rfl rfl rfl rfl rfl ?_
   refine uAZ rfl rfl rfl rfl rfl rfl rfl gU gU (up (uAY l _ _ (by omega) (le3 hl (by first|assumption|(dsimp only; first|assumption|exact hq4 _|exact hq5 _))))) rfl ?_;refine uAR rfl rfl rfl rfl rfl rfl rfl rfl rfl rfl rfl rfl ?_;refine uAR rfl rfl rfl rfl rfl rfl rfl rfl rfl rfl rfl rfl ?_;refine uA5 (by kernel_rfl) ?_;refine uAk (s:=⟨[(2,_,_),(4,_,_),(5,_,_)],[(.l 2,_),(.l 4,_),(.l 5,_),(.o 0,_)],[(.b (.l 2) 1,_),(.b (.l 2) 2,_),(.b (.l 2) 3,_),(.b (.l 2) 4,_),(.b (.l 2) 5,_)],[]⟩) (uAi (⟨sx rfl,sx rfl,sx rfl,trivial⟩) (⟨sx rfl,sx rfl,sx rfl,sx rfl,trivial⟩) (⟨(ak rfl (ak rfl (ak rfl (ak rfl (ak rfl (rfl)))))),(ak rfl (ak rfl (ak rfl (ak rfl (ak rfl (rfl)))))),(ak rfl (ak rfl (ak rfl (ak rfl (ak rfl (rfl)))))),(ak rfl (ak rfl (ak rfl (ak rfl (ak rfl (rfl)))))),(ak rfl (ak rfl (ak rfl (ak rfl (ak rfl (rfl)))))),trivial⟩)) ?_;refine uBi (.l 4) (.l 2) rfl rfl rfl rfl rfl ?_;refine uAk (s:=⟨[(2,_,_),(4,_,_),(5,_,_)],[(.l 2,_),(.l 4,_),(.l 5,_),(.o 0,_)],[(.b (.l 4) 1,_),(.b (.l 4) 2,_),(.b (.l 4) 3,_),(.b (.l 4) 4,_),(.b (.l 4) 5,_)],[]⟩) (uAi (⟨sx rfl,sx rfl,sx rfl,trivial⟩) (⟨sx rfl,sx rfl,sx rfl,sx rfl,trivial⟩) (⟨rfl,rfl,rfl,rfl,rfl,trivial⟩)) ?_;refine uAp ?_
   repeat(first|refine tR ?_|refine bR ?_)
   refine uBq rfl ?_ ⟨⟨_,rfl,rfl⟩,trivial⟩ (by simp) rfl rfl rfl rfl rfl rfl;exact congrArg (fun z=>X.tup [.agg (narC n.name z (Fs.rows n.fresh) (strR n.tags) (Sp.rows n.steps) (Gl.rows n.goals)), .agg (pbx l (uAQ l [59] (uBu l q).2))]) (uEq _ _).symm
  ·try simp only [nn,uAj,T.rows_len,Tk.rows_len] at hcv1
   refine uAd (uAb ?_);refine uAa rfl rfl rfl (uAm rfl rfl gU gU rfl) ?_;refine uAa rfl rfl rfl (uAe rfl gU) ?_;refine uAf ?_;refine uAk (s:=⟨[(2,_,_),(3,_,_),(4,_,_),(5,_,_),(6,_,_),(28,_,_),(41,_,_)],[(.l 2,_),(.l 3,_),(.l 4,_),(.l 5,_),(.o 0,_)],[(.b (.l 2) 1,_),(.b (.l 2) 2,_),(.b (.l 2) 3,_),(.b (.l 2) 4,_),(.b (.l 2) 5,_)],[]⟩) (uAi (⟨sx rfl,sx rfl,sx rfl,sx rfl,sx rfl,sx rfl,sx rfl,trivial⟩) (⟨sx rfl,sx rfl,sx rfl,sx rfl,sx rfl,trivial⟩) (⟨rfl,rfl,rfl,rfl,rfl,trivial⟩)) ?_;refine uAn rfl (fun hcv2=>?_) (fun hcv2=>?_)
   ·try simp only [nn,uAj,T.rows_len,Tk.rows_len] at hcv2
    subst hcv2
    rw[uCi hk hline (uJy l n 0 q)]
    refine uAk (s:=⟨[(2,_,_),(3,_,_),(4,_,_),(5,_,_)],[(.l 2,_),(.l 3,_),(.l 4,_),(.l 5,_),(.o 0,_)],[(.b (.l 2) 1,_),(.b (.l 2) 2,_),(.b (.l 2) 3,_),(.b (.l 2) 4,_),(.b (.l 2) 5,_)],[]⟩) (uAi (⟨sx rfl,sx rfl,sx rfl,sx rfl,trivial⟩) (⟨sx rfl,sx rfl,sx rfl,sx rfl,sx rfl,trivial⟩) (⟨rfl,rfl,rfl,rfl,rfl,trivial⟩)) ?_;refine uBe (.l 2) rfl (fun w1 w2 w3 w4 w5=>?_);refine uAk (s:=⟨[(2,_,_),(3,_,_),(4,_,_),(5,_,_)],[(.l 2,_),(.l 3,_),(.l 4,_),(.l 5,_),(.o 0,_)],[(.b (.l 2) 1,_),(.b (.l 2) 2,_),(.b (.l 2) 3,_),(.b (.l 2) 4,_),(.b (.l 2) 5,_)],[]⟩) (uAi (⟨sx rfl,sx rfl,sx rfl,sx rfl,trivial⟩) (⟨sx rfl,sx rfl,sx rfl,sx rfl,sx rfl,trivial⟩) (⟨rfl,rfl,rfl,rfl,rfl,trivial⟩)) ?_;refine uAb ?_;refine uAa rfl rfl rfl (uAl rfl gU rfl rfl rfl rfl rfl) ?_;refine uAa rfl rfl rfl (uAl rfl gU rfl rfl rfl rfl rfl) ?_;refine uDr (.l 2) (.l 3) osR rfl rfl rfl rfl rfl rfl ⟨rfl,rfl,rfl,rfl,rfl,rfl⟩ ⟨rfl,rfl,rfl,rfl,rfl,rfl⟩ rfl rfl rfl rfl rfl rfl rfl rfl rfl ⟨rfl,rfl⟩ rfl (uEr l q n w1 w2 w3 w4 w5 hl hq1 (by omega)) rfl rfl rfl rfl rfl rfl rfl rfl ?_;refine uAf ?_;refine uAk (s:=⟨[(2,_,_),(3,_,_),(4,_,_),(5,_,_)],[(.l 2,_),(.l 3,_),(.l 4,_),(.l 5,_),(.o 0,_)],[(.b (.l 2) 1,_),(.b (.l 2) 2,_),(.b (.l 2) 3,_),(.b (.l 2) 4,_),(.b (.l 2) 5,_)],[]⟩) (uAi (⟨sx rfl,sx rfl,sx rfl,sx rfl,trivial⟩) (⟨sx rfl,sx rfl,sx rfl,sx rfl,sx rfl,trivial⟩) (⟨rfl,rfl,rfl,rfl,rfl,trivial⟩)) ?_
    refine uAk (s:=⟨[(2,_,_),(3,_,_),(4,_,_),(5,_,_)],[(.l 2,_),(.l 3,_),(.l 4,_),(.l 5,_),(.o 0,_)],[(.b (.l 2) 1,_),(.b (.l 2) 2,_),(.b (.l 2) 3,_),(.b (.l 2) 4,_),(.b (.l 2) 5,_)],[]⟩) (uAi (⟨sx rfl,sx rfl,sx rfl,sx rfl,trivial⟩) (⟨sx rfl,sx rfl,sx rfl,sx rfl,sx rfl,trivial⟩) (⟨rfl,rfl,rfl,rfl,rfl,trivial⟩)) ?_;refine uBe (.l 2) rfl (fun w1 w2 w3 w4 w5=>?_);refine uAk (s:=⟨[(2,_,_),(3,_,_),(4,_,_),(5,_,_)],[(.l 2,_),(.l 3,_),(.l 4,_),(.l 5,_),(.o 0,_)],[(.b (.l 2) 1,_),(.b (.l 2) 2,_),(.b (.l 2) 3,_),(.b (.l 2) 4,_),(.b (.l 2) 5,_)],[]⟩) (uAi (⟨sx rfl,sx rfl,sx rfl,sx rfl,trivial⟩) (⟨sx rfl,sx rfl,sx rfl,sx rfl,sx rfl,trivial⟩) (⟨rfl,rfl,rfl,rfl,rfl,trivial⟩)) ?_;refine uAd ?_;refine awp_drawn' (by kernel_rfl) ?_;refine uAF rfl rfl rfl rfl rfl rfl rfl gU rfl rfl rfl rfl rfl ?_;refine uAF rfl rfl rfl rfl rfl rfl rfl gU rfl rfl rfl rfl rfl ?_;refine uAZ rfl rfl rfl rfl rfl rfl rfl gU gU (up (uAY l _ _ (by omega) (le3 hl (by first|assumption|(dsimp only; first|assumption|exact hq4 _|exact hq5 _))))) rfl ?_;refine uAR rfl rfl rfl rfl rfl rfl rfl rfl rfl rfl rfl rfl ?_;refine uAR rfl rfl rfl rfl rfl rfl rfl rfl rfl rfl rfl rfl ?_;refine uA5 (by kernel_rfl) ?_;refine uAk (s:=⟨[(2,_,_),(4,_,_),(5,_,_)],[(.l 2,_),(.l 4,_),(.l 5,_),(.o 0,_)],[(.b (.l 2) 1,_),(.b (.l 2) 2,_),(.b (.l 2) 3,_),(.b (.l 2) 4,_),(.b (.l 2) 5,_)],[]⟩) (uAi (⟨sx rfl,sx rfl,sx rfl,trivial⟩) (⟨sx rfl,sx rfl,sx rfl,sx rfl,trivial⟩) (⟨(ak rfl (ak rfl (ak rfl (ak rfl (ak rfl (rfl)))))),(ak rfl (ak rfl (ak rfl (ak rfl (ak rfl (rfl)))))),(ak rfl (ak rfl (ak rfl (ak rfl (ak rfl (rfl)))))),(ak rfl (ak rfl (ak rfl (ak rfl (ak rfl (rfl)))))),(ak rfl (ak rfl (ak rfl (ak rfl (ak rfl (rfl)))))),trivial⟩)) ?_
    refine uBi (.l 4) (.l 2) rfl rfl rfl rfl rfl ?_;refine uAk (s:=⟨[(2,_,_),(4,_,_),(5,_,_)],[(.l 2,_),(.l 4,_),(.l 5,_),(.o 0,_)],[(.b (.l 4) 1,_),(.b (.l 4) 2,_),(.b (.l 4) 3,_),(.b (.l 4) 4,_),(.b (.l 4) 5,_)],[]⟩) (uAi (⟨sx rfl,sx rfl,sx rfl,trivial⟩) (⟨sx rfl,sx rfl,sx rfl,sx rfl,trivial⟩) (⟨rfl,rfl,rfl,rfl,rfl,trivial⟩)) ?_;refine uAp ?_
    repeat(first|refine tR ?_|refine bR ?_)
    refine uBq rfl ?_ ⟨⟨_,rfl,rfl⟩,trivial⟩ (by simp) rfl rfl rfl rfl rfl rfl
    rfl
   ·try simp only [nn,uAj,T.rows_len,Tk.rows_len] at hcv2
    refine uAd (uAb ?_);refine uAa rfl rfl rfl (uAm rfl rfl gU gU rfl) ?_;refine uAa rfl rfl rfl (uAe rfl gU) ?_;refine uAf ?_;refine uAn rfl (fun hcv3=>?_) (fun hcv3=>?_)
    ·try simp only [nn,uAj,T.rows_len,Tk.rows_len] at hcv3
     subst hcv3
     rw[uCi hk hline (uKD l n 0 q)]
     refine uAd (uAb ?_);refine uAa rfl rfl rfl (uAl rfl gU rfl rfl rfl rfl rfl) ?_;refine uAu rfl rfl rfl rfl rfl rfl gU gU (up (uCU l q (by omega) hq1)) rfl ?_;refine uAa rfl rfl rfl (uAc rfl gU) ?_;refine uAa rfl rfl rfl (uAs rfl gU rfl) ?_;refine uAa rfl rfl rfl (uAs rfl gU rfl) ?_;refine uAa rfl rfl rfl (uAe rfl gU) ?_;refine uAq rfl (uAy rfl rfl rfl rfl rfl rfl rfl) ?_;refine uAf ?_;refine uAk (s:=⟨[(2,_,_),(3,_,_),(4,_,_),(5,_,_),(8,_,_)],[(.l 2,_),(.l 3,_),(.l 4,_),(.l 5,_),(.o 0,_)],[(.b (.l 2) 1,_),(.b (.l 2) 2,_),(.b (.l 2) 3,_),(.b (.l 2) 4,_),(.b (.l 2) 5,_)],[]⟩) (uAi (⟨sx rfl,sx rfl,sx rfl,sx rfl,sx rfl,trivial⟩) (⟨sx rfl,sx rfl,sx rfl,sx rfl,sx rfl,trivial⟩) (⟨rfl,rfl,rfl,rfl,rfl,trivial⟩)) ?_;refine uAb ?_;refine uAa rfl rfl rfl (uAg rfl gU rfl rfl) ?_;refine uAq rfl (uBw rfl rfl rfl rfl rfl rfl rfl) ?_;refine uAa rfl rfl rfl (uAc rfl gU) ?_;refine uAq rfl (uAX rfl rfl rfl rfl rfl rfl rfl (by first|omega|(simp only [List.length_append,List.length_singleton,uAj]; omega)) (by first|omega|(simp only [List.length_append,List.length_singleton,uAj]; omega))) ?_;refine uAa rfl rfl rfl (uAg rfl gU rfl rfl) ?_;refine uAq rfl (uBv rfl rfl rfl rfl rfl rfl rfl) ?_
     refine uAf ?_;refine uAk (s:=⟨[(2,_,_),(3,_,_),(4,_,_),(5,_,_)],[(.l 2,_),(.l 3,_),(.l 4,_),(.l 5,_),(.o 0,_)],[(.b (.l 2) 1,_),(.b (.l 2) 2,_),(.b (.l 2) 3,_),(.b (.l 2) 4,_),(.b (.l 2) 5,_)],[]⟩) (uAi (⟨sx rfl,sx rfl,sx rfl,sx rfl,trivial⟩) (⟨sx rfl,sx rfl,sx rfl,sx rfl,sx rfl,trivial⟩) (⟨rfl,rfl,rfl,rfl,rfl,trivial⟩)) ?_;refine uAk (s:=⟨[(2,_,_),(3,_,_),(4,_,_),(5,_,_)],[(.l 2,_),(.l 3,_),(.l 4,_),(.l 5,_),(.o 0,_)],[(.b (.l 2) 1,_),(.b (.l 2) 2,_),(.b (.l 2) 3,_),(.b (.l 2) 4,_),(.b (.l 2) 5,_)],[]⟩) (uAi (⟨sx rfl,sx rfl,sx rfl,sx rfl,trivial⟩) (⟨sx rfl,sx rfl,sx rfl,sx rfl,sx rfl,trivial⟩) (⟨rfl,rfl,rfl,rfl,rfl,trivial⟩)) ?_;refine uBe (.l 2) rfl (fun w1 w2 w3 w4 w5=>?_);refine uAk (s:=⟨[(2,_,_),(3,_,_),(4,_,_),(5,_,_)],[(.l 2,_),(.l 3,_),(.l 4,_),(.l 5,_),(.o 0,_)],[(.b (.l 2) 1,_),(.b (.l 2) 2,_),(.b (.l 2) 3,_),(.b (.l 2) 4,_),(.b (.l 2) 5,_)],[]⟩) (uAi (⟨sx rfl,sx rfl,sx rfl,sx rfl,trivial⟩) (⟨sx rfl,sx rfl,sx rfl,sx rfl,sx rfl,trivial⟩) (⟨rfl,rfl,rfl,rfl,rfl,trivial⟩)) ?_;refine uAd ?_;refine awp_drawn' (by kernel_rfl) ?_;refine uAF rfl rfl rfl rfl rfl rfl rfl gU rfl rfl rfl rfl rfl ?_;refine uAF rfl rfl rfl rfl rfl rfl rfl gU rfl rfl rfl rfl rfl ?_
     refine uAZ rfl rfl rfl rfl rfl rfl rfl gU gU (up (uAY l _ _ (by omega) (le3 hl (by first|assumption|(dsimp only; first|assumption|exact hq4 _|exact hq5 _))))) rfl ?_;refine uAR rfl rfl rfl rfl rfl rfl rfl rfl rfl rfl rfl rfl ?_;refine uAR rfl rfl rfl rfl rfl rfl rfl rfl rfl rfl rfl rfl ?_;refine uA5 (by kernel_rfl) ?_;refine uAk (s:=⟨[(2,_,_),(4,_,_),(5,_,_)],[(.l 2,_),(.l 4,_),(.l 5,_),(.o 0,_)],[(.b (.l 2) 1,_),(.b (.l 2) 2,_),(.b (.l 2) 3,_),(.b (.l 2) 4,_),(.b (.l 2) 5,_)],[]⟩) (uAi (⟨sx rfl,sx rfl,sx rfl,trivial⟩) (⟨sx rfl,sx rfl,sx rfl,sx rfl,trivial⟩) (⟨(ak rfl (ak rfl (ak rfl (ak rfl (ak rfl (rfl)))))),(ak rfl (ak rfl (ak rfl (ak rfl (ak rfl (rfl)))))),(ak rfl (ak rfl (ak rfl (ak rfl (ak rfl (rfl)))))),(ak rfl (ak rfl (ak rfl (ak rfl (ak rfl (rfl)))))),(ak rfl (ak rfl (ak rfl (ak rfl (ak rfl (rfl)))))),trivial⟩)) ?_;refine uBi (.l 4) (.l 2) rfl rfl rfl rfl rfl ?_;refine uAk (s:=⟨[(2,_,_),(4,_,_),(5,_,_)],[(.l 2,_),(.l 4,_),(.l 5,_),(.o 0,_)],[(.b (.l 4) 1,_),(.b (.l 4) 2,_),(.b (.l 4) 3,_),(.b (.l 4) 4,_),(.b (.l 4) 5,_)],[]⟩) (uAi (⟨sx rfl,sx rfl,sx rfl,trivial⟩) (⟨sx rfl,sx rfl,sx rfl,sx rfl,trivial⟩) (⟨rfl,rfl,rfl,rfl,rfl,trivial⟩)) ?_;refine uAp ?_
     repeat(first|refine tR ?_|refine bR ?_)
     refine uBq rfl ?_ ⟨⟨_,rfl,rfl⟩,trivial⟩ (by simp) rfl rfl rfl rfl rfl rfl;exact congrArg (fun z=>X.tup [.agg (narC n.name (strR n.roles) (Fs.rows n.fresh) z (Sp.rows n.steps) (Gl.rows n.goals)), .agg (pbx l (uAQ l [59] (uBu l q).2))]) (uEq _ _).symm
    ·try simp only [nn,uAj,T.rows_len,Tk.rows_len] at hcv3
     refine uAd (uAb ?_);refine uAa rfl rfl rfl (uAm rfl rfl gU gU rfl) ?_;refine uAa rfl rfl rfl (uAe rfl gU) ?_;refine uAf ?_;refine uAn rfl (fun hcv4=>?_) (fun hcv4=>?_)
     ·try simp only [nn,uAj,T.rows_len,Tk.rows_len] at hcv4
      subst hcv4
      rw[uCi hk hline (uKg l n 0 q)]
      refine uAk (s:=⟨[(2,_,_),(3,_,_),(4,_,_),(5,_,_),(6,_,_)],[(.l 2,_),(.l 3,_),(.l 4,_),(.l 5,_),(.o 0,_)],[(.b (.l 2) 1,_),(.b (.l 2) 2,_),(.b (.l 2) 3,_),(.b (.l 2) 4,_),(.b (.l 2) 5,_)],[]⟩) (uAi (⟨sx rfl,sx rfl,sx rfl,sx rfl,sx rfl,trivial⟩) (⟨sx rfl,sx rfl,sx rfl,sx rfl,sx rfl,trivial⟩) (⟨rfl,rfl,rfl,rfl,rfl,trivial⟩)) ?_;refine uBe (.l 2) rfl (fun w1 w2 w3 w4 w5=>?_);refine uAk (s:=⟨[(2,_,_),(3,_,_),(4,_,_),(5,_,_),(6,_,_)],[(.l 2,_),(.l 3,_),(.l 4,_),(.l 5,_),(.o 0,_)],[(.b (.l 2) 1,_),(.b (.l 2) 2,_),(.b (.l 2) 3,_),(.b (.l 2) 4,_),(.b (.l 2) 5,_)],[]⟩) (uAi (⟨sx rfl,sx rfl,sx rfl,sx rfl,sx rfl,trivial⟩) (⟨sx rfl,sx rfl,sx rfl,sx rfl,sx rfl,trivial⟩) (⟨rfl,rfl,rfl,rfl,rfl,trivial⟩)) ?_;refine uAb ?_;refine uAa rfl rfl rfl (uAl rfl gU rfl rfl rfl rfl rfl) ?_;refine uAa rfl rfl rfl (uAl rfl gU rfl rfl rfl rfl rfl) ?_;refine uAa rfl rfl rfl (uAc rfl gU) ?_;refine uDr (.l 2) (.l 3) osR rfl rfl rfl rfl rfl rfl ⟨rfl,rfl,rfl,rfl,rfl,rfl⟩ ⟨rfl,rfl,rfl,rfl,rfl,rfl⟩ rfl rfl rfl rfl rfl rfl rfl rfl rfl ⟨rfl,rfl⟩ rfl (uEU l q n (0) w1 w2 w3 w4 w5 hl hq1 (by omega)) rfl rfl rfl rfl rfl rfl rfl rfl ?_;refine uAf ?_;refine uAk (s:=⟨[(2,_,_),(3,_,_),(4,_,_),(5,_,_)],[(.l 2,_),(.l 3,_),(.l 4,_),(.l 5,_),(.o 0,_)],[(.b (.l 2) 1,_),(.b (.l 2) 2,_),(.b (.l 2) 3,_),(.b (.l 2) 4,_),(.b (.l 2) 5,_)],[]⟩) (uAi (⟨sx rfl,sx rfl,sx rfl,sx rfl,trivial⟩) (⟨sx rfl,sx rfl,sx rfl,sx rfl,sx rfl,trivial⟩) (⟨rfl,rfl,rfl,rfl,rfl,trivial⟩)) ?_
      refine uAk (s:=⟨[(2,_,_),(3,_,_),(4,_,_),(5,_,_)],[(.l 2,_),(.l 3,_),(.l 4,_),(.l 5,_),(.o 0,_)],[(.b (.l 2) 1,_),(.b (.l 2) 2,_),(.b (.l 2) 3,_),(.b (.l 2) 4,_),(.b (.l 2) 5,_)],[]⟩) (uAi (⟨sx rfl,sx rfl,sx rfl,sx rfl,trivial⟩) (⟨sx rfl,sx rfl,sx rfl,sx rfl,sx rfl,trivial⟩) (⟨rfl,rfl,rfl,rfl,rfl,trivial⟩)) ?_;refine uBe (.l 2) rfl (fun w1 w2 w3 w4 w5=>?_);refine uAk (s:=⟨[(2,_,_),(3,_,_),(4,_,_),(5,_,_)],[(.l 2,_),(.l 3,_),(.l 4,_),(.l 5,_),(.o 0,_)],[(.b (.l 2) 1,_),(.b (.l 2) 2,_),(.b (.l 2) 3,_),(.b (.l 2) 4,_),(.b (.l 2) 5,_)],[]⟩) (uAi (⟨sx rfl,sx rfl,sx rfl,sx rfl,trivial⟩) (⟨sx rfl,sx rfl,sx rfl,sx rfl,sx rfl,trivial⟩) (⟨rfl,rfl,rfl,rfl,rfl,trivial⟩)) ?_;refine uAd ?_;refine awp_drawn' (by kernel_rfl) ?_;refine uAF rfl rfl rfl rfl rfl rfl rfl gU rfl rfl rfl rfl rfl ?_;refine uAF rfl rfl rfl rfl rfl rfl rfl gU rfl rfl rfl rfl rfl ?_;refine uAZ rfl rfl rfl rfl rfl rfl rfl gU gU (up (uAY l _ _ (by omega) (le3 hl (by first|assumption|(dsimp only; first|assumption|exact hq4 _|exact hq5 _))))) rfl ?_;refine uAR rfl rfl rfl rfl rfl rfl rfl rfl rfl rfl rfl rfl ?_;refine uAR rfl rfl rfl rfl rfl rfl rfl rfl rfl rfl rfl rfl ?_;refine uA5 (by kernel_rfl) ?_;refine uAk (s:=⟨[(2,_,_),(4,_,_),(5,_,_)],[(.l 2,_),(.l 4,_),(.l 5,_),(.o 0,_)],[(.b (.l 2) 1,_),(.b (.l 2) 2,_),(.b (.l 2) 3,_),(.b (.l 2) 4,_),(.b (.l 2) 5,_)],[]⟩) (uAi (⟨sx rfl,sx rfl,sx rfl,trivial⟩) (⟨sx rfl,sx rfl,sx rfl,sx rfl,trivial⟩) (⟨(ak rfl (ak rfl (ak rfl (ak rfl (ak rfl (rfl)))))),(ak rfl (ak rfl (ak rfl (ak rfl (ak rfl (rfl)))))),(ak rfl (ak rfl (ak rfl (ak rfl (ak rfl (rfl)))))),(ak rfl (ak rfl (ak rfl (ak rfl (ak rfl (rfl)))))),(ak rfl (ak rfl (ak rfl (ak rfl (ak rfl (rfl)))))),trivial⟩)) ?_
      refine uBi (.l 4) (.l 2) rfl rfl rfl rfl rfl ?_;refine uAk (s:=⟨[(2,_,_),(4,_,_),(5,_,_)],[(.l 2,_),(.l 4,_),(.l 5,_),(.o 0,_)],[(.b (.l 4) 1,_),(.b (.l 4) 2,_),(.b (.l 4) 3,_),(.b (.l 4) 4,_),(.b (.l 4) 5,_)],[]⟩) (uAi (⟨sx rfl,sx rfl,sx rfl,trivial⟩) (⟨sx rfl,sx rfl,sx rfl,sx rfl,trivial⟩) (⟨rfl,rfl,rfl,rfl,rfl,trivial⟩)) ?_;refine uAp ?_
      repeat(first|refine tR ?_|refine bR ?_)
      refine uBq rfl ?_ ⟨⟨_,rfl,rfl⟩,trivial⟩ (by simp) rfl rfl rfl rfl rfl rfl
      rfl
     ·try simp only [nn,uAj,T.rows_len,Tk.rows_len] at hcv4
      refine uAd (uAb ?_);refine uAa rfl rfl rfl (uAm rfl rfl gU gU rfl) ?_;refine uAa rfl rfl rfl (uAe rfl gU) ?_;refine uAf ?_;refine uAk (s:=⟨[(2,_,_),(3,_,_),(4,_,_),(5,_,_),(6,_,_),(70,_,_)],[(.l 2,_),(.l 3,_),(.l 4,_),(.l 5,_),(.o 0,_)],[(.b (.l 2) 1,_),(.b (.l 2) 2,_),(.b (.l 2) 3,_),(.b (.l 2) 4,_),(.b (.l 2) 5,_)],[]⟩) (uAi (⟨sx rfl,sx rfl,sx rfl,sx rfl,sx rfl,sx rfl,trivial⟩) (⟨sx rfl,sx rfl,sx rfl,sx rfl,sx rfl,trivial⟩) (⟨rfl,rfl,rfl,rfl,rfl,trivial⟩)) ?_;refine uAn rfl (fun hcv5=>?_) (fun hcv5=>?_)
      ·try simp only [nn,uAj,T.rows_len,Tk.rows_len] at hcv5
       subst hcv5
       rw[uCi hk hline (uKV l n 0 q)]
       refine uAk (s:=⟨[(2,_,_),(3,_,_),(4,_,_),(5,_,_),(6,_,_)],[(.l 2,_),(.l 3,_),(.l 4,_),(.l 5,_),(.o 0,_)],[(.b (.l 2) 1,_),(.b (.l 2) 2,_),(.b (.l 2) 3,_),(.b (.l 2) 4,_),(.b (.l 2) 5,_)],[]⟩) (uAi (⟨sx rfl,sx rfl,sx rfl,sx rfl,sx rfl,trivial⟩) (⟨sx rfl,sx rfl,sx rfl,sx rfl,sx rfl,trivial⟩) (⟨rfl,rfl,rfl,rfl,rfl,trivial⟩)) ?_;refine uBe (.l 2) rfl (fun w1 w2 w3 w4 w5=>?_);refine uAk (s:=⟨[(2,_,_),(3,_,_),(4,_,_),(5,_,_),(6,_,_)],[(.l 2,_),(.l 3,_),(.l 4,_),(.l 5,_),(.o 0,_)],[(.b (.l 2) 1,_),(.b (.l 2) 2,_),(.b (.l 2) 3,_),(.b (.l 2) 4,_),(.b (.l 2) 5,_)],[]⟩) (uAi (⟨sx rfl,sx rfl,sx rfl,sx rfl,sx rfl,trivial⟩) (⟨sx rfl,sx rfl,sx rfl,sx rfl,sx rfl,trivial⟩) (⟨rfl,rfl,rfl,rfl,rfl,trivial⟩)) ?_;refine uAb ?_;refine uAa rfl rfl rfl (uAl rfl gU rfl rfl rfl rfl rfl) ?_;refine uAa rfl rfl rfl (uAl rfl gU rfl rfl rfl rfl rfl) ?_;refine uAa rfl rfl rfl (uAc rfl gU) ?_;refine uDr (.l 2) (.l 3) osR rfl rfl rfl rfl rfl rfl ⟨rfl,rfl,rfl,rfl,rfl,rfl⟩ ⟨rfl,rfl,rfl,rfl,rfl,rfl⟩ rfl rfl rfl rfl rfl rfl rfl rfl rfl ⟨rfl,rfl⟩ rfl (uEX l q n (0) w1 w2 w3 w4 w5 hl hq1 (by omega)) rfl rfl rfl rfl rfl rfl rfl rfl ?_;refine uAf ?_;refine uAk (s:=⟨[(2,_,_),(3,_,_),(4,_,_),(5,_,_)],[(.l 2,_),(.l 3,_),(.l 4,_),(.l 5,_),(.o 0,_)],[(.b (.l 2) 1,_),(.b (.l 2) 2,_),(.b (.l 2) 3,_),(.b (.l 2) 4,_),(.b (.l 2) 5,_)],[]⟩) (uAi (⟨sx rfl,sx rfl,sx rfl,sx rfl,trivial⟩) (⟨sx rfl,sx rfl,sx rfl,sx rfl,sx rfl,trivial⟩) (⟨rfl,rfl,rfl,rfl,rfl,trivial⟩)) ?_
       refine uAk (s:=⟨[(2,_,_),(3,_,_),(4,_,_),(5,_,_)],[(.l 2,_),(.l 3,_),(.l 4,_),(.l 5,_),(.o 0,_)],[(.b (.l 2) 1,_),(.b (.l 2) 2,_),(.b (.l 2) 3,_),(.b (.l 2) 4,_),(.b (.l 2) 5,_)],[]⟩) (uAi (⟨sx rfl,sx rfl,sx rfl,sx rfl,trivial⟩) (⟨sx rfl,sx rfl,sx rfl,sx rfl,sx rfl,trivial⟩) (⟨rfl,rfl,rfl,rfl,rfl,trivial⟩)) ?_;refine uBe (.l 2) rfl (fun w1 w2 w3 w4 w5=>?_);refine uAk (s:=⟨[(2,_,_),(3,_,_),(4,_,_),(5,_,_)],[(.l 2,_),(.l 3,_),(.l 4,_),(.l 5,_),(.o 0,_)],[(.b (.l 2) 1,_),(.b (.l 2) 2,_),(.b (.l 2) 3,_),(.b (.l 2) 4,_),(.b (.l 2) 5,_)],[]⟩) (uAi (⟨sx rfl,sx rfl,sx rfl,sx rfl,trivial⟩) (⟨sx rfl,sx rfl,sx rfl,sx rfl,sx rfl,trivial⟩) (⟨rfl,rfl,rfl,rfl,rfl,trivial⟩)) ?_;refine uAd ?_;refine awp_drawn' (by kernel_rfl) ?_;refine uAF rfl rfl rfl rfl rfl rfl rfl gU rfl rfl rfl rfl rfl ?_;refine uAF rfl rfl rfl rfl rfl rfl rfl gU rfl rfl rfl rfl rfl ?_;refine uAZ rfl rfl rfl rfl rfl rfl rfl gU gU (up (uAY l _ _ (by omega) (le3 hl (by first|assumption|(dsimp only; first|assumption|exact hq4 _|exact hq5 _))))) rfl ?_;refine uAR rfl rfl rfl rfl rfl rfl rfl rfl rfl rfl rfl rfl ?_;refine uAR rfl rfl rfl rfl rfl rfl rfl rfl rfl rfl rfl rfl ?_;refine uA5 (by kernel_rfl) ?_;refine uAk (s:=⟨[(2,_,_),(4,_,_),(5,_,_)],[(.l 2,_),(.l 4,_),(.l 5,_),(.o 0,_)],[(.b (.l 2) 1,_),(.b (.l 2) 2,_),(.b (.l 2) 3,_),(.b (.l 2) 4,_),(.b (.l 2) 5,_)],[]⟩) (uAi (⟨sx rfl,sx rfl,sx rfl,trivial⟩) (⟨sx rfl,sx rfl,sx rfl,sx rfl,trivial⟩) (⟨(ak rfl (ak rfl (ak rfl (ak rfl (ak rfl (rfl)))))),(ak rfl (ak rfl (ak rfl (ak rfl (ak rfl (rfl)))))),(ak rfl (ak rfl (ak rfl (ak rfl (ak rfl (rfl)))))),(ak rfl (ak rfl (ak rfl (ak rfl (ak rfl (rfl)))))),(ak rfl (ak rfl (ak rfl (ak rfl (ak rfl (rfl)))))),trivial⟩)) ?_
       refine uBi (.l 4) (.l 2) rfl rfl rfl rfl rfl ?_;refine uAk (s:=⟨[(2,_,_),(4,_,_),(5,_,_)],[(.l 2,_),(.l 4,_),(.l 5,_),(.o 0,_)],[(.b (.l 4) 1,_),(.b (.l 4) 2,_),(.b (.l 4) 3,_),(.b (.l 4) 4,_),(.b (.l 4) 5,_)],[]⟩) (uAi (⟨sx rfl,sx rfl,sx rfl,trivial⟩) (⟨sx rfl,sx rfl,sx rfl,sx rfl,trivial⟩) (⟨rfl,rfl,rfl,rfl,rfl,trivial⟩)) ?_;refine uAp ?_
       repeat(first|refine tR ?_|refine bR ?_)
       refine uBq rfl ?_ ⟨⟨_,rfl,rfl⟩,trivial⟩ (by simp) rfl rfl rfl rfl rfl rfl
       rfl
      ·try simp only [nn,uAj,T.rows_len,Tk.rows_len] at hcv5
       rw[uCi hk hline (uKu l n 0 q hcv1 hcv2 hcv3 hcv4 hcv5)]
       refine uAo ?_;refine uAk (s:=⟨[(2,_,_),(3,_,_),(4,_,_),(5,_,_)],[(.l 2,_),(.l 3,_),(.l 4,_),(.l 5,_),(.o 0,_)],[(.b (.l 2) 1,_),(.b (.l 2) 2,_),(.b (.l 2) 3,_),(.b (.l 2) 4,_),(.b (.l 2) 5,_)],[]⟩) (uAi (⟨sx rfl,sx rfl,sx rfl,sx rfl,trivial⟩) (⟨sx rfl,sx rfl,sx rfl,sx rfl,sx rfl,trivial⟩) (⟨rfl,rfl,rfl,rfl,rfl,trivial⟩)) ?_;refine uBe (.l 2) rfl (fun w1 w2 w3 w4 w5=>?_);refine uAk (s:=⟨[(2,_,_),(3,_,_),(4,_,_),(5,_,_)],[(.l 2,_),(.l 3,_),(.l 4,_),(.l 5,_),(.o 0,_)],[(.b (.l 2) 1,_),(.b (.l 2) 2,_),(.b (.l 2) 3,_),(.b (.l 2) 4,_),(.b (.l 2) 5,_)],[]⟩) (uAi (⟨sx rfl,sx rfl,sx rfl,sx rfl,trivial⟩) (⟨sx rfl,sx rfl,sx rfl,sx rfl,sx rfl,trivial⟩) (⟨rfl,rfl,rfl,rfl,rfl,trivial⟩)) ?_;refine uAd ?_;refine awp_drawn' (by kernel_rfl) ?_;refine uAF rfl rfl rfl rfl rfl rfl rfl gU rfl rfl rfl rfl rfl ?_;refine uAF rfl rfl rfl rfl rfl rfl rfl gU rfl rfl rfl rfl rfl ?_;refine uAZ rfl rfl rfl rfl rfl rfl rfl gU gU (up (uAY l _ _ (by omega) (le3 hl (by first|assumption|(dsimp only; first|assumption|exact hq4 _|exact hq5 _))))) rfl ?_;refine uAR rfl rfl rfl rfl rfl rfl rfl rfl rfl rfl rfl rfl ?_;refine uAR rfl rfl rfl rfl rfl rfl rfl rfl rfl rfl rfl rfl ?_;refine uA5 (by kernel_rfl) ?_;refine uAk (s:=⟨[(2,_,_),(4,_,_),(5,_,_)],[(.l 2,_),(.l 4,_),(.l 5,_),(.o 0,_)],[(.b (.l 2) 1,_),(.b (.l 2) 2,_),(.b (.l 2) 3,_),(.b (.l 2) 4,_),(.b (.l 2) 5,_)],[]⟩) (uAi (⟨sx rfl,sx rfl,sx rfl,trivial⟩) (⟨sx rfl,sx rfl,sx rfl,sx rfl,trivial⟩) (⟨(ak rfl (ak rfl (ak rfl (ak rfl (ak rfl (rfl)))))),(ak rfl (ak rfl (ak rfl (ak rfl (ak rfl (rfl)))))),(ak rfl (ak rfl (ak rfl (ak rfl (ak rfl (rfl)))))),(ak rfl (ak rfl (ak rfl (ak rfl (ak rfl (rfl)))))),(ak rfl (ak rfl (ak rfl (ak rfl (ak rfl (rfl)))))),trivial⟩)) ?_
       refine uBi (.l 4) (.l 2) rfl rfl rfl rfl rfl ?_;refine uAk (s:=⟨[(2,_,_),(4,_,_),(5,_,_)],[(.l 2,_),(.l 4,_),(.l 5,_),(.o 0,_)],[(.b (.l 4) 1,_),(.b (.l 4) 2,_),(.b (.l 4) 3,_),(.b (.l 4) 4,_),(.b (.l 4) 5,_)],[]⟩) (uAi (⟨sx rfl,sx rfl,sx rfl,trivial⟩) (⟨sx rfl,sx rfl,sx rfl,sx rfl,trivial⟩) (⟨rfl,rfl,rfl,rfl,rfl,trivial⟩)) ?_;refine uAp ?_
       repeat(first|refine tR ?_|refine bR ?_)
       refine uBq rfl ?_ ⟨⟨_,rfl,rfl⟩,trivial⟩ (by simp) rfl rfl rfl rfl rfl rfl
       rfl
abbrev xnie (r : Nar × Int × Int) : X:=.tup [.agg r.1.cells, .c (.i .i64 r.2.1), .c (.i .i64 r.2.2)]
def uI4 (l : List Tk) : Nar × Int × Int :=
 if (endE l (uDW l).2).2≠0 then (nar0,(endE l (uDW l).2).1,(endE l (uDW l).2).2)
 else if narE uAH (uDW l).1≠0 then (nar0,0,narE uAH (uDW l).1)
 else ((uDW l).1,0,0)
def uDJ (s : List UInt8) : Nar × Int × Int:=if (tokP s).2.2≠0 then (nar0,(tokP s).2.1,(tokP s).2.2) else uI4 (tokP s).1
theorem uNG (l : List Tk) (n : Nar) (p : PS) : p.at'≤(uDO l n p).2.at':=Nat.le_trans (uA4 l uBA p).1 (Nat.le_trans (uGY l n (uCy l p) (uAx l uBA p).1 (uAx l uBA p).2).1 (uBs l [59] _).1)
theorem uMQ (s : List UInt8) (hs : s.length≤9223372036854775807) : Ctr sys 103 [xs s] [] (uQc (tokP s)) none []:=by rw[← uNT s]; exact uFy s hs
theorem uKS {l : List Tk} {m : Nat} {n : Nar} {p : PS} (h : p.bad=true∨symQ l p [125]=true) : uCC l m n p=(n,p):=by
 cases m with
 | zero=>rfl
 | succ m =>
  rw[uCC]
  split
  ·rfl
  ·rename_i hb
   rw[if_pos (h.resolve_left hb)]
theorem uNy {l : List Tk} {m : Nat} {n : Nar} {p : PS} (h : p.bad=false) (hq : symQ l p [125]=false) : uCC l (m + 1) n p=uCC l m (uDR l n p).1 (uDR l n p).2:=by
 rw[uCC,if_neg (by rw[h]; simp),if_neg (by rw[hq]; simp)]
theorem uO5 {l : List Tk} {n : Nar} {p : PS} (h : (n,p)=uCC l (l.length + 2) { nar0 with name:=(uAx l [] (chR l uCE ⟨0,false⟩).2).1 } (uAQ l [123] (uAx l [] (chR l uCE ⟨0,false⟩).2).2)) : uKL l=(n,uAQ l [125] p):=by
 unfold uKL; dsimp only; rw[← h]
set_option maxHeartbeats 8000000 in
theorem uIQ (s : List UInt8) (hs : s.length≤100000) : Ctr sysO 69 [xs s] [] (xnie (uDJ s)) none []:=by
 have hcnt:=uLp s
 have htl:=Tk.rows_len (tokP s).1
 obtain ⟨l,hl⟩ : ∃ l,(tokP s).1=l:=⟨_,rfl⟩
 have hll : l.length≤100000:=by rw[← hl]; omega
 have a1:=(uJa l uCE ⟨0,false⟩).2 (Nat.zero_le _)
 have a2:=(uA4 l [] (chR l uCE ⟨0,false⟩).2).2 a1
 have a3:=(uBs l [123] (uAx l [] (chR l uCE ⟨0,false⟩).2).2).2 a2
 have hn1:=uC6 l ⟨0,false⟩ uCE (by omega) (by dsimp only; omega)
 have hn2:=uBz l (chR l uCE ⟨0,false⟩).2 (by omega) (by omega)
 have hn3:=uAY l (uAx l [] (chR l uCE ⟨0,false⟩).2).2 [123] (by omega) (by omega)
 obtain ⟨h1,h2⟩:=uOI l
 refine uAA Tryz.func69 rfl rfl rfl rfl rfl rfl ?_;refine uAd (uAb ?_);refine uAq rfl (uAG rfl rfl rfl) ?_;refine uAa rfl rfl rfl (uAe rfl gU) ?_;refine uAa rfl rfl rfl (uAe rfl gU) ?_;refine uAf ?_;refine uAd (uAb ?_);refine uAa rfl rfl rfl (uAc rfl gU) ?_;refine uAu rfl rfl rfl rfl rfl rfl gU gU (up (uMQ _ (by omega))) rfl ?_;refine uAa rfl rfl rfl (uAc rfl gU) ?_;refine uAa rfl rfl rfl (uAs rfl gU rfl) ?_;refine uAa rfl rfl rfl (uAs rfl gU rfl) ?_;refine uAa rfl rfl rfl (uAs rfl gU rfl) ?_;refine uAa rfl rfl rfl (uAe rfl gU) ?_;refine uAa rfl rfl rfl (uAe rfl gU) ?_;refine uAa rfl rfl rfl (uAe rfl gU) ?_;refine uAf ?_;refine uAk (s:=⟨[(2,_,_),(5,_,_),(6,_,_),(7,_,_)],[(.l 2,_)],[],[]⟩) (uAi (⟨sx rfl,sx rfl,sx rfl,sx rfl,trivial⟩) (⟨sx rfl,trivial⟩) trivial) ?_;refine uAd ?_;refine uAd (uAb ?_);refine uAa rfl rfl rfl (uAc rfl gU) ?_;refine uAa rfl rfl rfl (uAm rfl rfl gU gU rfl) ?_;refine uAf ?_;refine uAn rfl (fun hc=>?_) (fun hc=>?_)
 ·try simp only [nn,uAj,T.rows_len,Tk.rows_len] at hc
  refine uAd (uAb ?_);refine uAa rfl rfl rfl (uAS rfl Tryz.underlying27 rfl gU) ?_;refine uAa rfl rfl rfl (uAc rfl gU) ?_;refine uAa rfl rfl rfl (uAc rfl gU) ?_;refine uAq rfl (uAy rfl rfl rfl rfl rfl rfl rfl) ?_;refine uAa rfl rfl rfl (uAe rfl gU) ?_;refine uAa rfl rfl rfl (uAe rfl gU) ?_;refine uAf ?_;refine uAp ?_
  repeat(first|refine tR ?_|refine bR ?_)
  refine uAt rfl ?_ trivial
  (rw[uDJ,if_pos hc]; rfl)
 ·try simp only [nn,uAj,T.rows_len,Tk.rows_len] at hc
  have hpe : uDJ s=uI4 l:=by rw[uDJ,if_neg (by simpa using hc),hl]
  rw[hpe]
  rw[hl]
  refine uAo ?_;refine uAd (uAb ?_);refine uAq rfl (uF4 rfl rfl rfl rfl) ?_;refine uAf ?_;refine uAd (uAb ?_);refine uAa rfl rfl rfl (uAc rfl gU) ?_;refine uAa rfl rfl rfl (uAS rfl Tryz.underlying119 rfl gU) ?_;refine uAN (xs:=[_,_]) rfl rfl rfl rfl rfl rfl rfl rfl rfl gU rfl ?_;refine uAu rfl rfl rfl rfl rfl rfl gU gU (up hn1) rfl ?_;refine uAa rfl rfl rfl (uAc rfl gU) ?_;refine uAa rfl rfl rfl (uAs rfl gU rfl) ?_;refine uAa rfl rfl rfl (uAs rfl gU rfl) ?_;refine uAq rfl (uAG rfl rfl rfl) ?_;refine uAa rfl rfl rfl (uAe rfl gU) ?_;refine uBc (s:=⟨[(2,_,_),(5,_,_),(8,_,_),(10,_,_),(29,_,_)],[(.l 10,_),(.l 2,_),(.l 8,_)],[],[]⟩) (uAi (⟨sx rfl,sx rfl,sx rfl,sx rfl,sx rfl,trivial⟩) (⟨sx rfl,sx rfl,sx rfl,trivial⟩) trivial) ?_;refine uAq rfl (uAy rfl rfl rfl rfl rfl rfl rfl) ?_;refine uAf ?_;refine uAd (uAb ?_);refine uAa rfl rfl rfl (uAl rfl gU rfl rfl rfl rfl rfl) ?_;refine uAu rfl rfl rfl rfl rfl rfl gU gU (up hn2) rfl ?_;refine uAa rfl rfl rfl (uAc rfl gU) ?_;refine uAa rfl rfl rfl (uAs rfl gU rfl) ?_;refine uAa rfl rfl rfl (uAs rfl gU rfl) ?_;refine uAa rfl rfl rfl (uAg rfl gU rfl rfl) ?_;refine uAq rfl (uAy rfl rfl rfl rfl rfl rfl rfl) ?_;refine uAq rfl (uAy rfl rfl rfl rfl rfl rfl rfl) ?_
  refine uAf ?_;refine uAk (s:=⟨[(2,_,_),(5,_,_),(8,_,_),(10,_,_)],[(.l 10,_),(.l 2,_),(.l 8,_)],[],[]⟩) (uAi (⟨sx rfl,sx rfl,sx rfl,sx rfl,trivial⟩) (⟨sx rfl,sx rfl,sx rfl,trivial⟩) trivial) ?_;refine uAd (uAb ?_);refine uAa rfl rfl rfl (uAl rfl gU rfl rfl rfl rfl rfl) ?_;refine uAu rfl rfl rfl rfl rfl rfl gU gU (up hn3) rfl ?_;refine uAq rfl (uAy rfl rfl rfl rfl rfl rfl rfl) ?_;refine uAf ?_;refine uAd ?_;refine uAr ?_;refine uEL (.l 8) 1 1 rfl rfl rfl ?_;refine uEL (.l 8) 2 3 rfl rfl rfl ?_;refine uEL (.l 8) 3 1 rfl rfl rfl ?_;refine uEL (.l 8) 4 7 rfl rfl rfl ?_;refine uEL (.l 8) 5 5 rfl rfl rfl ?_;refine uAW (ι:=PS × Nar) { t:=[(2,_,_),(5,_,_),(8,_,_),(10,_,_)],bx:=[(.l 2,_)],ow:=[(.b (.l 8) 1,_),(.b (.l 8) 2,_),(.b (.l 8) 3,_),(.b (.l 8) 4,_),(.b (.l 8) 5,_)] } (fun q=>[]) (fun q=>[((.l 10),pbx l q.1),((.l 8),q.2.cells)]) (fun q=>q.1.at'≤l.length∧(q.1.bad=false→q.2.Le q.1.at'∧q.2.Sm (2 * l.length + 2)) ∧ ∃ m,(q.1.bad=true∨l.length < m + q.1.at')∧uCC l m q.2 q.1=uCC l (l.length + 2) { nar0 with name:=(uAx l [] (chR l uCE ⟨0,false⟩).2).1 } (uAQ l [123] (uAx l [] (chR l uCE ⟨0,false⟩).2).2)) (fun q=>(l.length - q.1.at') + (if q.1.bad=true then 0 else 1)) ((uAQ l [123] (uAx l [] (chR l uCE ⟨0,false⟩).2).2,{ nar0 with name:=(uAx l [] (chR l uCE ⟨0,false⟩).2).1 })) (⟨a3,fun _=>⟨⟨Nat.zero_le _,Nat.zero_le _,Nat.zero_le _,Nat.zero_le _,Nat.zero_le _⟩,⟨fun s hs=>by simp [nar0] at hs,fun s hs=>by simp [nar0] at hs⟩⟩,l.length + 2, .inr (by omega),rfl⟩) (uAi (⟨sx rfl,sx rfl,sx rfl,sx rfl,trivial⟩) (⟨sx rfl,sx rfl,sx rfl,trivial⟩) (⟨rfl,rfl,rfl,rfl,rfl,trivial⟩)) ?_
  intro q hok
  dsimp only [List.cons_append,List.nil_append] at *
  obtain ⟨q,n⟩:=q
  dsimp only at hok ⊢
  obtain ⟨hq,hln,m,hm,hi⟩:=hok
  refine uAd ?_;refine uAd (uAb ?_);refine uAa rfl rfl rfl (uAg rfl gU rfl rfl) ?_;refine uAa rfl rfl rfl (uAh rfl gU rfl rfl rfl rfl) ?_;refine uAa rfl rfl rfl (uA0 rfl gU) ?_;refine uAa rfl rfl rfl (uAc rfl gU) ?_;refine uAa rfl rfl rfl (uAl rfl gU rfl rfl rfl rfl rfl) ?_;refine uAu rfl rfl rfl rfl rfl rfl gU (fun hh=>gA ((fun hh=>hh) hh) (gA rfl (rfl))) (up (uCr l q _ (by omega) (by omega))) rfl ?_;refine uAa rfl rfl rfl (uA0 rfl (fun hh=>hh)) ?_;refine uAa rfl rfl rfl (uAP rfl rfl gU (fun _ hi=>gP rfl hi)) ?_;refine uAf ?_;refine uAk (s:=⟨[(2,_,_),(5,_,_),(8,_,_),(10,_,_),(45,_,_)],[(.l 10,_),(.l 2,_),(.l 8,_)],[(.b (.l 8) 1,_),(.b (.l 8) 2,_),(.b (.l 8) 3,_),(.b (.l 8) 4,_),(.b (.l 8) 5,_)],[]⟩) (uAi (⟨sx rfl,sx rfl,sx rfl,sx rfl,sx rfl,trivial⟩) (⟨sx rfl,sx rfl,sx rfl,trivial⟩) (⟨rfl,rfl,rfl,rfl,rfl,trivial⟩)) ?_;refine uAn rfl (fun hc2=>?_) (fun hc2=>?_)
  ·try simp only [nn,uAj,T.rows_len,Tk.rows_len] at hc2
   obtain ⟨hb,hz⟩:=hc2
   obtain ⟨hle,hsm⟩:=hln hb
   have hm : l.length < m + q.at':=hm.resolve_left (by rw[hb]; simp)
   obtain ⟨m,rfl⟩ : ∃ j,m=j + 1:=⟨m - 1,by omega⟩
   rw[uNy hb hz] at hi
   obtain ⟨i1,i2⟩:=uJT l n q hq
   have i5:=uNG l n q
   have i3:=uOA (l:=l) (p:=q) hle
   have i4:=uOw (l:=l) (p:=q) hsm hq
   obtain ⟨e1,e2⟩:=uKo l n q
   rw[← e1] at i1 i2 i5 i3
   refine uAo ?_;refine uAr ?_;refine uAk (s:=⟨[(2,_,_),(5,_,_),(8,_,_),(10,_,_)],[(.l 10,_),(.l 2,_),(.l 8,_)],[(.b (.l 8) 1,_),(.b (.l 8) 2,_),(.b (.l 8) 3,_),(.b (.l 8) 4,_),(.b (.l 8) 5,_)],[]⟩) (uAi (⟨sx rfl,sx rfl,sx rfl,sx rfl,trivial⟩) (⟨sx rfl,sx rfl,sx rfl,trivial⟩) (⟨rfl,rfl,rfl,rfl,rfl,trivial⟩)) ?_;refine uBe (.l 8) rfl (fun w1 w2 w3 w4 w5=>?_);refine uAk (s:=⟨[(2,_,_),(5,_,_),(8,_,_),(10,_,_)],[(.l 10,_),(.l 2,_),(.l 8,_)],[(.b (.l 8) 1,_),(.b (.l 8) 2,_),(.b (.l 8) 3,_),(.b (.l 8) 4,_),(.b (.l 8) 5,_)],[]⟩) (uAi (⟨sx rfl,sx rfl,sx rfl,sx rfl,trivial⟩) (⟨sx rfl,sx rfl,sx rfl,trivial⟩) (⟨rfl,rfl,rfl,rfl,rfl,trivial⟩)) ?_;refine uAb ?_;refine uAa rfl rfl rfl (uAl rfl gU rfl rfl rfl rfl rfl) ?_;refine uAa rfl rfl rfl (uAl rfl gU rfl rfl rfl rfl rfl) ?_;refine uDr (.l 8) (.l 10) osR rfl rfl rfl rfl rfl rfl ⟨rfl,rfl,rfl,rfl,rfl,rfl⟩ ⟨rfl,rfl,rfl,rfl,rfl,rfl⟩ rfl rfl rfl rfl rfl rfl rfl rfl rfl ⟨rfl,rfl⟩ rfl (uK8 l q n w1 w2 w3 w4 w5 (by omega) hq (hle.mono (by omega))) rfl rfl rfl rfl rfl rfl rfl rfl ?_;refine uAf ?_;refine ⟨((uDR l n q).2,(uDR l n q).1),?_,?_,uAi (⟨sx rfl,sx rfl,sx rfl,sx rfl,trivial⟩) (⟨⟨_,rfl,?_⟩,⟨⟨_,rfl,?_⟩,⟨sx rfl,trivial⟩⟩⟩) (⟨rfl,rfl,rfl,rfl,rfl,trivial⟩)⟩
   ·refine ⟨i1,fun hb2=>?_,m,?_,hi⟩
    ·dsimp only at hb2 ⊢
     have he:=e2 hb2
     rw[he]; exact ⟨i3,i4⟩
    ·cases hz2 : (uDR l n q).2.bad with
     | true=>exact .inl rfl
     | false=>exact .inr (by have := i2 hz2; dsimp only; omega)
   ·dsimp only
    rw[hb]
    cases hz2 : (uDR l n q).2.bad with
    | true=>simp; omega
    | false=>have := i2 hz2; simp; omega
   all_goals rfl
  ·try simp only [nn,uAj,T.rows_len,Tk.rows_len] at hc2
   have hst : q.bad=true∨symQ l q [125]=true:=by
    rcases hc2 with x | x
    ·exact .inl (by simpa using x)
    ·exact .inr (by simpa using x)
   rw[uKS hst] at hi
   have hR:=uO5 hi
   rw[hR] at h1 h2
   dsimp only at h1 h2
   have hpl : uI4 l=(if (endE l (uAQ l [125] q)).2≠0 then (nar0,(endE l (uAQ l [125] q)).1,(endE l (uAQ l [125] q)).2) else if narE uAH (uDW l).1≠0 then (nar0,0,narE uAH (uDW l).1) else ((uDW l).1,0,0)):=by
    rw[uI4,← h1]
   rw[← h1] at h2
   refine uAJ ?_
   repeat(first|refine uAC ?_|refine uAD ?_|refine uAB rfl ?_)
   refine uAd (uAb ?_);refine uAa rfl rfl rfl (uAl rfl gU rfl rfl rfl rfl rfl) ?_;refine uAu rfl rfl rfl rfl rfl rfl gU gU (up (uAY l q [125] (by omega) (by omega))) rfl ?_;refine uAq rfl (uAy rfl rfl rfl rfl rfl rfl rfl) ?_;refine uAf ?_;refine uAd ?_;refine uAd (uAb ?_);refine uAa rfl rfl rfl (uAg rfl gU rfl rfl) ?_;refine uAa rfl rfl rfl (uAh rfl gU rfl rfl rfl rfl) ?_;refine uAa rfl rfl rfl (uAc rfl gU) ?_;refine uAa rfl rfl rfl (uAg rfl gU rfl rfl) ?_;refine uAa rfl rfl rfl (uAh rfl (fun hh=>hh) rfl rfl rfl rfl) ?_;refine uAa rfl rfl rfl (uAc rfl gU) ?_;refine uAa rfl rfl rfl (uA9 rfl (fun hh=>hh) rfl rfl) ?_;refine uAa rfl rfl rfl (uAm rfl rfl (fun hh=>hh) (fun hh=>hh) rfl) ?_;refine uAa rfl rfl rfl (uAL rfl rfl gU (fun _ hi=>gP rfl hi)) ?_;refine uAf ?_;refine uAk (s:=⟨[(2,_,_),(8,_,_),(10,_,_),(62,_,_)],[(.l 10,_),(.l 2,_),(.l 8,_)],[(.b (.l 8) 1,_),(.b (.l 8) 2,_),(.b (.l 8) 3,_),(.b (.l 8) 4,_),(.b (.l 8) 5,_)],[]⟩) (uAi (⟨sx rfl,sx rfl,sx rfl,sx rfl,trivial⟩) (⟨sx rfl,sx rfl,sx rfl,trivial⟩) (⟨rfl,rfl,rfl,rfl,rfl,trivial⟩)) ?_;refine uAn rfl (fun hc3=>?_) (fun hc3=>?_)
   ·try simp only [nn,uAj,T.rows_len,Tk.rows_len] at hc3
    have he : endE l (uAQ l [125] q)=(uJt l (uAQ l [125] q),2):=by rw[endE,if_pos (by rcases hc3 with x | x; exact .inl x; exact .inr (by omega))]
    rw[he,if_pos (by simp)] at hpl
    refine uAd (uAb ?_);refine uAa rfl rfl rfl (uAS rfl Tryz.underlying27 rfl gU) ?_;refine uAa rfl rfl rfl (uAl rfl gU rfl rfl rfl rfl rfl) ?_;refine uAu rfl rfl rfl rfl rfl rfl gU gU (up (uLP _ _ (by omega))) rfl ?_;refine uAq rfl (uAy rfl rfl rfl rfl rfl rfl rfl) ?_;refine uAa rfl rfl rfl (uAe rfl gU) ?_;refine uAa rfl rfl rfl (uAe rfl gU) ?_;refine uAf ?_;refine uAp ?_
    repeat(first|refine tR ?_|refine bR ?_)
    refine uAt rfl ?_ trivial
    (rw[hpl]; rfl)
   ·try simp only [nn,uAj,T.rows_len,Tk.rows_len] at hc3
    have he : endE l (uAQ l [125] q)=(0,0) := by rw[endE,if_neg (by rintro (x | x); { rw[hc3.1] at x; cases x }; { have := hc3.2; omega })]
    rw[he,if_neg (by simp),← h2 hc3.1] at hpl
    have hb:=uCR hc3.1
    obtain ⟨hle,hsm⟩:=hln hb
    refine uAo ?_;refine uAd ?_;refine uAd (uAb ?_);refine uAa rfl rfl rfl (uAl rfl gU rfl rfl rfl rfl rfl) ?_;refine uAu rfl rfl rfl rfl rfl rfl gU gU (up (uJX n (fun s hs=>Nat.le_trans (hsm.steps s hs) (by omega)) (fun g hg=>Nat.le_trans (hsm.goals g hg) (by omega)))) rfl ?_;refine uAa rfl rfl rfl (uAe rfl gU) ?_;refine uAf ?_;refine uAd (uAb ?_);refine uAa rfl rfl rfl (uAc rfl gU) ?_;refine uAa rfl rfl rfl (uAm rfl rfl gU gU rfl) ?_;refine uAf ?_;refine uAk (s:=⟨[(2,_,_),(8,_,_),(11,_,_),(69,_,_)],[(.l 2,_),(.l 8,_)],[(.b (.l 8) 1,_),(.b (.l 8) 2,_),(.b (.l 8) 3,_),(.b (.l 8) 4,_),(.b (.l 8) 5,_)],[]⟩) (uAi (⟨sx rfl,sx rfl,sx rfl,sx rfl,trivial⟩) (⟨sx rfl,sx rfl,trivial⟩) (⟨rfl,rfl,rfl,rfl,rfl,trivial⟩)) ?_;refine uAn rfl (fun hc4=>?_) (fun hc4=>?_)
    ·try simp only [nn,uAj,T.rows_len,Tk.rows_len] at hc4
     rw[if_pos hc4] at hpl
     refine uAd (uAb ?_);refine uAa rfl rfl rfl (uAS rfl Tryz.underlying27 rfl gU) ?_;refine uAa rfl rfl rfl (uAc rfl gU) ?_;refine uAq rfl (uAy rfl rfl rfl rfl rfl rfl rfl) ?_;refine uAa rfl rfl rfl (uAe rfl gU) ?_;refine uAa rfl rfl rfl (uAe rfl gU) ?_;refine uAf ?_;refine uAp ?_
     repeat(first|refine tR ?_|refine bR ?_)
     refine uAt rfl ?_ trivial
     (rw[hpl]; rfl)
    ·try simp only [nn,uAj,T.rows_len,Tk.rows_len] at hc4
     rw[if_neg (by simpa using hc4)] at hpl
     refine uAo ?_;refine uAd (uAb ?_);refine uAa rfl rfl rfl (uAl rfl gU rfl rfl rfl rfl rfl) ?_;refine uAq rfl (uAy rfl rfl rfl rfl rfl rfl rfl) ?_;refine uAa rfl rfl rfl (uAe rfl gU) ?_;refine uAa rfl rfl rfl (uAe rfl gU) ?_;refine uAf ?_;refine uAp ?_
     repeat(first|refine tR ?_|refine bR ?_)
     refine uAt rfl ?_ trivial
     (rw[hpl]; rfl)
theorem uJu (s : List UInt8) (hs : s.length≤100000) : Ctr sys 69 [xs s] [] (xnie (uDJ s)) none []:=(uIQ s hs).wk rfl fun _ h=>h
theorem uGN {R : List (List UInt8)} : ∀ (D : List (List UInt8 × Option (List UInt8))) (seen : List (List UInt8)),decA R seen D=0→seen.Nodup→(seen++D.map (·.1)).Nodup
 | [],seen,_,hs=>by simpa using hs
 | x :: r,seen,h,hs=>by
  rw[decA] at h
  split at h
  ·rename_i q; exact absurd h q
  ·rename_i q
   have q:=Decidable.not_not.1 q
   have hx : ¬ x.1 ∈ seen:=by
    intro hm
    have hc : seen.contains x.1=true:=List.contains_iff_mem.2 hm
    unfold dclE at q
    split at q
    ·simp at q
    split at q
    ·simp at q
    ·first|(rw[if_pos hc] at q; simp at q)|simp at q
   have h1 : (seen++[x.1]).Nodup:=by
    rw[List.nodup_append]
    refine ⟨hs,by simp,fun a ha b hb=>?_⟩
    rw[List.mem_singleton.1 hb]
    intro e; exact hx (e ▸ ha)
   have := uGN r (seen++[x.1]) h h1
   rw[List.append_assoc] at this
   exact this
theorem uNl {n : Nar} (h : decE n=0) : (uB9 n).Nodup:=by
 have := uGN (dclL n) [] h (by simp)
 rw[List.nil_append,uOh] at this
 exact this
theorem uL9 {nm : NmB} {n : Nar} (h : (chkE nm n).2=0) : narE nm n=0∧decE n=0∧useE n=(0,0):=by
 unfold chkE at h
 split at h
 ·rename_i q; exact absurd h q
 rename_i q1
 split at h
 ·rename_i q; exact absurd h q
 rename_i q2
 refine ⟨Decidable.not_not.1 q1,Decidable.not_not.1 q2,?_⟩
 unfold useE at h ⊢
 split at h
 ·rename_i q; exact absurd h q
 ·rename_i q; rw[if_neg q]; exact uLO h
theorem uMY {α : Type} {l : List α} (h : l.Nodup) {i j : Nat} {hi : i < l.length} {hj : j < l.length} (he : l[i]'hi=l[j]'hj) : i=j:=by
 have hp:=List.pairwise_iff_getElem.1 h
 rcases Nat.lt_trichotomy i j with q | q | q
 ·exact absurd he (hp i j hi hj q)
 ·exact q
 ·exact absurd he.symm (hp j i hj hi q)
end Go.Proofs.YteidahabkfgfjaaGreat
