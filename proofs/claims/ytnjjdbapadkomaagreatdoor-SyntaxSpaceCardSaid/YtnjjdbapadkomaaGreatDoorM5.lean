/- Our abstract program logic and contracts of this seat's functions, part 5: no statement of its own (long names of ours are shortened by a program). -/
import Derived.Test.YtnjjdbapadkomaaGreatDoorM4
import Derived.RangeFuncNested
import Derived.RangeFuncLeaves
import Derived.Shelf.Abstract
import Derived.WalkKit
import Derived.OwnWalkIn
import Derived.TacticsInMore
import Derived.LoopNIn
import Derived.LoopIn
import Derived.KernelRfl
set_option linter.unusedVariables false
set_option linter.unusedSimpArgs false
namespace Go.Proofs.YtnjjdbapadkomaaGreatDoor
open Go Go.Abs
theorem uHT {α : Type} {l : List Tk} {f : PS→α × PS} (hf : Fwd l f) : ∀ (n : Nat) (p : PS) (out : List α),(uBK l f n p out).1.length + p.at'≤out.length + (uBK l f n p out).2.at'
 | 0,p,out=>by simp [uBK]
 | n + 1,p,out=>by
  rw [uBK]
  split
  ·have h1:=(hf p.go).1
   have h2:=uHT hf n (f p.go).2 (out++[(f p.go).1])
   have hg : p.go.at'=p.at' + 1:=rfl
   rw [List.length_append,List.length_singleton] at h2
   omega
  ·simp
theorem uFm {α : Type} {l : List Tk} {f : PS→α × PS} (hf : Fwd l f) (p : PS) : (uBj l f p).1.length + p.at'≤1 + (uBj l f p).2.at':=by
 have h1:=(hf p).1
 have h2:=uHT hf (l.length + 1) (f p).2 [(f p).1]
 unfold uBj
 rw [List.length_singleton] at h2
 omega
theorem uGw (l : List Tk) (role : List UInt8) : ∀ (n : Nat) (p : PS) (out : List Fs),(uBN l role n p out).1.length + p.at'≤out.length + 1 + (uBN l role n p out).2.at'
 | 0,p,out=>by simp [uBN]
 | n + 1,p,out=>by
  have h1:=(uA1 l [] p).1
  have h2:=(uA1 l sortW (uAw l [] p).2).1
  rw [uBN]
  split
  ·dsimp only; omega
  split
  ·have hg : (uAw l sortW (uAw l [] p).2).2.go.at'=(uAw l sortW (uAw l [] p).2).2.at' + 1:=rfl
   have h4:=uGw l role n (uAw l sortW (uAw l [] p).2).2.go (out++[⟨role,(uAw l [] p).1,2 + uBw sortW (uAw l sortW (uAw l [] p).2).1⟩])
   rw [List.length_append,List.length_singleton] at h4
   omega
  ·simp only [List.length_append,List.length_singleton]; omega
theorem uJW (l : List Tk) (p : PS) (out : List Fs) : (uBM l p out).1.length + p.at'≤out.length + 1 + (uBM l p out).2.at':=by
 have h1:=(uA1 l [] p).1
 have h2:=(uBp l [58] (uAw l [] p).2).1
 have h3:=uGw l (uAw l [] p).1 (l.length + 1) (uA4 l [58] (uAw l [] p).2) out
 unfold uBM
 omega
structure Nar.Le (n : Nar) (k : Nat) : Prop where
 roles : n.roles.length≤k
 fresh : n.fresh.length≤k
 tags : n.tags.length≤k
 steps : n.steps.length≤k
 goals : n.goals.length≤k
theorem Nar.Le.mono {n : Nar} {k j : Nat} (h : n.Le k) (hj : k≤j) : n.Le j:=⟨Nat.le_trans h.roles hj,Nat.le_trans h.fresh hj,Nat.le_trans h.tags hj,Nat.le_trans h.steps hj,Nat.le_trans h.goals hj⟩
theorem uLi {l : List Tk} {ws : List (List UInt8)} {p : PS} (h : (uAw l ws p).1≠[]) : (uAw l ws p).2.at'=p.at' + 1:=by
 cases hq : namQ l p ws with
 | true=>rw [uAw,if_pos hq]; rfl
 | false=>rw [uAw,hq] at h; exact absurd rfl h
theorem uMA {l : List Tk} {n : Nar} {line : Int} {w : List UInt8} {q : PS} {k : Nat} (h : n.Le k) (hk : w≠[]→k + 1≤q.at') (hq : k≤q.at') : (uBH l n line w q).1.Le (uBH l n line w q).2.at':=by
 have hz:=uG4 l n line w q
 unfold uBH at hz ⊢
 split
 ·rename_i hw
  rw [if_pos hw] at hz
  have h1 : (uBI l q).1.length + q.at'≤1 + (uBI l q).2.at':=uFm (uA1 l []) q
  have h2:=hk (by rw [hw]; decide)
  have h3:=hz.1
  have := h.mono (j := (uBI l q).2.at') (by dsimp only at h3; omega)
  have h4:=h.roles
  exact ⟨by dsimp only; rw [List.length_append]; omega,this.fresh,this.tags,this.steps,this.goals⟩
 rename_i hw1
 rw [if_neg hw1] at hz
 split
 ·rename_i hw
  rw [if_pos hw] at hz
  have h1:=uJW l q n.fresh
  have h2:=hk (by rw [hw]; decide)
  have h3:=hz.1
  have := h.mono (j := (uBM l q n.fresh).2.at') (by dsimp only at h3; omega)
  have h4:=h.fresh
  exact ⟨this.roles,by dsimp only; omega,this.tags,this.steps,this.goals⟩
 rename_i hw2
 rw [if_neg hw2] at hz
 split
 ·rename_i hw
  rw [if_pos hw] at hz
  have h1 : (uBI l q).1.length + q.at'≤1 + (uBI l q).2.at':=uFm (uA1 l []) q
  have h2:=hk (by rw [hw]; decide)
  have h3:=hz.1
  have := h.mono (j := (uBI l q).2.at') (by dsimp only at h3; omega)
  have h4:=h.tags
  exact ⟨this.roles,this.fresh,by dsimp only; rw [List.length_append]; omega,this.steps,this.goals⟩
 rename_i hw3
 rw [if_neg hw3] at hz
 split
 ·rename_i hw
  rw [if_pos hw] at hz
  have h2:=hk (by rw [hw]; decide)
  have h3:=hz.1
  have := h.mono (j := (uCl l line q).2.at') (by dsimp only at h3; omega)
  have h4:=h.steps
  exact ⟨this.roles,this.fresh,this.tags,by dsimp only at h3 ⊢; rw [List.length_append,List.length_singleton]; omega,this.goals⟩
 rename_i hw4
 rw [if_neg hw4] at hz
 split
 ·rename_i hw
  rw [if_pos hw] at hz
  have h2:=hk (by rw [hw]; decide)
  have h3:=hz.1
  have := h.mono (j := (uB0 l line q).2.at') (by dsimp only at h3; omega)
  have h4:=h.goals
  exact ⟨this.roles,this.fresh,this.tags,this.steps,by dsimp only at h3 ⊢; rw [List.length_append,List.length_singleton]; omega⟩
 exact h.mono hq
theorem uMo {l : List Tk} {n : Nar} {p : PS} (h : n.Le p.at') : (uBU l n p).1.Le (uBU l n p).2.at':=by
 have h1:=(uA1 l uBS p).1
 have h2:=uMA (l:=l) (line:=uCt l p) (w:=(uAw l uBS p).1) (q:=(uAw l uBS p).2) h (fun hw=>by rw [uLi hw]; exact Nat.le_refl _) h1
 exact h2.mono (uBp l [59] _).1
theorem uGm (t : T) : ∀ l : List T,T.sizes (l++[t])=T.sizes l + t.size
 | []=>by simp [T.sizes]
 | x :: l=>by rw [List.cons_append,T.sizes,T.sizes,uGm t l]; omega
theorem uHn : ∀ l : List T,l≠[]→(tupT l).size + 1=T.sizes l + l.length
 | [],h=>absurd rfl h
 | [t],_=>by simp [tupT,T.sizes]
 | t :: u :: l,_=>by
  have ih:=uHn (u :: l) (by simp)
  have e : (uHO t (tupT (u :: l))).size=1 + (t.size + (tupT (u :: l)).size):=by rw [T.size_eq]; show 1 + T.sizes [t,tupT (u :: l)]=_; simp [T.sizes]
  rw [tupT,e,T.sizes,List.length_cons (a:=t)]
  omega
def Szd (f : PS→T × PS) : Prop:=∀ p : PS,(f p).1.size + 2 * p.at'≤2 * (f p).2.at' + 1
theorem uGk {l : List Tk} {f : PS→T × PS} (hs : Szd f) : ∀ (n : Nat) (p : PS) (out : List T),T.sizes (uBK l f n p out).1 + (uBK l f n p out).1.length + 2 * p.at'≤T.sizes out + out.length + 2 * (uBK l f n p out).2.at'
 | 0,p,out=>by simp [uBK]
 | n + 1,p,out=>by
  rw [uBK]
  split
  ·have h1:=hs p.go
   have h2:=uGk (l:=l) hs n (f p.go).2 (out++[(f p.go).1])
   have hg : p.go.at'=p.at' + 1:=rfl
   rw [List.length_append,List.length_singleton,uGm] at h2
   omega
  ·simp
theorem uEJ {l : List Tk} {f : PS→T × PS} (hs : Szd f) (p : PS) : T.sizes (uBj l f p).1 + (uBj l f p).1.length + 2 * p.at'≤2 + 2 * (uBj l f p).2.at':=by
 have h1:=hs p
 have h2:=uGk (l:=l) hs (l.length + 1) (f p).2 [(f p).1]
 unfold uBj
 rw [List.length_singleton,T.sizes,T.sizes] at h2
 omega
theorem uKO {α : Type} {l : List Tk} {f : PS→α × PS} : ∀ (n : Nat) (p : PS) (out : List α),out≠[]→(uBK l f n p out).1≠[]
 | 0,p,out,h=>h
 | n + 1,p,out,h=>by
  rw [uBK]
  split
  ·exact uKO n _ _ (by simp)
  ·exact h
theorem uDu (l : List Tk) : ∀ n : Nat,Szd (uAQ l n)
 | 0,p=>by
  have : (default : T).size=1:=by rw [T.size_eq]; rfl
  show (default : T).size + _≤_
  rw [this]; show 1 + 2 * p.at'≤2 * p.at' + 1; omega
 | n + 1,p=>by
  have ih:=uDu l n
  have hf:=uCq l n
  rw [uAQ]
  split
  ·have hg : p.go.at'=p.at' + 1:=rfl
   have h1:=ih p.go
   have h2:=(uBp l [44] (uAQ l n p.go).2).1
   have h3:=uEJ (l:=l) ih (uA4 l [44] (uAQ l n p.go).2)
   have h4:=(uBp l [62] (uBj l (uAQ l n) (uA4 l [44] (uAQ l n p.go).2)).2).1
   have h5:=uHn ((uAQ l n p.go).1 :: (uBj l (uAQ l n) (uA4 l [44] (uAQ l n p.go).2)).1) (by simp)
   rw [T.sizes,List.length_cons] at h5
   dsimp only
   omega
  ·have h1:=(uA1 l [] p).1
   split
   ·have hg : (uAw l [] p).2.go.at'=(uAw l [] p).2.at' + 1:=rfl
    split
    ·have hg2 : (uAw l [] p).2.go.go.at'=(uAw l [] p).2.at' + 2:=rfl
     have : (⟨3,(uAw l [] p).1,0,[]⟩ : T).size=1:=by rw [T.size_eq]; rfl
     dsimp only; omega
    ·have h3:=uEJ (l:=l) ih (uAw l [] p).2.go
     have h4:=(uBp l [41] (uBj l (uAQ l n) (uAw l [] p).2.go).2).1
     have h5 : (uBj l (uAQ l n) (uAw l [] p).2.go).1≠[]:=uKO _ _ _ (by simp)
     have h6:=List.length_pos_iff.2 h5
     have : (⟨3,(uAw l [] p).1,0,(uBj l (uAQ l n) (uAw l [] p).2.go).1⟩ : T).size=1 + T.sizes (uBj l (uAQ l n) (uAw l [] p).2.go).1:=by rw [T.size_eq]; rfl
     dsimp only; omega
   ·have : (⟨2,(uAw l [] p).1,0,[]⟩ : T).size=1:=by rw [T.size_eq]; rfl
    dsimp only; omega
structure Nar.Sm (n : Nar) (M : Nat) : Prop where
 steps : ∀ s ∈ n.steps,s.msg.size≤M
 goals : ∀ g ∈ n.goals,T.sizes g.data≤M
theorem uJ2 {l : List Tk} (line : Int) {p : PS} (hp : p.at'≤l.length) : (uCl l line p).1.msg.size≤2 * l.length + 2:=by
 have h:=(uGT l line p).2 hp
 have := uDu l (l.length + 1) (uA4 l [58] (uAw l [] (uA4 l [62] (uA4 l [45] (uAw l [] p).2))).2)
 have h2 : (uAQ l (l.length + 1) (uA4 l [58] (uAw l [] (uA4 l [62] (uA4 l [45] (uAw l [] p).2))).2)).2.at'≤l.length:=h
 show (uAQ l (l.length + 1) (uA4 l [58] (uAw l [] (uA4 l [62] (uA4 l [45] (uAw l [] p).2))).2)).1.size≤_
 omega
theorem uKl {l : List Tk} (line : Int) {p : PS} (hp : p.at'≤l.length) : T.sizes (uB0 l line p).1.data≤2 * l.length + 2:=by
 have h:=(uGC l line p).2 hp
 have := uEJ (l := l) (uDu l (l.length + 1)) (uA4 l [58] (if uBA (1 + uBw kindW (uAw l kindW p).1)=true then uAw l [] (uAw l [] (uAw l kindW p).2).2 else ([],(uAw l [] (uAw l kindW p).2).2)).2)
 have h2 : (uBj l (uAQ l (l.length + 1)) (uA4 l [58] (if uBA (1 + uBw kindW (uAw l kindW p).1)=true then uAw l [] (uAw l [] (uAw l kindW p).2).2 else ([],(uAw l [] (uAw l kindW p).2).2)).2)).2.at'≤l.length:=h
 show T.sizes (uBj l (uAQ l (l.length + 1)) (uA4 l [58] (if uBA (1 + uBw kindW (uAw l kindW p).1)=true then uAw l [] (uAw l [] (uAw l kindW p).2).2 else ([],(uAw l [] (uAw l kindW p).2).2)).2)).1≤_
 omega
theorem uL4 {l : List Tk} {n : Nar} {p : PS} (h : n.Sm (2 * l.length + 2)) (hp : p.at'≤l.length) : (uBU l n p).1.Sm (2 * l.length + 2):=by
 have hq:=(uA1 l uBS p).2 hp
 show (uBH l n (uCt l p) (uAw l uBS p).1 (uAw l uBS p).2).1.Sm _
 unfold uBH
 repeat' split
 ·exact ⟨h.steps,h.goals⟩
 ·exact ⟨h.steps,h.goals⟩
 ·exact ⟨h.steps,h.goals⟩
 ·refine ⟨fun s hs=>?_,h.goals⟩
  rcases List.mem_append.1 hs with q | q
  ·exact h.steps s q
  ·simp at q; subst q; exact uJ2 _ hq
 ·refine ⟨h.steps,fun g hg=>?_⟩
  rcases List.mem_append.1 hg with q | q
  ·exact h.goals g q
  ·simp at q; subst q; exact uKl _ hq
 ·exact h
end Go.Proofs.YtnjjdbapadkomaaGreatDoor
namespace Go.Abs
variable {Z : Pg}
theorem uMB {N : Nat} {ops : Array Oper} {st : St} {o : Oper} {d : Nat} {x : X} (hg : uA7 ops st o=some false) (hd : o.dst=some d) (hN : Nat.ble (d + 1) N=true) : Op1 Z N ops o st (st.put d (false,x)):=by
 intro E G a w hr hE K Q hK
 have hdN : d < E.nt:=by rw [hE.nt]; exact Nat.le_of_ble_eq_true hN
 rw [uBE hr hg,hd]
 rw [hd] at hK
 simp only [Bool.false_eq_true,if_false]
 exact hK G undef w (hr.put hdN (fun hf=>by simp at hf) (fun _=>rfl))
theorem uKM {N : Nat} {ops : Array Oper} {rest : List Oper} {K : St→Prop} {st : St} {o : Oper} {d : Nat} (x : X) (hg : uA7 ops st o=some false) (hd : o.dst=some d) (hN : Nat.ble (d + 1) N=true)
  (h : AL Z N ops rest K (st.put d (false,x))) : AL Z N ops (o :: rest) K st:=uDe (uMB hg hd hN) h
end Go.Abs
namespace Go.Proofs.YtnjjdbapadkomaaGreatDoor
open Go Go.Abs
theorem uM7 (l : List Tk) (hl : l.length≤2000000) (htup : ∀ ts : List T,0 < ts.length→ts.length≤3000000→Ctr sys 115 [xl ts] [] (xm (tupT ts)) none []) :
  ∀ (n : Nat) (p : PS),p.at'≤l.length→l.length - p.at' < n→Ctr sys 66 [xpp] [pbx l p] (xm (uAQ l n p).1) none [pbx l (uAQ l n p).2]:=by
 have htup2 : ∀ (ts : List T) (rs : List (List C)),rs=T.rows ts→0 < ts.length→ts.length≤3000000→Ctr sys 115 [.v (.c (.sl 4 rs))] [] (xm (tupT ts)) none []:=by
  intro ts rs h; subst h; exact htup ts
 intro n
 induction n with
 | zero=>intro p _ h; omega
 | succ n ih =>
  intro p hp hn
  have hrl:=Tk.rows_len l
  have hg : ∀ q : PS,q.go.at'=q.at' + 1:=fun _=>rfl
  refine uAz Tryz.func66 rfl rfl rfl rfl rfl rfl ?_;refine uAe (uAb ?_);refine uAt rfl (uAN rfl rfl rfl) ?_;refine uAf ?_;refine uAe ?_;refine uAe (uAb ?_);refine uAa rfl rfl rfl (uAc rfl gU) ?_;refine uAH (.o 0) rfl rfl rfl rfl rfl rfl (uBQ _ _ _ (by omega) (by first | omega | (dsimp only; omega) | (simp only [PS.go]; omega))) rfl (by rfl) (by rfl) rfl rfl rfl ?_;refine uAf ?_;refine uAl rfl (fun hc=>?_) (fun hc=>?_)
  ·try simp only [nn,uAi,T.rows_len,Tk.rows_len] at hc
   have hlt:=(uCj hc).1
   have hs : symP l p [60]=p.go:=by rw [symP,if_pos hc]
   have he : uAQ l (n + 1) p=(tupT ((uAQ l n p.go).1 :: (uBj l (uAQ l n) (uA4 l [44] (uAQ l n p.go).2)).1),uA4 l [62] (uBj l (uAQ l n) (uA4 l [44] (uAQ l n p.go).2)).2):=by rw [uAQ,if_pos hc]
   have hgp:=hg p
   have a1:=uCq l n p.go
   have a2:=uBp l [44] (uAQ l n p.go).2
   generalize hq1 : (uA4 l [44] (uAQ l n p.go).2)=q1 at *
   rw [hs]
   refine uAe (uAb ?_);refine uAa rfl rfl rfl (uAc rfl gU) ?_;refine uAH (.o 0) rfl rfl rfl rfl rfl rfl (ih p.go (by omega) (by omega)) rfl (by rfl) (by rfl) rfl rfl rfl ?_;refine uAM (xs:=[_]) rfl rfl rfl rfl rfl rfl rfl rfl rfl gU rfl ?_;refine uAt rfl (uAI (.inr rfl) rfl rfl rfl) ?_;refine uAf ?_;refine uAm (s:=⟨[(0,_,_),(2,_,_),(3,_,_)],[(.l 2,_),(.o 0,_)],[(.t 3,_)],[]⟩) (uAj (⟨sx rfl,sx rfl,sx rfl,trivial⟩) (⟨sx rfl,sx rfl,trivial⟩) (⟨rfl,trivial⟩)) ?_;refine uAe (uAb ?_);refine uAa rfl rfl rfl (uAc rfl gU) ?_;refine uAH (.o 0) rfl rfl rfl rfl rfl rfl (uBb _ _ _ (by omega) (by first | omega | (dsimp only; omega) | (simp only [PS.go]; omega))) rfl (by rfl) (by rfl) rfl rfl rfl ?_;refine uAf ?_;refine uAe ?_;refine uAs ?_
   rw [hq1]
   refine uAZ (ι:=PS × List T) { t:=[(0,_,_),(2,_,_)],bx:=[(.l 2,_)],ow:=[(.t 3,_)] } (fun q=>[(3,true,xl q.2)]) (fun q=>[((.o 0),pbx l q.1)]) (fun q=>q1.at'≤q.1.at'∧q.1.at'≤l.length∧q.2.length≤q.1.at'∧1≤q.2.length ∧ ∃ k,l.length + 1≤k + q.1.at'∧(∃ o2,q.2=(uAQ l n p.go).1 :: o2∧uBK l (uAQ l n) k (uAQ l n q.1).2 (o2++[(uAQ l n q.1).1])=uBj l (uAQ l n) q1)) (fun q=>l.length - q.1.at') ((q1,[(uAQ l n p.go).1])) (⟨by simp,by dsimp only; omega,by dsimp only [List.length_singleton]; omega,by simp,_,by dsimp only; omega,[],rfl,rfl⟩) (uAj (⟨⟨_,rfl,by simp [T.rows_eq]⟩,⟨sx rfl,sx rfl,trivial⟩⟩) (⟨sx rfl,sx rfl,trivial⟩) (⟨rfl,trivial⟩)) ?_
   intro q hok
   dsimp only [List.cons_append,List.nil_append] at *
   obtain ⟨q,out⟩:=q
   dsimp only at hok ⊢
   obtain ⟨hq0,hq,ho,ho1,k,hk,o2,rfl,hi⟩:=hok
   have hqb : l.length - q.at' < n:=by omega
   have b1:=uCq l n q
   have hih:=ih q hq hqb
   have hro:=T.rows_len ((uAQ l n p.go).1 :: o2)
   obtain ⟨r,hr⟩ : ∃ r,uAQ l n q=r:=⟨_,rfl⟩
   obtain ⟨t2,at2,bad2⟩:=r
   rw [hr] at hih b1 hi
   dsimp only at hih b1 hi
   have b2:=b1.2 hq
   have hne : o2++[t2]≠[]:=by simp
   cases bad2
   ·refine uAs ?_
    refine uAe (uAb ?_);refine uAt rfl (uAI (.inl rfl) rfl rfl rfl) ?_;refine uAa rfl rfl rfl (uAc rfl gU) ?_;refine uAH (.o 0) rfl rfl rfl rfl rfl rfl (hih) rfl (by rfl) (by rfl) rfl rfl rfl ?_;refine uAM (xs:=[_]) rfl rfl rfl rfl rfl rfl rfl rfl rfl gU rfl ?_;refine uAt rfl (uA2 rfl rfl rfl rfl rfl rfl rfl (by first | omega | (simp only [List.length_append,List.length_singleton,T.rows_len]; omega)) (by first | omega | (simp only [List.length_append,List.length_singleton,T.rows_len]; omega))) ?_;refine uAt rfl (uAI (.inr rfl) rfl rfl rfl) ?_;refine uAf ?_;refine uAm (s:=⟨[(0,_,_),(2,_,_),(3,_,_)],[(.l 2,_),(.o 0,_)],[(.t 3,_)],[]⟩) (uAj (⟨sx rfl,sx rfl,sx rfl,trivial⟩) (⟨sx rfl,sx rfl,trivial⟩) (⟨rfl,trivial⟩)) ?_;refine uAe (uAb ?_);refine uAa rfl rfl rfl (uAc rfl gU) ?_;refine uAa rfl rfl rfl (uAv rfl gU) ?_;refine uAa rfl rfl rfl (uAh rfl gU rfl rfl) ?_;refine uAa rfl rfl rfl (uAn rfl gU rfl rfl rfl rfl) ?_;refine uAa rfl rfl rfl (uAc rfl gU) ?_;refine uAa rfl rfl rfl (uAc rfl gU) ?_;refine uAH (.o 0) rfl rfl rfl rfl rfl rfl (uBQ _ _ _ (by omega) (by first | omega | (dsimp only; omega) | (simp only [PS.go]; omega))) rfl (by rfl) (by rfl) rfl rfl rfl ?_;refine uAa rfl rfl rfl (uA8 rfl (fun hh=>hh)) ?_;refine uAa rfl rfl rfl (uAJ rfl rfl gU (fun _ hi=>gP rfl hi)) ?_
    refine uAf ?_;refine uAm (s:=⟨[(0,_,_),(2,_,_),(3,_,_),(25,_,_)],[(.l 2,_),(.o 0,_)],[(.t 3,_)],[]⟩) (uAj (⟨sx rfl,sx rfl,sx rfl,sx rfl,trivial⟩) (⟨sx rfl,sx rfl,trivial⟩) (⟨rfl,trivial⟩)) ?_;refine uAl rfl (fun hc2=>?_) (fun hc2=>?_)
    ·try simp only [nn,uAi,T.rows_len,Tk.rows_len] at hc2
     have hz : symQ l ⟨at2,false⟩ [44]=false:=by simpa using hc2
     have hs2 : symP l ⟨at2,false⟩ [44]=⟨at2,false⟩:=by rw [symP,hz]; rfl
     rw [uC4 hz] at hi
     rw [hs2]
     refine uAL ?_
     repeat (first | refine uAF ?_ | refine uAG ?_ | refine uAC rfl ?_)
     refine uAe (uAb ?_);refine uAa rfl rfl rfl (uAc rfl gU) ?_;refine uAH (.o 0) rfl rfl rfl rfl rfl rfl (uBb _ _ _ (by omega) (by first | omega | (dsimp only; omega) | (simp only [PS.go]; omega))) rfl (by rfl) (by rfl) rfl rfl rfl ?_;refine uAf ?_;refine uAe (uAb ?_);refine uAa rfl rfl rfl (uAc rfl gU) ?_;refine uAA rfl rfl rfl rfl rfl rfl gU gU (htup2 ((uAQ l n p.go).1 :: (o2++[t2])) _ (by simp [T.rows_eq]) (by simp) (by simp only [List.length_cons,List.length_append,List.length_nil] at ho ⊢; omega)) rfl ?_;refine uAt rfl (uAx rfl rfl rfl rfl rfl rfl rfl) ?_;refine uAf ?_;refine uAo ?_
     repeat (first | refine tR ?_ | refine bR ?_)
     refine uAr rfl ?_ (⟨⟨_,rfl,?_⟩,trivial⟩)
     (all_goals first | (rw [he,← hi]; done) | (rw [he,← hi]; rfl))
    ·try simp only [nn,uAi,T.rows_len,Tk.rows_len] at hc2
     have hz : symQ l ⟨at2,false⟩ [44]=true:=by simpa using hc2
     have hlt2:=(uCj hz).1
     have hs2 : symP l ⟨at2,false⟩ [44]=⟨at2 + 1,false⟩:=by rw [symP,if_pos hz]; rfl
     obtain ⟨k,rfl⟩ : ∃ j,k=j + 1:=⟨k - 1,by dsimp only at hlt2; omega⟩
     rw [uGi hz] at hi
     rw [hs2]
     dsimp only at hlt2
     refine uAp ?_;refine ⟨(⟨at2 + 1,false⟩,(uAQ l n p.go).1 :: (o2++[t2])),?_,?_,uAj (⟨⟨_,rfl,?_⟩,⟨sx rfl,sx rfl,trivial⟩⟩) (⟨⟨_,rfl,?_⟩,⟨sx rfl,trivial⟩⟩) (⟨rfl,trivial⟩)⟩
     ·refine ⟨by dsimp only; omega,by dsimp only; omega,?_,by simp,k,by dsimp only; omega,o2++[t2],rfl,hi⟩
      simp only [List.length_cons,List.length_append,List.length_nil] at ho ⊢; omega
     ·dsimp only; omega
     ·exact tx (uGb _ _)
     ·rfl
   ·skip
    refine uAs ?_;refine uAe (uAb ?_);refine uAt rfl (uAI (.inl rfl) rfl rfl rfl) ?_;refine uAa rfl rfl rfl (uAc rfl gU) ?_;refine uAH (.o 0) rfl rfl rfl rfl rfl rfl (hih) rfl (by rfl) (by rfl) rfl rfl rfl ?_;refine uAM (xs:=[_]) rfl rfl rfl rfl rfl rfl rfl rfl rfl gU rfl ?_;refine uAt rfl (uA2 rfl rfl rfl rfl rfl rfl rfl (by first | omega | (simp only [List.length_append,List.length_singleton,T.rows_len]; omega)) (by first | omega | (simp only [List.length_append,List.length_singleton,T.rows_len]; omega))) ?_;refine uAt rfl (uAI (.inr rfl) rfl rfl rfl) ?_;refine uAf ?_;refine uAm (s:=⟨[(0,_,_),(2,_,_),(3,_,_)],[(.l 2,_),(.o 0,_)],[(.t 3,_)],[]⟩) (uAj (⟨sx rfl,sx rfl,sx rfl,trivial⟩) (⟨sx rfl,sx rfl,trivial⟩) (⟨rfl,trivial⟩)) ?_;refine uAe (uAb ?_);refine uAa rfl rfl rfl (uAc rfl gU) ?_;refine uAa rfl rfl rfl (uAv rfl gU) ?_;refine uAa rfl rfl rfl (uAh rfl gU rfl rfl) ?_;refine uAa rfl rfl rfl (uAn rfl gU rfl rfl rfl rfl) ?_;refine uAa rfl rfl rfl (uAc rfl gU) ?_;refine uAa rfl rfl rfl (uAc rfl gU) ?_;refine uKM (xb false) rfl rfl rfl ?_;refine uAa rfl rfl rfl (uA8 rfl (fun hh=>hh)) ?_;refine uAa rfl rfl rfl (uAJ rfl rfl gU (fun _ hi=>gP rfl hi)) ?_;refine uAf ?_;refine uAm (s:=⟨[(0,_,_),(2,_,_),(3,_,_),(25,_,_)],[(.l 2,_),(.o 0,_)],[(.t 3,_)],[]⟩) (uAj (⟨sx rfl,sx rfl,sx rfl,sx rfl,trivial⟩) (⟨sx rfl,sx rfl,trivial⟩) (⟨rfl,trivial⟩)) ?_
    refine uAl rfl (fun hc2=>?_) (fun hc2=>?_)
    ·try simp only [nn,uAi,T.rows_len,Tk.rows_len] at hc2
     have hz : symQ l ⟨at2,true⟩ [44]=false:=rfl
     rw [uC4 hz] at hi
     refine uAL ?_
     repeat (first | refine uAF ?_ | refine uAG ?_ | refine uAC rfl ?_)
     refine uAe (uAb ?_);refine uAa rfl rfl rfl (uAc rfl gU) ?_;refine uAH (.o 0) rfl rfl rfl rfl rfl rfl (uBb _ _ _ (by omega) (by first | omega | (dsimp only; omega) | (simp only [PS.go]; omega))) rfl (by rfl) (by rfl) rfl rfl rfl ?_;refine uAf ?_;refine uAe (uAb ?_);refine uAa rfl rfl rfl (uAc rfl gU) ?_;refine uAA rfl rfl rfl rfl rfl rfl gU gU (htup2 ((uAQ l n p.go).1 :: (o2++[t2])) _ (by simp [T.rows_eq]) (by simp) (by simp only [List.length_cons,List.length_append,List.length_nil] at ho ⊢; omega)) rfl ?_;refine uAt rfl (uAx rfl rfl rfl rfl rfl rfl rfl) ?_;refine uAf ?_;refine uAo ?_
     repeat (first | refine tR ?_ | refine bR ?_)
     refine uAr rfl ?_ (⟨⟨_,rfl,?_⟩,trivial⟩)
     (all_goals first | (rw [he,← hi]; done) | (rw [he,← hi]; rfl))
    ·exfalso
     simp at hc2
  ·try simp only [nn,uAi,T.rows_len,Tk.rows_len] at hc
   have hs : symP l p [60]=p:=by rw [symP,hc]; rfl
   have he : uAQ l (n + 1) p=if symQ l (uAw l [] p).2 [40]=true then
     (if symQ l (uAw l [] p).2.go [41]=true then (⟨3,(uAw l [] p).1,0,[]⟩,(uAw l [] p).2.go.go)
     else (⟨3,(uAw l [] p).1,0,(uBj l (uAQ l n) (uAw l [] p).2.go).1⟩,uA4 l [41] (uBj l (uAQ l n) (uAw l [] p).2.go).2))
    else (⟨2,(uAw l [] p).1,0,[]⟩,(uAw l [] p).2):=by rw [uAQ,if_neg (by rw [hc]; simp)]
   have b1:=uA1 l [] p
   rw [hs]
   refine uAp ?_;refine uAe (uAb ?_);refine uAa rfl rfl rfl (uAc rfl gU) ?_;refine uAH (.o 0) rfl rfl rfl rfl rfl rfl (uBv l p [] (by omega) (by omega)) rfl (by rfl) (by rfl) rfl rfl rfl ?_;refine uAa rfl rfl rfl (uAU rfl Tryz.underlying39 rfl gU) ?_;refine uAt rfl (uAN rfl rfl rfl) ?_;refine uAt rfl (uAx rfl rfl rfl rfl rfl rfl rfl) ?_;refine uAf ?_;refine uAm (s:=⟨[(0,_,_),(2,_,_),(4,_,_)],[(.l 2,_),(.l 4,_),(.o 0,_)],[],[]⟩) (uAj (⟨sx rfl,sx rfl,sx rfl,trivial⟩) (⟨sx rfl,sx rfl,sx rfl,trivial⟩) trivial) ?_;refine uAe ?_;refine uAe (uAb ?_);refine uAa rfl rfl rfl (uAc rfl gU) ?_;refine uAH (.o 0) rfl rfl rfl rfl rfl rfl (uBQ _ _ _ (by omega) (by first | omega | (dsimp only; omega) | (simp only [PS.go]; omega))) rfl (by rfl) (by rfl) rfl rfl rfl ?_;refine uAa rfl rfl rfl (uA8 rfl gU) ?_;refine uAf ?_;refine uAl rfl (fun hc2=>?_) (fun hc2=>?_)
   ·try simp only [nn,uAi,T.rows_len,Tk.rows_len] at hc2
    rw [if_neg (by rw [hc2]; simp)] at he
    have hs2 : symP l (uAw l [] p).2 [40]=(uAw l [] p).2:=by rw [symP,hc2]; rfl
    rw [hs2]
    refine uAe (uAb ?_);refine uAa rfl rfl rfl (uAy rfl gU rfl rfl rfl rfl rfl) ?_;refine uAt rfl (uAx rfl rfl rfl rfl rfl rfl rfl) ?_;refine uAf ?_;refine uAo ?_
    repeat (first | refine tR ?_ | refine bR ?_)
    refine uAr rfl ?_ (⟨⟨_,rfl,?_⟩,trivial⟩)
    (all_goals first | (rw [he]; done) | (rw [he]; rfl))
   ·try simp only [nn,uAi,T.rows_len,Tk.rows_len] at hc2
    rw [if_pos hc2] at he
    have hlt:=(uCj hc2).1
    have hg2:=hg (uAw l [] p).2
    have hs2 : symP l (uAw l [] p).2 [40]=(uAw l [] p).2.go:=by rw [symP,if_pos hc2]
    rw [hs2]
    refine uAp ?_;refine uAe (uAb ?_);refine uAa rfl rfl rfl (uAh rfl gU rfl rfl) ?_;refine uAt rfl (uAx rfl rfl rfl rfl rfl rfl rfl) ?_;refine uAf ?_;refine uAe ?_;refine uAe (uAb ?_);refine uAa rfl rfl rfl (uAc rfl gU) ?_;refine uAH (.o 0) rfl rfl rfl rfl rfl rfl (uBQ _ _ _ (by omega) (by first | omega | (dsimp only; omega) | (simp only [PS.go]; omega))) rfl (by rfl) (by rfl) rfl rfl rfl ?_;refine uAa rfl rfl rfl (uA8 rfl gU) ?_;refine uAf ?_;refine uAm (s:=⟨[(0,_,_),(2,_,_),(4,_,_),(40,_,_)],[(.l 2,_),(.l 4,_),(.o 0,_)],[],[]⟩) (uAj (⟨sx rfl,sx rfl,sx rfl,sx rfl,trivial⟩) (⟨sx rfl,sx rfl,sx rfl,trivial⟩) trivial) ?_;refine uAl rfl (fun hc3=>?_) (fun hc3=>?_)
    ·try simp only [nn,uAi,T.rows_len,Tk.rows_len] at hc3
     rw [if_neg (by rw [hc3]; simp)] at he
     have hs3 : symP l (uAw l [] p).2.go [41]=(uAw l [] p).2.go:=by rw [symP,hc3]; rfl
     have a3:=uCM (uCq l n) (uAw l [] p).2.go
     rw [hs3]
     refine uAe (uAb ?_);refine uAa rfl rfl rfl (uAc rfl gU) ?_;refine uAH (.o 0) rfl rfl rfl rfl rfl rfl (uI6 l n hl ih (uAw l [] p).2.go (by omega) (by omega)) rfl (by rfl) (by rfl) rfl rfl rfl ?_;refine uAa rfl rfl rfl (uAh rfl gU rfl rfl) ?_;refine uAt rfl (uAx rfl rfl rfl rfl rfl rfl rfl) ?_;refine uAf ?_;refine uAb ?_;refine uAa rfl rfl rfl (uAc rfl gU) ?_;refine uAH (.o 0) rfl rfl rfl rfl rfl rfl (uBb _ _ _ (by omega) (by first | omega | (dsimp only; omega) | (simp only [PS.go]; omega))) rfl (by rfl) (by rfl) rfl rfl rfl ?_;refine uAf ?_;refine uAm (s:=⟨[(2,_,_),(4,_,_)],[(.l 2,_),(.l 4,_),(.o 0,_)],[],[]⟩) (uAj (⟨sx rfl,sx rfl,trivial⟩) (⟨sx rfl,sx rfl,sx rfl,trivial⟩) trivial) ?_;refine uAe (uAb ?_);refine uAa rfl rfl rfl (uAy rfl gU rfl rfl rfl rfl rfl) ?_;refine uAt rfl (uAx rfl rfl rfl rfl rfl rfl rfl) ?_;refine uAf ?_;refine uAo ?_
     repeat (first | refine tR ?_ | refine bR ?_)
     refine uAr rfl ?_ (⟨⟨_,rfl,?_⟩,trivial⟩)
     (all_goals first | (rw [he]; done) | (rw [he]; rfl))
    ·try simp only [nn,uAi,T.rows_len,Tk.rows_len] at hc3
     rw [if_pos hc3] at he
     have hs3 : symP l (uAw l [] p).2.go [41]=(uAw l [] p).2.go.go:=by rw [symP,if_pos hc3]
     rw [hs3]
     refine uAp ?_;refine uAe (uAb ?_);refine uAa rfl rfl rfl (uAy rfl gU rfl rfl rfl rfl rfl) ?_;refine uAt rfl (uAx rfl rfl rfl rfl rfl rfl rfl) ?_;refine uAf ?_;refine uAo ?_
     repeat (first | refine tR ?_ | refine bR ?_)
     refine uAr rfl ?_ (⟨⟨_,rfl,?_⟩,trivial⟩)
     (all_goals first | (rw [he]; done) | (rw [he]; rfl))
end Go.Proofs.YtnjjdbapadkomaaGreatDoor
namespace Go.Proofs.YtnjjdbapadkomaaGreatDoor
open Go Go.Proofs Go.RowKit Go.Shelf
attribute [local go_sem] Oper.semAt_some
set_option maxHeartbeats 2000000 in
theorem uNr (F : Fence) (n : Nat) (hf : F.fn 152) (hro : F.round=none) (a : Option Addr) (len cap : Nat) (w : World) :
  CallsIn F n Tryz.prog 152 #[.slice a len cap] w fun e w'=>e = .returned (.func (.func 168) #[] #[.pointer (some ⟨w.heap.size,0,none⟩)])∧w'=w.alloc (.cells #[.slice a len cap] 37):=by
 refine callsIn_of_wp Tryz.func152 rfl hf ?_ hro
 simp only [Tryz.ntmps152,List.size_toArray,List.length_cons,List.length_nil,Nat.reduceAdd,Nat.reduceSub,Array.replicate_succ,Array.replicate_zero,List.push_toArray,List.append_toArray,List.nil_append,List.cons_append]
 gi_wp2
 go_ret
 exact ⟨rfl,rfl⟩
def uC9 {α : Type} (el : Nat→α) (len k : Nat) : List α:=(List.range (len - k)).map fun j=>el (len - 1 - j)
theorem uGQ {α : Type} (el : Nat→α) {len k : Nat} (h : k < len) : uC9 el len k=uC9 el len (k + 1)++[el k]:=by
 unfold uC9
 rw [show len - k=(len - (k + 1)) + 1 by omega,List.range_succ,List.map_append]
 simp only [List.map_cons,List.map_nil]
 rw [show len - 1 - (len - (k + 1))=k by omega]
theorem uLd {α : Type} (el : Nat→α) (len k : Nat) : (uC9 el len k).length=len - k:=by simp [uC9]
theorem uHD {α : Type} (el : Nat→α) (len : Nat) : uC9 el len len=[]:=by simp [uC9]
def KeepB (n₀ Bo : Nat) (W W' : World) : Prop:=∀ b,b < n₀→b≠Bo→W'.heap[b]? = W.heap[b]?
theorem KeepB.refl (n₀ Bo : Nat) (W : World) : KeepB n₀ Bo W W:=fun _ _ _=>rfl
theorem KeepB.trans {n₀ Bo : Nat} {A B C : World} (h : KeepB n₀ Bo A B) (k : KeepB n₀ Bo B C) : KeepB n₀ Bo A C:=fun b h1 h2=>(k b h1 h2).trans (h b h1 h2)
theorem KeepB.cell {n₀ Bo : Nat} {A B : World} (h : KeepB n₀ Bo A B) {b : Nat} (o : Nat) (h1 : b < n₀) (h2 : b≠Bo) : B.cell? ⟨b,o,none⟩=A.cell? ⟨b,o,none⟩:=by
 unfold World.cell?; dsimp only; rw [h b h1 h2]
theorem KeepB.alloc {n₀ Bo : Nat} (W : World) (ob : Obj) (h : n₀≤W.heap.size) : KeepB n₀ Bo W (W.alloc ob):=fun b h1 _=>Below.heap_alloc W ob b (by omega)
theorem KeepB.putObj {n₀ Bo : Nat} (W : World) (l : Nat) (o' : Obj) (h : n₀≤l) : KeepB n₀ Bo W (W.putObj l o'):=fun b h1 _=>World.putObj_heap_other (by omega)
set_option maxRecDepth 100000 in
set_option maxHeartbeats 2000000 in
theorem uM0 (F : Fence) (n : Nat) (hf : F.fn 168) (hro : F.round=none) (hn : 1≤n) (l Bs n₀ Bo b off len cap : Nat) (hlen : len≤3000000) (hb : b < n₀) (hbo : b≠Bo) (hBo : Bs≠Bo) {α : Type} (ix : α→Nat) (v0 v1 v2 v3 : α→Value) (el : Nat→α) (hix : ∀ k,ix (el k)=k)
  (J Jx : List α→World→Prop)
  (hY : ∀ pre x W,J pre W→pre.length < len→YieldAt F (n - 1) Tryz.prog l #[.int .i64 (ix x : Int), .agg #[v0 x,v1 x,v2 x,v3 x]] W fun e W' =>
   (e = .returned (.bool true)∧J (pre++[x]) W'∧KeepB n₀ Bo W W')∨(e = .returned (.bool false)∧Jx (pre++[x]) W'))
  (W : World) (hBs : W.cell? ⟨Bs,0,none⟩=some (.slice (some ⟨b,off,none⟩) len cap))
  (hc : ∀ j,j < len→W.cell? ⟨b,off + j * 4,none⟩=some (v0 (el j))∧W.cell? ⟨b,off + j * 4 + 1,none⟩=some (v1 (el j))∧W.cell? ⟨b,off + j * 4 + 2,none⟩=some (v2 (el j))∧W.cell? ⟨b,off + j * 4 + 3,none⟩=some (v3 (el j)))
  (hBn : Bs < n₀) (h0 : J [] W) :
  CallsIn F n Tryz.prog 168 #[.func (.yield l) #[] #[], .pointer (some ⟨Bs,0,none⟩)] W fun e W'=>(∃ v,e = .returned v) ∧
   ((∃ ys,ys=uC9 el len 0∧J ys W')∨(∃ pre,True∧Jx pre W')):=by
 refine callsIn_of_wp Tryz.func168 rfl hf ?_ hro
 simp only [Tryz.ntmps168,List.size_toArray,List.length_cons,List.length_nil,Nat.reduceAdd,Nat.reduceSub,Array.replicate_succ,Array.replicate_zero,List.push_toArray,List.append_toArray,List.nil_append,List.cons_append]
 gi_wp2
 gi_loopw [3] (fun i wr=>∃ k : Nat,k≤len∧i = .int .i64 ((k : Int) - 1)∧J (uC9 el len k) wr∧KeepB n₀ Bo W wr)
  (fun i _=>(intOf i + 1).toNat)
 case atStart=>exact ⟨len,Nat.le_refl _,by simp,by rw [uHD]; exact h0,KeepB.refl _ _ _⟩
 case round =>
  obtain ⟨k,hk,rfl,hJs,hnx⟩:=hrel
  cases k with
  | zero =>
   gi_wp2
   go_end0
   exact ⟨⟨_,rfl⟩, .inl ⟨_,rfl,hJs⟩⟩
  | succ k =>
   have hlt : k < len:=by omega
   obtain ⟨c0,c1,c2,c3⟩:=hc k hlt
   replace c0:=(hnx.cell (off + k * 4) hb hbo).trans c0
   replace c1:=(hnx.cell (off + k * 4 + 1) hb hbo).trans c1
   replace c2:=(hnx.cell (off + k * 4 + 2) hb hbo).trans c2
   replace c3:=(hnx.cell (off + k * 4 + 3) hb hbo).trans c3
   have cB:=(hnx.cell 0 hBn hBo).trans hBs
   obtain ⟨fn,tmps,assign,body,hy,hR⟩:=hY _ (el k) wr hJs (by rw [uLd]; omega)
   rw [hix] at hy
   have ek : ((k + 1 : Nat) : Int) - 1=(k : Int):=by omega
   rw [ek]
   gi_wp2
   refine hR.mono ?_
   rintro e W3 (⟨rfl,hJ3,hk3⟩ | ⟨rfl,hJx3⟩)
   ·gi_wp2
    go_roundw
    case rel=>exact ⟨k,by omega,by simp,by rw [uGQ el hlt]; exact hJ3,hnx.trans hk3⟩
    case measure=>simp [intOf]
   ·gi_wp2
    refine bodyPost_ret (results_none rfl _ _ _) rfl ?_;exact ⟨⟨_,rfl⟩, .inr ⟨_,trivial,hJx3⟩⟩
theorem uKj (F : Fence) (n : Nat) (hf : F.fn 168) (hro : F.round=none) (hn : 1≤n) (Bs Bo b off len cap : Nat) (hlen : len≤3000000) {α : Type} (ix : α→Nat) (v0 v1 v2 v3 : α→Value) (el : Nat→α) (hix : ∀ k,ix (el k)=k) (w : World)
  (hb : b < w.heap.size) (hbo : b≠Bo) (hBo : Bs≠Bo) (hBn : Bs < w.heap.size) (hBs : w.cell? ⟨Bs,0,none⟩=some (.slice (some ⟨b,off,none⟩) len cap))
  (hc : ∀ j,j < len→w.cell? ⟨b,off + j * 4,none⟩=some (v0 (el j))∧w.cell? ⟨b,off + j * 4 + 1,none⟩=some (v1 (el j))∧w.cell? ⟨b,off + j * 4 + 2,none⟩=some (v2 (el j))∧w.cell? ⟨b,off + j * 4 + 3,none⟩=some (v3 (el j))) :
  SeqStopsK F n Tryz.prog 168 #[.pointer (some ⟨Bs,0,none⟩)] (fun x=>#[.int .i64 (ix x : Int), .agg #[v0 x,v1 x,v2 x,v3 x]]) (KeepB w.heap.size Bo) (fun ys=>ys=uC9 el len 0) (fun _=>True) len w:=fun l J Jx W hW _ _ hY h0=>by
 have kc : ∀ {b' : Nat} (o : Nat),b' < w.heap.size→W.cell? ⟨b',o,none⟩=w.cell? ⟨b',o,none⟩:=fun o h=>hW.cell (p:=⟨_,o,none⟩) h
 exact uM0 F n hf hro hn l Bs w.heap.size Bo b off len cap hlen hb hbo hBo ix v0 v1 v2 v3 el hix J Jx hY W ((kc 0 hBn).trans hBs) (fun j hj=>by
  obtain ⟨c0,c1,c2,c3⟩:=hc j hj
  exact ⟨(kc _ hb).trans c0,(kc _ hb).trans c1,(kc _ hb).trans c2,(kc _ hb).trans c3⟩) hBn h0
abbrev tInt (n : Int) : Value:=.int .i64 n
abbrev tStr (l : List UInt8) : Value:=.string ⟨l.toArray⟩
abbrev Elm (w : World) (S : Nat→Nat→Prop):={ x : Nat × T × Option Addr × Nat × Nat // Abs.CRep w S (.sl 4 (T.rows x.2.1.kids)) (.slice x.2.2.1 x.2.2.2.1 x.2.2.2.2)∧x.2.1.name.length≤9223372036854775807 }
def uBP (t : T) {w : World} {S : Nat→Nat→Prop} (l : List (Elm w S)) : T:=l.foldl (fun out x=>uHO x.1.2.1 out) t
theorem uDC (t : T) {w : World} {S : Nat→Nat→Prop} (l : List (Elm w S)) (x : Elm w S) : uBP t (l++[x])=uHO x.1.2.1 (uBP t l):=by simp [uBP]
theorem uLm {w : World} {S : Nat→Nat→Prop} {t : T} {a b c d : Value} (h0 : Abs.CRep w S (.i .i64 t.kind) a) (h1 : Abs.CRep w S (.s t.name) b) (h2 : Abs.CRep w S (.i .i64 t.sort) c) (h3 : Abs.CRep w S (.sl 4 (T.rows t.kids)) d) :
  a=tInt t.kind∧b=tStr t.name∧c=tInt t.sort∧(∃ p l k,d = .slice p l k)∧t.name.length≤9223372036854775807:=by
 cases h0; cases h2
 cases h1 with
 | s _ hm =>
 refine ⟨rfl,rfl,rfl,?_,hm⟩
 generalize T.rows t.kids=es at h3
 cases h3 <;> exact ⟨_,_,_,rfl⟩
theorem uFD {W : World} {B : Nat} {t : TypeId} {a b c d : Value} (h : W.heap[B]? = some (.cells #[a,b,c,d] t (0,0))) (a' b' c' d' : Value) :
  ((((W.setCell ⟨B,0,none⟩ a').setCell ⟨B,1,none⟩ b').setCell ⟨B,2,none⟩ c').setCell ⟨B,3,none⟩ d').heap[B]? = some (.cells #[a',b',c',d'] t (0,0)):=by
 have h1:=heap_setCell_same W B 0 _ t a' h
 have h2:=heap_setCell_same _ B 1 _ t b' h1
 have h3:=heap_setCell_same _ B 2 _ t c' h2
 exact heap_setCell_same _ B 3 _ t d' h3
theorem heap_cells4' (W : World) {B k : Nat} (hk : k≠B) (a' b' c' d' : Value) :
  ((((W.setCell ⟨B,0,none⟩ a').setCell ⟨B,1,none⟩ b').setCell ⟨B,2,none⟩ c').setCell ⟨B,3,none⟩ d').heap[k]? = W.heap[k]? := by
 rw [Below.heap_setCell _ _ _ _ hk,Below.heap_setCell _ _ _ _ hk,Below.heap_setCell _ _ _ _ hk,Below.heap_setCell _ _ _ _ hk]
theorem uDv {W W' : World} {b : Nat} (h : W'.heap[b]? = W.heap[b]?) (o : Nat) : W'.cell? ⟨b,o,none⟩=W.cell? ⟨b,o,none⟩:=by
 unfold World.cell?; dsimp only; rw [h]
def TupI (w : World) (S : Nat→Nat→Prop) (z : Array Value) (last : T) (pre : List (Elm w S)) (W : World) : Prop :=
 (∃ (S' : Nat→Nat→Prop) (p : Option Addr) (l k : Nat),W.heap[w.heap.size + 1]? = some (.cells #[tInt (uBP last pre).kind,tStr (uBP last pre).name,tInt (uBP last pre).sort, .slice p l k] 39 (0,0))∧W.heap[w.heap.size]? = some (.cells z 39 (0,0)) ∧
  Abs.CRep W S' (.sl 4 (T.rows (uBP last pre).kids)) (.slice p l k)∧(uBP last pre).name.length≤9223372036854775807∧(∀ b o,S b o→S' b o) ∧ ∀ b o,S' b o→S b o∨(w.heap.size + 2≤b ∧ ∃ v,W.cell? ⟨b,o,none⟩=some v))∧Below w.heap.size w W∧w.heap.size + 3≤W.heap.size
theorem uIP (w : World) (S : Nat→Nat→Prop) (hS : ∀ b o,S b o→b < w.heap.size) (z : Array Value) (last : T) (B : Nat) (hB : w.heap.size≤B) : OwnFrom B (TupI w S z last):=by
 rintro pre X Y row ⟨⟨S',p,l,k,h1,h2,h3,hn,h4,h5⟩,h6,h7⟩ hg hr
 have hkeep : ∀ (k : Nat) (o : Obj),X.heap[k]? = some o→o.isCells=true→Y.heap[k]? = some o:=by
  intro k o hk ho
  refine (hg.block k (Array.getElem?_eq_some_iff.1 hk).1 fun e=>?_).trans hk
  obtain ⟨_,o',h7,h8⟩:=hr k e.symm
  rw [hk] at h7; cases h7; rw [ho] at h8; cases h8
 have hcell : ∀ (b o : Nat) (v : Value),X.cell? ⟨b,o,none⟩=some v→Y.cell? ⟨b,o,none⟩=some v:=by
  intro b o v hv
  obtain ⟨x,hx,hxc⟩:=cells_of_cell hv
  unfold World.cell? at hv ⊢
  dsimp only at hv hx ⊢
  rw [hkeep b x hx hxc]; rw [hx] at hv; exact hv
 have hbl : Below w.heap.size w Y:=h6.grown hg h6.size (fun k e=>Nat.le_trans hB (hr k e).1)
 refine ⟨⟨S',p,l,k,hkeep _ _ h1 rfl,hkeep _ _ h2 rfl,Abs.CRep.mono (fun _ _ h=>h) (fun b o hs=>?_) h3,hn,h4,fun b o hs=>?_⟩,hbl,Nat.le_trans h7 hg.size⟩
 ·rcases h5 b o hs with q | ⟨_,v,q⟩
  ·rw [hbl.cell (p:=⟨b,o,none⟩) (hS b o q),h6.cell (p:=⟨b,o,none⟩) (hS b o q)]
  ·rw [q,hcell b o v q]
 ·rcases h5 b o hs with q | ⟨q1,v,q⟩
  ·exact .inl q
  ·exact .inr ⟨q1,v,hcell b o v q⟩
theorem tupT_cons' (t : T) (ts : List T) (h : ts≠[]) : tupT (t :: ts)=uHO t (tupT ts):=by
 cases ts with
 | nil=>exact absurd rfl h
 | cons u l=>rfl
theorem uFK {w : World} {S : Nat→Nat→Prop} (el : Nat→Elm w S) (ts : List T) (m : Nat) (hm : ts.length=m + 1) (he : ∀ k,k < m→(el k).1.2.1=ts.getD k default) : ∀ d j,j + d=m→uBP (ts.getD m default) (uC9 el m j)=tupT (ts.drop j)
 | 0,j,h=>by
  have : j=m:=by omega
  subst this
  rw [uHD,List.drop_eq_getElem_cons (by omega),List.drop_of_length_le (by omega)]
  show ts.getD j default=ts[j]
  rw [List.getD_eq_getElem?_getD,List.getElem?_eq_getElem (by omega)]; rfl
 | d + 1,j,h=>by
  rw [uGQ el (by omega),uDC,uFK el ts m hm he d (j + 1) (by omega),he j (by omega),List.drop_eq_getElem_cons (i := j) (by omega),tupT_cons' _ _ (by intro q; have := congrArg List.length q; simp at this; omega),List.getD_eq_getElem?_getD,List.getElem?_eq_getElem (by omega)]
  rfl
abbrev elV0 {w : World} {S : Nat→Nat→Prop} (x : Elm w S) : Value:=tInt x.1.2.1.kind
abbrev elV1 {w : World} {S : Nat→Nat→Prop} (x : Elm w S) : Value:=tStr x.1.2.1.name
abbrev elV2 {w : World} {S : Nat→Nat→Prop} (x : Elm w S) : Value:=tInt x.1.2.1.sort
abbrev elV3 {w : World} {S : Nat→Nat→Prop} (x : Elm w S) : Value:=.slice x.1.2.2.1 x.1.2.2.2.1 x.1.2.2.2.2
set_option maxRecDepth 100000 in
set_option maxHeartbeats 4000000 in
theorem uNL (F : Fence) (n : Nat) (h1f : F.fn 115) (h2f : F.fn 152) (h3f : F.fn 168) (hro : F.round=none) (hn : 3≤n)
  (w : World) (S : Nat→Nat→Prop) (hS : ∀ b o,S b o→b < w.heap.size) (ts : List T) (hts : 0 < ts.length) (hmax : ts.length≤3000000) (v : Value) (hv : Abs.CRep w S (.sl 4 (T.rows ts)) v) :
  CallsIn F n Tryz.prog 115 #[v] w fun e W'=>∃ (vs : List Value) (S' : Nat→Nat→Prop),e = .returned (.agg vs.toArray)∧Abs.All2 (Abs.CRep W' S') (tupT ts).cells vs∧Below w.heap.size w W'∧(∀ b o,S b o→S' b o) ∧ ∀ b o,S' b o→S b o∨(w.heap.size≤b∧b < W'.heap.size):=by
 have h1 : 1≤n:=by omega
 have hrl:=T.rows_len ts
 generalize hes : T.rows ts=es at hv hrl
 cases hv with
 | emp=>simp at hrl; omega
 | sl _ _ b off len cap vals hl hc hm hsz hcell hrep =>
 have hlen : len=ts.length:=by omega
 subst hlen
 have hrow : ∀ i,i < ts.length→es[i]? = some (ts.getD i default).cells:=fun i hi=>by rw [← hes]; exact T.rows_at hi
 have hb : b < w.heap.size:=hS _ _ (hcell 0 0 hts (by omega)).1
 have hel : ∀ i,i < ts.length → ∃ p l k,Abs.CRep w S (.sl 4 (T.rows (ts.getD i default).kids)) (.slice p l k)∧(ts.getD i default).name.length≤9223372036854775807 ∧
   w.cell? ⟨b,off + i * 4,none⟩=some (tInt (ts.getD i default).kind)∧w.cell? ⟨b,off + i * 4 + 1,none⟩=some (tStr (ts.getD i default).name)∧w.cell? ⟨b,off + i * 4 + 2,none⟩=some (tInt (ts.getD i default).sort)∧w.cell? ⟨b,off + i * 4 + 3,none⟩=some (.slice p l k):=by
  intro i hi
  have hr:=hrow i hi
  have r0:=hrep _ _ 0 _ hr rfl
  have r1:=hrep _ _ 1 _ hr rfl
  have r2:=hrep _ _ 2 _ hr rfl
  have r3:=hrep _ _ 3 _ hr rfl
  obtain ⟨q0,q1,q2,⟨p,l,k,q3⟩,q4⟩:=uLm r0 r1 r2 r3
  have c0:=(hcell i 0 hi (by omega)).2
  have c1:=(hcell i 1 hi (by omega)).2
  have c2:=(hcell i 2 hi (by omega)).2
  have c3:=(hcell i 3 hi (by omega)).2
  rw [q0] at c0; rw [q1] at c1; rw [q2] at c2; rw [q3] at c3 r3
  exact ⟨p,l,k,r3,q4,c0,c1,c2,c3⟩
 obtain ⟨m,hm1⟩ : ∃ m,ts.length=m + 1:=⟨ts.length - 1,by omega⟩
 have hex : ∀ i,∃ x : Elm w S,x.1.1=i∧(i < m→x.1.2.1=ts.getD i default∧w.cell? ⟨b,off + i * 4,none⟩=some (elV0 x)∧w.cell? ⟨b,off + i * 4 + 1,none⟩=some (elV1 x)∧w.cell? ⟨b,off + i * 4 + 2,none⟩=some (elV2 x)∧w.cell? ⟨b,off + i * 4 + 3,none⟩=some (elV3 x)):=by
  intro i
  by_cases hi : i < m
  ·obtain ⟨p,l,k,r,hnl,q0,q1,q2,q3⟩:=hel i (by omega)
   exact ⟨⟨(i,ts.getD i default,p,l,k),r,hnl⟩,rfl,fun _=>⟨rfl,q0,q1,q2,q3⟩⟩
  ·obtain ⟨p,l,k,r,hnl,q0,q1,q2,q3⟩:=hel m (by omega)
   exact ⟨⟨(i,ts.getD m default,p,l,k),r,hnl⟩,rfl,fun q=>absurd q hi⟩
 obtain ⟨el,hel1⟩ : ∃ el : Nat→Elm w S,∀ i,(el i).1.1=i∧(i < m→(el i).1.2.1=ts.getD i default∧w.cell? ⟨b,off + i * 4,none⟩=some (elV0 (el i))∧w.cell? ⟨b,off + i * 4 + 1,none⟩=some (elV1 (el i))∧w.cell? ⟨b,off + i * 4 + 2,none⟩=some (elV2 (el i))∧w.cell? ⟨b,off + i * 4 + 3,none⟩=some (elV3 (el i))) :=
  ⟨fun i=>Classical.choose (hex i),fun i=>Classical.choose_spec (hex i)⟩
 obtain ⟨lp,ll,lk,lr,ln,c0,c1,c2,c3⟩:=hel m (by omega)
 have hfold:=uFK el ts m hm1 (fun k hk=>((hel1 k).2 hk).1) m 0 (by omega)
 clear hel hex hcell hrep hsz hrow
 rw [List.drop_zero] at hfold
 generalize hlast : ts.getD m default=last at *
 have e1 : ((m + 1 : Nat) : Int) - 1=(m : Int):=by omega
 rw [hm1]
 rw [hm1] at hc hm
 refine callsIn_of_wp_marks Tryz.func115 rfl h1f ?_ hro
 simp only [Tryz.ntmps115,List.size_toArray,List.length_cons,List.length_nil,Nat.reduceAdd,Nat.reduceSub,Array.replicate_succ,Array.replicate_zero,List.push_toArray,List.append_toArray,List.nil_append,List.cons_append]
 gi_wp2_with (gi_at_call 152; refine (uNr F (n - 1) h2f hro _ _ _ _).mono ?_; rintro e w' ⟨rfl,rfl⟩)
 have hB0 : Below w.heap.size w (((w.alloc (.cells #[tInt 0, .string ⟨#[]⟩,tInt 0, .slice none 0 0] 39)).alloc (.cells #[tInt last.kind,tStr last.name,tInt last.sort, .slice lp ll lk] 39)).alloc (.cells #[.slice (some ⟨b,off,none⟩) m cap] 37)):=(((Below.refl _ w).alloc (Nat.le_refl _) _).alloc (by simp) _).alloc (by simp; omega) _
 obtain ⟨W0,hW0⟩ : ∃ W0,(((w.alloc (.cells #[tInt 0, .string ⟨#[]⟩,tInt 0, .slice none 0 0] 39)).alloc (.cells #[tInt last.kind,tStr last.name,tInt last.sort, .slice lp ll lk] 39)).alloc (.cells #[.slice (some ⟨b,off,none⟩) m cap] 37))=W0:=⟨_,rfl⟩
 have hsz : W0.heap.size=w.heap.size + 3:=by rw [← hW0]; simp
 have hR : W0.heap[w.heap.size]? = some (.cells #[tInt 0, .string ⟨#[]⟩,tInt 0, .slice none 0 0] 39 (0,0)):=by
  rw [← hW0]; exact ((Below.heap_alloc _ _ _ (by simp; omega)).trans (Below.heap_alloc _ _ _ (by simp))).trans (World.alloc_heap_new w _)
 have hO : W0.heap[w.heap.size + 1]? = some (.cells #[tInt last.kind,tStr last.name,tInt last.sort, .slice lp ll lk] 39 (0,0)):=by
  rw [← hW0]; refine (Below.heap_alloc _ _ _ (by simp)).trans ?_
  have := World.alloc_heap_new (w.alloc (.cells #[tInt 0, .string ⟨#[]⟩,tInt 0, .slice none 0 0] 39)) (.cells #[tInt last.kind,tStr last.name,tInt last.sort, .slice lp ll lk] 39); rwa [World.size_alloc] at this
 have hN : W0.heap[w.heap.size + 1 + 1]? = some (.cells #[.slice (some ⟨b,off,none⟩) m cap] 37 (0,0)):=by
  rw [← hW0]; have := World.alloc_heap_new ((w.alloc (.cells #[tInt 0, .string ⟨#[]⟩,tInt 0, .slice none 0 0] 39)).alloc (.cells #[tInt last.kind,tStr last.name,tInt last.sort, .slice lp ll lk] 39)) (.cells #[.slice (some ⟨b,off,none⟩) m cap] 37); rwa [World.size_alloc,World.size_alloc] at this
 rw [hW0] at hB0
 have hW0' : (((w.alloc (.cells #[.int .i64 0, .string ⟨#[]⟩, .int .i64 0, .slice none 0 0] 39)).alloc (.cells #[.int .i64 last.kind, .string ⟨last.name.toArray⟩, .int .i64 last.sort, .slice lp ll lk] 39)).alloc (.cells #[.slice (some ⟨b,off,none⟩) m cap] 37))=W0:=hW0
 simp only [hW0']
 clear hW0 hW0'
 refine wpIn_rangeFunc_ownH hro h1 (gf:=168) (lb:=#[.pointer (some ⟨w.heap.size + 1 + 1,0,none⟩)]) rfl h3f (enters_of Tryz.func168 (by kernel_rfl) rfl)
  (uKj F (n - 1) h3f hro (by omega) (w.heap.size + 1 + 1) (w.heap.size + 1) b off m cap (by omega) (fun x : Elm w S=>x.1.1) elV0 elV1 elV2 elV3 el (fun k=>(hel1 k).1) W0 (by omega) (by omega) (by omega) (by omega)
   (by unfold World.cell?; rw [hN]; rfl)
   (fun j hj=>by
    obtain ⟨_,q⟩:=hel1 j
    obtain ⟨_,q0,q1,q2,q3⟩:=q hj
    exact ⟨(hB0.cell (p:=⟨b,_,none⟩) hb).trans q0,(hB0.cell (p:=⟨b,_,none⟩) hb).trans q1,(hB0.cell (p:=⟨b,_,none⟩) hb).trans q2,(hB0.cell (p:=⟨b,_,none⟩) hb).trans q3⟩))
  KeepB.trans (fun W l o o' hl _ _ _=>KeepB.putObj W l o' hl) (Below.refl _ _) (fun _=>rfl)
  (TupI w S #[tInt 0, .string ⟨#[]⟩,tInt 0, .slice none 0 0] last) (fun _ _ _=>False) (uIP w S hS _ last _ (by omega)) (fun _ _ _ _ _ hs _ _=>hs)
  ?start
  (fun x a' W=>∃ Bx,w.heap.size + 2 < Bx∧W.heap[Bx]? = some (.cells #[elV0 x,elV1 x,elV2 x,elV3 x] 39 (0,0))∧a' = { tmps:=#[Value.slice (some { block:=b,off:=off }) (m + 1) cap,undef,Value.pointer (some { block:=w.heap.size,off:=0 }),Value.pointer (some { block:=w.heap.size + 1,off:=0 }),undef,Value.pointer (some { block:=Bx,off:=0 }),Value.slice (some { block:=b,off:=off }) (m + 1) cap,Value.slice (some { block:=b,off:=off }) (m + 1) cap,Value.int IntKind.i64 ((m : Int) + 1),Value.int IntKind.i64 ↑m,Value.pointer (some { block:=b,off:=off + m * 4 }),Value.agg #[tInt last.kind,tStr last.name,tInt last.sort,Value.slice lp ll lk],Value.slice (some { block:=b,off:=off }) (m + 1) cap,Value.slice (some { block:=b,off:=off }) (m + 1) cap,Value.int IntKind.i64 ((m : Int) + 1),Value.int IntKind.i64 ↑m,Value.slice (some { block:=b,off:=off }) m cap,Value.func (Fn.func 168) #[] #[Value.pointer (some { block:=w.heap.size + 1 + 1,off:=0 })], .int .i64 x.1.1, .agg #[elV0 x,elV1 x,elV2 x,elV3 x],undef,undef,undef,undef,undef],defers:=[] })
  ?axOwn ?assign ?body ?done ?stop
 case start=>exact ⟨⟨S,lp,ll,lk,hO,hR,Abs.CRep.mono (fun _ _ h=>h) (fun b o hs=>hB0.cell (p:=⟨b,o,none⟩) (hS b o hs)) lr,ln,fun _ _ h=>h,fun _ _ h=>.inl h⟩,hB0,by omega⟩
 case axOwn =>
  rintro x a' _ X Y row ⟨Bx,q1,q2,q3⟩ hg hr
  refine ⟨Bx,q1,(hg.block Bx (Array.getElem?_eq_some_iff.1 q2).1 fun e=>?_).trans q2,q3⟩
  obtain ⟨_,o',h7,h8⟩:=hr Bx e.symm
  rw [q2] at h7; cases h7; cases h8
 case assign =>
  rintro l pre x W K hI hK
  have hsW:=hI.2.2
  gi_wp2
  exact hK _ _ ((KeepsOthers.alloc _ _).from _) (KeepB.alloc W _ (by omega)) ((uIP w S hS _ last w.heap.size (Nat.le_refl _)).alloc _ hI) ⟨W.heap.size,by omega,World.alloc_heap_new W _,rfl⟩
 case body =>
  rintro l pre x a' W hl hrr ⟨⟨S',p,l',k,h1,h2,h3,hn',h4,h5⟩,h6,h7⟩ ⟨Bx,hBx,bX,rfl⟩ hlt
  have cO0 : W.cell? ⟨w.heap.size + 1,0,none⟩=some (tInt (uBP last pre).kind):=by unfold World.cell?; rw [h1]; rfl
  have cO1 : W.cell? ⟨w.heap.size + 1,1,none⟩=some (tStr (uBP last pre).name):=by unfold World.cell?; rw [h1]; rfl
  have cO2 : W.cell? ⟨w.heap.size + 1,2,none⟩=some (tInt (uBP last pre).sort):=by unfold World.cell?; rw [h1]; rfl
  have cO3 : W.cell? ⟨w.heap.size + 1,3,none⟩=some (.slice p l' k):=by unfold World.cell?; rw [h1]; rfl
  have cX0 : W.cell? ⟨Bx,0,none⟩=some (elV0 x):=by unfold World.cell?; rw [bX]; rfl
  have cX1 : W.cell? ⟨Bx,1,none⟩=some (elV1 x):=by unfold World.cell?; rw [bX]; rfl
  have cX2 : W.cell? ⟨Bx,2,none⟩=some (elV2 x):=by unfold World.cell?; rw [bX]; rfl
  have cX3 : W.cell? ⟨Bx,3,none⟩=some (elV3 x):=by unfold World.cell?; rw [bX]; rfl
  have f0 : W.frozen? ⟨w.heap.size + 1,0,none⟩=false:=by unfold World.frozen?; rw [h1]; rfl
  have f1 : W.frozen? ⟨w.heap.size + 1,1,none⟩=false:=by unfold World.frozen?; rw [h1]; rfl
  have f2 : W.frozen? ⟨w.heap.size + 1,2,none⟩=false:=by unfold World.frozen?; rw [h1]; rfl
  have f3 : W.frozen? ⟨w.heap.size + 1,3,none⟩=false:=by unfold World.frozen?; rw [h1]; rfl
  have hltW : w.heap.size + 1 < W.heap.size:=(Array.getElem?_eq_some_iff.1 h1).1
  have hA : ∀ (ob : Obj),(W.alloc ob).heap[w.heap.size + 1]? = some (.cells #[tInt (uBP last pre).kind,tStr (uBP last pre).name,tInt (uBP last pre).sort, .slice p l' k] 39 (0,0)):=fun ob=>(Below.heap_alloc W ob _ hltW).trans h1
  have gO0 : ∀ ob : Obj,(W.alloc ob).cell? ⟨w.heap.size + 1,0,none⟩=some (tInt (uBP last pre).kind):=fun ob=>by unfold World.cell?; rw [hA]; rfl
  have gO1 : ∀ ob : Obj,(W.alloc ob).cell? ⟨w.heap.size + 1,1,none⟩=some (tStr (uBP last pre).name):=fun ob=>by unfold World.cell?; rw [hA]; rfl
  have gO2 : ∀ ob : Obj,(W.alloc ob).cell? ⟨w.heap.size + 1,2,none⟩=some (tInt (uBP last pre).sort):=fun ob=>by unfold World.cell?; rw [hA]; rfl
  have gO3 : ∀ ob : Obj,(W.alloc ob).cell? ⟨w.heap.size + 1,3,none⟩=some (.slice p l' k):=fun ob=>by unfold World.cell?; rw [hA]; rfl
  have e0 : ∀ ob : Obj,(W.alloc ob).frozen? ⟨w.heap.size + 1,0,none⟩=false:=fun ob=>by unfold World.frozen?; rw [hA]; rfl
  have e1 : ∀ ob : Obj,(W.alloc ob).frozen? ⟨w.heap.size + 1,1,none⟩=false:=fun ob=>by unfold World.frozen?; rw [hA]; rfl
  have e2 : ∀ ob : Obj,(W.alloc ob).frozen? ⟨w.heap.size + 1,2,none⟩=false:=fun ob=>by unfold World.frozen?; rw [hA]; rfl
  have e3 : ∀ ob : Obj,(W.alloc ob).frozen? ⟨w.heap.size + 1,3,none⟩=false:=fun ob=>by unfold World.frozen?; rw [hA]; rfl
  clear hA
  gi_wp2
  clear gO0 gO1 gO2 gO3 e0 e1 e2 e3 cO0 cO1 cO2 cO3 cX0 cX1 cX2 cX3 f0 f1 f2 f3
  obtain ⟨W1,hW1⟩ : ∃ W1,((((W.setCell ⟨w.heap.size + 1,0,none⟩ (.int .i64 3)).setCell ⟨w.heap.size + 1,1,none⟩ (.string ⟨#[112,97,105,114]⟩)).setCell ⟨w.heap.size + 1,2,none⟩ (.int .i64 0)).setCell ⟨w.heap.size + 1,3,none⟩ (.slice (some ⟨W.heap.size,0,none⟩) 2 2))=W1:=⟨_,rfl⟩
  have hs1 : W1.heap.size=W.heap.size:=by rw [← hW1]; simp [World.setCell]
  have k1 : W1.heap[w.heap.size + 1]? = some (.cells #[tInt 3, .string ⟨#[112,97,105,114]⟩,tInt 0, .slice (some ⟨W.heap.size,0,none⟩) 2 2] 39 (0,0)):=by rw [← hW1]; exact uFD h1 _ _ _ _
  have k2 : ∀ j,j≠w.heap.size + 1→W1.heap[j]? = W.heap[j]? := fun j hj=>by rw [← hW1]; exact heap_cells4' W hj _ _ _ _
  have ko : KeepsOthers W W1:=by rw [← hW1]; exact (((KeepsOthers.setCell _ _ _).trans (KeepsOthers.setCell _ _ _)).trans (KeepsOthers.setCell _ _ _)).trans (KeepsOthers.setCell _ _ _)
  have kb : Below w.heap.size W W1:=by rw [← hW1]; exact ((((Below.refl _ W).setCell (p:=⟨w.heap.size + 1,0,none⟩) (by simp) _).setCell (p:=⟨w.heap.size + 1,1,none⟩) (by simp) _).setCell (p:=⟨w.heap.size + 1,2,none⟩) (by simp) _).setCell (p:=⟨w.heap.size + 1,3,none⟩) (by simp) _
  rw [hW1]
  clear hW1
  obtain ⟨ob,hob⟩ : ∃ ob : Obj,Obj.cells #[elV0 x,elV1 x,elV2 x,elV3 x,tInt (uBP last pre).kind,tStr (uBP last pre).name,tInt (uBP last pre).sort,Value.slice p l' k] 39 (0,0)=ob:=⟨_,rfl⟩
  have knew:=World.alloc_heap_new W1 ob
  rw [hs1] at knew
  have kold : ∀ j,j < W.heap.size→j≠w.heap.size + 1→(W1.alloc ob).heap[j]? = W.heap[j]? := fun j hj hne=>(Below.heap_alloc W1 ob j (by omega)).trans (k2 j hne)
  have hb1 : Below w.heap.size W (W1.alloc ob):=kb.alloc (by omega) ob
  rw [hob]
  refine ⟨(ko.trans (KeepsOthers.alloc W1 ob)).from _,fun j hj hne=>kold j (by omega) hne,⟨fun b o=>S' b o∨(b=W.heap.size∧o < 8),some ⟨W.heap.size,0,none⟩,2,2,?_,?_,?_,?_,fun b o hs=>.inl (h4 b o hs),?_⟩,h6.trans hb1,by rw [World.size_alloc]; omega⟩
  ·rw [uDC]
   exact (Below.heap_alloc W1 ob _ (by omega)).trans k1
  ·exact (kold _ (by omega) (by omega)).trans h2
  ·have hS' : ∀ b o,S' b o→(W1.alloc ob).cell? ⟨b,o,none⟩=W.cell? ⟨b,o,none⟩:=fun b o hs=>by
    rcases h5 b o hs with q | ⟨q1,v,q⟩
    ·exact hb1.cell (p:=⟨b,o,none⟩) (hS b o q)
    ·exact uDv (kold b (World.block_lt_of_cell? (a:=⟨b,o,none⟩) W q) (by omega)) o
   have hSS : ∀ b o,S b o→(W1.alloc ob).cell? ⟨b,o,none⟩=w.cell? ⟨b,o,none⟩:=fun b o hs=>(h6.trans hb1).cell (p:=⟨b,o,none⟩) (hS b o hs)
   have r1:=Abs.CRep.mono (S':=fun b o=>S' b o∨(b=W.heap.size∧o < 8)) (fun b o hs=>.inl (h4 b o hs)) hSS x.2.1
   have r2:=Abs.CRep.mono (S':=fun b o=>S' b o∨(b=W.heap.size∧o < 8)) (fun b o hs=>.inl hs) hS' h3
   rw [uDC]
   have hc8 : ∀ o,(W1.alloc ob).cell? ⟨W.heap.size,o,none⟩ = #[elV0 x,elV1 x,elV2 x,elV3 x,tInt (uBP last pre).kind,tStr (uBP last pre).name,tInt (uBP last pre).sort,Value.slice p l' k][o]? := fun o=>by
    unfold World.cell?; dsimp only; rw [knew,← hob]; rfl
   refine Abs.CRep.mk_sl (by rw [T.rows_len]; rfl) (Nat.le_refl _) (by omega) fun i row hi=>?_
   have hrr : T.rows (uHO x.1.2.1 (uBP last pre)).kids=[x.1.2.1.cells,(uBP last pre).cells]:=by rw [T.rows_eq]; rfl
   rw [hrr] at hi
   match i,hi with
   | 0,hi =>
    simp only [List.getElem?_cons_zero,Option.some.injEq] at hi
    subst hi
    refine ⟨rfl,fun j c hj=>?_⟩
    match j,hj with
    | 0,hj=>simp [T.cells] at hj; subst hj; exact ⟨.inr ⟨rfl,by omega⟩,_,(hc8 _).trans rfl, .i _ _⟩
    | 1,hj=>simp [T.cells] at hj; subst hj; exact ⟨.inr ⟨rfl,by omega⟩,_,(hc8 _).trans rfl, .s _ x.2.2⟩
    | 2,hj=>simp [T.cells] at hj; subst hj; exact ⟨.inr ⟨rfl,by omega⟩,_,(hc8 _).trans rfl, .i _ _⟩
    | 3,hj=>simp [T.cells] at hj; subst hj; exact ⟨.inr ⟨rfl,by omega⟩,_,(hc8 _).trans rfl,r1⟩
    | j + 4,hj=>simp [T.cells] at hj
   | 1,hi =>
    simp only [List.getElem?_cons_succ,List.getElem?_cons_zero,Option.some.injEq] at hi
    subst hi
    refine ⟨rfl,fun j c hj=>?_⟩
    match j,hj with
    | 0,hj=>simp [T.cells] at hj; subst hj; exact ⟨.inr ⟨rfl,by omega⟩,_,(hc8 _).trans rfl, .i _ _⟩
    | 1,hj=>simp [T.cells] at hj; subst hj; exact ⟨.inr ⟨rfl,by omega⟩,_,(hc8 _).trans rfl, .s _ hn'⟩
    | 2,hj=>simp [T.cells] at hj; subst hj; exact ⟨.inr ⟨rfl,by omega⟩,_,(hc8 _).trans rfl, .i _ _⟩
    | 3,hj=>simp [T.cells] at hj; subst hj; exact ⟨.inr ⟨rfl,by omega⟩,_,(hc8 _).trans rfl,r2⟩
    | j + 4,hj=>simp [T.cells] at hj
   | i + 2,hi=>simp at hi
  ·rw [uDC]; show wPair.length≤_; decide
  ·rintro b o (hs | ⟨rfl,ho⟩)
   ·rcases h5 b o hs with q | ⟨q1,v,q⟩
    ·exact .inl q
    ·exact .inr ⟨q1,v,(uDv (kold b (World.block_lt_of_cell? (a:=⟨b,o,none⟩) W q) (by omega)) o).trans q⟩
   ·refine .inr ⟨by omega,?_⟩
    unfold World.cell?
    dsimp only
    rw [knew,← hob]
    exact ⟨_,Array.getElem?_eq_getElem (by simpa using ho)⟩
 case done =>
  rintro D ys W hD rfl ⟨⟨S',p,l',k,h1,h2,h3,hn',h4,h5⟩,h6,h7⟩ hK
  have cO0 : W.cell? ⟨w.heap.size + 1,0,none⟩=some (tInt (uBP last (uC9 el m 0)).kind):=by unfold World.cell?; rw [h1]; rfl
  have cO1 : W.cell? ⟨w.heap.size + 1,1,none⟩=some (tStr (uBP last (uC9 el m 0)).name):=by unfold World.cell?; rw [h1]; rfl
  have cO2 : W.cell? ⟨w.heap.size + 1,2,none⟩=some (tInt (uBP last (uC9 el m 0)).sort):=by unfold World.cell?; rw [h1]; rfl
  have cO3 : W.cell? ⟨w.heap.size + 1,3,none⟩=some (.slice p l' k):=by unfold World.cell?; rw [h1]; rfl
  have cR0 : W.cell? ⟨w.heap.size,0,none⟩=some (tInt 0):=by unfold World.cell?; rw [h2]; rfl
  have cR1 : W.cell? ⟨w.heap.size,1,none⟩=some (.string ⟨#[]⟩):=by unfold World.cell?; rw [h2]; rfl
  have cR2 : W.cell? ⟨w.heap.size,2,none⟩=some (tInt 0):=by unfold World.cell?; rw [h2]; rfl
  have cR3 : W.cell? ⟨w.heap.size,3,none⟩=some (.slice none 0 0):=by unfold World.cell?; rw [h2]; rfl
  have f0 : W.frozen? ⟨w.heap.size,0,none⟩=false:=by unfold World.frozen?; rw [h2]; rfl
  have f1 : W.frozen? ⟨w.heap.size,1,none⟩=false:=by unfold World.frozen?; rw [h2]; rfl
  have f2 : W.frozen? ⟨w.heap.size,2,none⟩=false:=by unfold World.frozen?; rw [h2]; rfl
  have f3 : W.frozen? ⟨w.heap.size,3,none⟩=false:=by unfold World.frozen?; rw [h2]; rfl
  gi_wp2
  clear cO0 cO1 cO2 cO3 cR0 cR1 cR2 cR3 f0 f1 f2 f3
  rw [hfold] at h1 h3 hn'
  obtain ⟨W1,hW1⟩ : ∃ W1,((((W.setCell ⟨w.heap.size,0,none⟩ (.int .i64 (tupT ts).kind)).setCell ⟨w.heap.size,1,none⟩ (.string ⟨(tupT ts).name.toArray⟩)).setCell ⟨w.heap.size,2,none⟩ (.int .i64 (tupT ts).sort)).setCell ⟨w.heap.size,3,none⟩ (.slice p l' k))=W1:=⟨_,rfl⟩
  have hs1 : W1.heap.size=W.heap.size:=by rw [← hW1]; simp [World.setCell]
  have k1 : W1.heap[w.heap.size]? = some (.cells #[tInt (tupT ts).kind,tStr (tupT ts).name,tInt (tupT ts).sort, .slice p l' k] 39 (0,0)):=by rw [← hW1]; exact uFD h2 _ _ _ _
  have k2 : ∀ j,j≠w.heap.size→W1.heap[j]? = W.heap[j]? := fun j hj=>by rw [← hW1]; exact heap_cells4' W hj _ _ _ _
  have kb : Below w.heap.size W W1:=by rw [← hW1]; exact ((((Below.refl _ W).setCell (p:=⟨w.heap.size,0,none⟩) (by simp) _).setCell (p:=⟨w.heap.size,1,none⟩) (by simp) _).setCell (p:=⟨w.heap.size,2,none⟩) (by simp) _).setCell (p:=⟨w.heap.size,3,none⟩) (by simp) _
  rw [hW1]
  clear hW1
  have hDne : D≠w.heap.size:=by omega
  have hK' : W1.heap[D]? = some (.deferred (some [])):=(k2 D hDne).trans hK
  refine ⟨by simp, .inl ⟨_,_,rfl,run_takeDeferred hK',?_⟩⟩
  have k3 : (W1.putObj D (.deferred none)).heap[w.heap.size]? = some (.cells #[tInt (tupT ts).kind,tStr (tupT ts).name,tInt (tupT ts).sort, .slice p l' k] 39 (0,0)):=(World.putObj_heap_other hDne.symm).trans k1
  have hb1 : Below w.heap.size W (W1.putObj D (.deferred none)):=kb.trans (belowK_b (w:=w) (Nat.le_refl _) W1 D _ _ (by omega) hK' rfl rfl)
  have hold : ∀ b o,S' b o→(W1.putObj D (.deferred none)).cell? ⟨b,o,none⟩=W.cell? ⟨b,o,none⟩:=fun b o hs=>by
   rcases h5 b o hs with q | ⟨q1,v,q⟩
   ·exact hb1.cell (p:=⟨b,o,none⟩) (hS b o q)
   ·have hbD : b≠D:=by
     rintro rfl
     obtain ⟨y,hy,hyc⟩:=cells_of_cell q
     rw [show W.heap[b]? = _ from hK] at hy
     cases hy; cases hyc
    exact uDv ((World.putObj_heap_other hbD).trans (k2 b (by omega))) o
  have z0 : (W1.putObj D (.deferred none)).cell? ⟨w.heap.size,0,none⟩=some (tInt (tupT ts).kind):=by unfold World.cell?; rw [k3]; rfl
  have z1 : (W1.putObj D (.deferred none)).cell? ⟨w.heap.size,1,none⟩=some (tStr (tupT ts).name):=by unfold World.cell?; rw [k3]; rfl
  have z2 : (W1.putObj D (.deferred none)).cell? ⟨w.heap.size,2,none⟩=some (tInt (tupT ts).sort):=by unfold World.cell?; rw [k3]; rfl
  have z3 : (W1.putObj D (.deferred none)).cell? ⟨w.heap.size,3,none⟩=some (.slice p l' k):=by unfold World.cell?; rw [k3]; rfl
  refine ⟨.agg #[tInt (tupT ts).kind,tStr (tupT ts).name,tInt (tupT ts).sort, .slice p l' k],?_,[tInt (tupT ts).kind,tStr (tupT ts).name,tInt (tupT ts).sort, .slice p l' k],S',rfl,⟨.i _ _, .s _ hn', .i _ _,Abs.CRep.mono (fun _ _ h=>h) hold h3,trivial⟩,h6.trans hb1,h4,fun b o hs=>?_⟩
  ·simp [results,Tryz.f115,go_sem,z0,z1,z2,z3]
  ·rcases h5 b o hs with q | ⟨q1,v,q⟩
   ·exact .inl q
   ·have := World.block_lt_of_cell? (a := ⟨b,o,none⟩) W q
    have hsz5:=hb1.size
    exact .inr ⟨by omega,Nat.lt_of_lt_of_le this hsz5⟩
 case stop=>rintro D c pre W _ _ h _; exact h.elim
theorem uKt (ts : List T) (hts : 0 < ts.length) (hmax : ts.length≤3000000) : Abs.Ctr sys 115 [xl ts] [] (xm (tupT ts)) none []:=by
 refine ⟨⟨_,Tryz.func115,by kernel_rfl,by kernel_rfl⟩,fun w G vs hvs hwf hbx hbox hown _=>?_⟩
 match vs,hvs with
 | [v],⟨hv,_⟩ =>
  have hv : Abs.CRep w G.S (.sl 4 (T.rows ts)) v:=hv
  have hS : ∀ b o,G.S b o→b < w.heap.size:=fun b o hs=>hwf b o (by rw [show G.W b o = .imm from hs]; simp)
  refine (callsIn_wide.1 (uNL Fence.wide 3 trivial trivial trivial rfl (Nat.le_refl _) w G.S hS ts hts hmax v hv)).mono ?_
  rintro e W' ⟨us,S',rfl,h1,h2,h3,h4⟩
  open Classical in
  let G' : Abs.Gh:={ G with W:=fun b o=>if S' b o then .imm else G.W b o }
  have hI : ∀ b o,G'.W b o = .imm→S' b o:=fun b o h=>by
   by_cases hs : S' b o
   ·exact hs
   ·have h : (if S' b o then Abs.Who.imm else G.W b o) = .imm:=h
    rw [if_neg hs] at h
    exact h3 b o h
  have hO : ∀ b o p,G'.W b o ≠ .own p:=fun b o p h=>by
   have h : (if S' b o then Abs.Who.imm else G.W b o) = .own p:=h
   split at h
   ·cases h
   ·exact hown b o p h
  refine ⟨_,G',rfl,Abs.Fr.ofBelow h2,fun b o h=>if_pos (h3 b o h),fun b o hb h=>?_,fun b o h=>?_,⟨us,rfl,h1.mono fun c v hc=>hc.mono (fun b o hs=>if_pos hs) (fun _ _ _=>rfl)⟩,fun _=>rfl,fun j cs h=>by simp at h,fun sz h=>by simp at h,fun b o h=>absurd h (hO b o _)⟩
  ·rcases h4 b o (hI b o h) with q | ⟨q,_⟩
   ·exact q
   ·omega
  ·by_cases hs : S' b o
   ·rcases h4 b o hs with q | ⟨_,q⟩
    ·exact Nat.lt_of_lt_of_le (hS b o q) h2.size
    ·exact q
   ·have h : (if S' b o then Abs.Who.imm else G.W b o) ≠ .none:=h
    rw [if_neg hs] at h
    exact Nat.lt_of_lt_of_le (hwf b o h) h2.size
theorem uFn (l : List Tk) (hl : l.length≤2000000) (n : Nat) (p : PS) (hp : p.at'≤l.length) (hn : l.length - p.at' < n) : Abs.Ctr sys 66 [xpp] [pbx l p] (xm (uAQ l n p).1) none [pbx l (uAQ l n p).2] :=
 uM7 l hl (fun ts h1 h2=>uKt ts h1 h2) n p hp hn
end Go.Proofs.YtnjjdbapadkomaaGreatDoor
namespace Go.Abs
def uOh (s : St) (os : OS) : Bool:=os.all fun e=>match s.own (.b (.o e.1) e.2.1) with
 | some z=>Nat.beq z e.2.2
 | none=>false
theorem uBx {T : List (Option TyI)} {rs : List ResultVar} {res x : X} {bs' : List (List C)} {os : OS} {s : St} (h : resX T s rs=some x) (hx : x=res) (hb : subB s (uC3 0 bs')) (ho : uOh s os=true) : retO T rs res bs' os .box .normal s:=by
 have h1 : retS T rs res none bs' .ret s:=uAr h hx hb
 refine ⟨h1.1,h1.2.2,fun e he=>?_⟩
 have := List.all_eq_true.1 ho e he
 split at this
 ·rename_i z hz; rw [hz,Nat.eq_of_beq_eq_true this]
 ·simp at this
end Go.Abs
namespace Go.Proofs.YtnjjdbapadkomaaGreatDoor
open Go Go.Abs
noncomputable def sysO : Pg:={ P:=Tryz.prog,T:=tab,ok:=uMz,mix:=uMd,gv:=[(0,intAt)],old:=true }
theorem up {f : FuncId} {args : List X} {bs bs' : List (List C)} {res : X} {ro : Option Nat} (h : Ctr sys f args bs res ro bs') : Ctr sysO f args bs res ro bs':=h.wk rfl fun _ hg=>hg
def osN : OS:=[(1,1,1),(1,2,3),(1,3,1),(1,4,7),(1,5,5)]
abbrev xnn : X:=.v (.ptr (.o 1) 0)
theorem uBq {l : List Tk} {c : List UInt8} {p : PS} (h : p.at'≤l.length) : (uA4 l c p).at'≤l.length:=(uBp l c p).2 h
theorem uBm {l : List Tk} {ws : List (List UInt8)} {p : PS} (h : p.at'≤l.length) : (uAw l ws p).2.at'≤l.length:=(uA1 l ws p).2 h
theorem le3 {l : List Tk} {x : Nat} (hl : l.length≤2000000) (h : x≤l.length) : x≤3000000:=by omega
theorem uNf (l : List Tk) (p : PS) (n : Nar) (line : Int) (hl : l.length≤2000000) (hp : p.at'≤l.length) (hn : n.steps.length≤3000000)
  (hterm : ∀ p : PS,p.at'≤l.length→Ctr sys 66 [xpp] [pbx l p] (xm (uAQ l (l.length + 1) p).1) none [pbx l (uAQ l (l.length + 1) p).2]) :
  CtrO sysO 111 [xpp,xnn,xi line] [pbx l p,n.cells] osN (.tup []) [pbx l (uCl l line p).2,({ n with steps:=n.steps++[(uCl l line p).1] } : Nar).cells] .box:=by
 have hrs:=Sp.rows_len n.steps
 have hrl:=Tk.rows_len l
 refine uDb Tryz.func111 rfl rfl rfl rfl rfl rfl rfl ?_;refine uAe (uAb ?_);refine uAa rfl rfl rfl (uAc rfl gU) ?_;refine uAH (.o 0) rfl rfl rfl rfl rfl rfl (up (uBv l _ [] (by omega) (le3 hl (by repeat (first | exact hp | refine uBq ?_ | refine uBm ?_))))) rfl (by rfl) (by rfl) rfl rfl rfl ?_;refine uAa rfl rfl rfl (uAc rfl gU) ?_;refine uAa rfl rfl rfl (uAU rfl Tryz.underlying67 rfl gU) ?_;refine uAt rfl (uAN rfl rfl rfl) ?_;refine uAt rfl (uAx rfl rfl rfl rfl rfl rfl rfl) ?_;refine uAf ?_;refine uAm (s:=⟨[(0,_,_),(1,_,_),(6,_,_)],[(.l 6,_),(.o 0,_),(.o 1,_)],[(.b (.o 1) 1,_),(.b (.o 1) 2,_),(.b (.o 1) 3,_),(.b (.o 1) 4,_),(.b (.o 1) 5,_)],[]⟩) (uAj (⟨sx rfl,sx rfl,sx rfl,trivial⟩) (⟨sx rfl,sx rfl,sx rfl,trivial⟩) (⟨rfl,rfl,rfl,rfl,rfl,trivial⟩)) ?_;refine uAe (uAb ?_);refine uAa rfl rfl rfl (uAc rfl gU) ?_;refine uAH (.o 0) rfl rfl rfl rfl rfl rfl (up (uBb l _ _ (by omega) (le3 hl (by repeat (first | exact hp | refine uBq ?_ | refine uBm ?_))))) rfl (by rfl) (by rfl) rfl rfl rfl ?_;refine uAf ?_;refine uAe (uAb ?_);refine uAa rfl rfl rfl (uAc rfl gU) ?_;refine uAH (.o 0) rfl rfl rfl rfl rfl rfl (up (uBb l _ _ (by omega) (le3 hl (by repeat (first | exact hp | refine uBq ?_ | refine uBm ?_))))) rfl (by rfl) (by rfl) rfl rfl rfl ?_
 refine uAf ?_;refine uAe (uAb ?_);refine uAa rfl rfl rfl (uAc rfl gU) ?_;refine uAH (.o 0) rfl rfl rfl rfl rfl rfl (up (uBv l _ [] (by omega) (le3 hl (by repeat (first | exact hp | refine uBq ?_ | refine uBm ?_))))) rfl (by rfl) (by rfl) rfl rfl rfl ?_;refine uAa rfl rfl rfl (uAh rfl gU rfl rfl) ?_;refine uAt rfl (uAx rfl rfl rfl rfl rfl rfl rfl) ?_;refine uAf ?_;refine uAm (s:=⟨[(0,_,_),(1,_,_),(6,_,_)],[(.l 6,_),(.o 0,_),(.o 1,_)],[(.b (.o 1) 1,_),(.b (.o 1) 2,_),(.b (.o 1) 3,_),(.b (.o 1) 4,_),(.b (.o 1) 5,_)],[]⟩) (uAj (⟨sx rfl,sx rfl,sx rfl,trivial⟩) (⟨sx rfl,sx rfl,sx rfl,trivial⟩) (⟨rfl,rfl,rfl,rfl,rfl,trivial⟩)) ?_;refine uAe (uAb ?_);refine uAa rfl rfl rfl (uAc rfl gU) ?_;refine uAH (.o 0) rfl rfl rfl rfl rfl rfl (up (uBb l _ _ (by omega) (le3 hl (by repeat (first | exact hp | refine uBq ?_ | refine uBm ?_))))) rfl (by rfl) (by rfl) rfl rfl rfl ?_;refine uAf ?_;refine uAe (uAb ?_);refine uAa rfl rfl rfl (uAc rfl gU) ?_;refine uAH (.o 0) rfl rfl rfl rfl rfl rfl (up (hterm _ (by repeat (first | exact hp | refine uBq ?_ | refine uBm ?_)))) rfl (by rfl) (by rfl) rfl rfl rfl ?_;refine uAa rfl rfl rfl (uAh rfl gU rfl rfl) ?_;refine uAt rfl (uAx rfl rfl rfl rfl rfl rfl rfl) ?_;refine uAf ?_;refine uAm (s:=⟨[(1,_,_),(6,_,_)],[(.l 6,_),(.o 0,_),(.o 1,_)],[(.b (.o 1) 1,_),(.b (.o 1) 2,_),(.b (.o 1) 3,_),(.b (.o 1) 4,_),(.b (.o 1) 5,_)],[]⟩) (uAj (⟨sx rfl,sx rfl,trivial⟩) (⟨sx rfl,sx rfl,sx rfl,trivial⟩) (⟨rfl,rfl,rfl,rfl,rfl,trivial⟩)) ?_
 refine awp_drawn' (by kernel_rfl) ?_;refine uAg rfl rfl rfl rfl (uAc rfl gU) ?_;refine uAg rfl rfl rfl rfl (uAc rfl gU) ?_;refine uAg rfl rfl rfl rfl (uAv rfl gU) ?_;refine uAg rfl rfl rfl rfl (uAh rfl gU rfl rfl) ?_;refine uBZ rfl rfl rfl rfl rfl rfl rfl rfl rfl rfl rfl rfl ?_;refine uB1 rfl rfl rfl rfl rfl rfl rfl gU rfl rfl rfl rfl rfl ?_;refine uCr (xs:=[_]) rfl rfl rfl rfl rfl rfl rfl rfl rfl rfl gU rfl ?_;refine uB6 rfl rfl rfl rfl rfl rfl rfl rfl rfl rfl rfl (by first | omega | (simp only [List.length_append,List.length_singleton,Sp.rows_len]; omega)) (by first | omega | (simp only [List.length_append,List.length_singleton,Sp.rows_len]; omega)) ?_;refine uAg rfl rfl rfl rfl (uAv rfl gU) ?_;refine uAg rfl rfl rfl rfl (uAh rfl gU rfl rfl) ?_;refine uBW rfl rfl rfl rfl rfl rfl rfl rfl rfl rfl rfl rfl ?_;refine uBf (by kernel_rfl) ?_;refine uBx rfl ?_ (⟨⟨_,rfl,?_⟩,⟨⟨_,rfl,?_⟩,trivial⟩⟩) (by kernel_rfl)
 all_goals first | rfl | (simp only [Nar.cells,Sp.rows_app]; rfl)
end Go.Proofs.YtnjjdbapadkomaaGreatDoor
namespace Go.Proofs.YtnjjdbapadkomaaGreatDoor
open Go Go.Abs
theorem uGx (s : List UInt8) : ∀ l : List (List UInt8),uBw l s=idxF (fun x=>decide (s=x)) l
 | []=>rfl
 | x :: l=>by
  rw [uBw,idxF,uGx s l]
  by_cases h : x=s
  ·rw [if_pos h,if_pos (by simp [h])]
  ·have h' : ¬decide (s=x)=true:=by rw [decide_eq_true_eq]; exact fun e=>h (Eq.symm e)
   rw [if_neg h,if_neg h']
theorem uEH (s : List UInt8) : ∀ l : List (List UInt8),-1≤uBw l s∧uBw l s < l.length
 | []=>by simp [uBw]
 | x :: l=>by
  have := uEH s l
  rw [uBw]
  simp only [List.length_cons]
  split
  ·omega
  ·split <;> omega
theorem uEx : Ctr sys 95 [] [] (xss kindW) none []:=by
 refine uAz Tryz.func95 rfl rfl rfl rfl rfl rfl ?_;refine uAe (uAb ?_);refine uAa rfl rfl rfl (uAd rfl gU) ?_;refine uAf ?_;refine uAe (uAb ?_);refine uAM (xs:=[_,_,_,_,_]) rfl rfl rfl rfl rfl rfl rfl rfl rfl gU rfl ?_;refine uAa rfl rfl rfl (uAd rfl gU) ?_;refine uAf ?_;refine uAo ?_
 repeat (first | refine tR ?_ | refine bR ?_)
 refine uAr rfl ?_ trivial
 rfl
theorem uEy : Ctr sys 41 [] [] (xss sortW) none []:=by
 refine uAz Tryz.func41 rfl rfl rfl rfl rfl rfl ?_;refine uAe (uAb ?_);refine uAa rfl rfl rfl (uAd rfl gU) ?_;refine uAf ?_;refine uAe (uAb ?_);refine uAM (xs:=[_,_,_]) rfl rfl rfl rfl rfl rfl rfl rfl rfl gU rfl ?_;refine uAa rfl rfl rfl (uAd rfl gU) ?_;refine uAf ?_;refine uAo ?_
 repeat (first | refine tR ?_ | refine bR ?_)
 refine uAr rfl ?_ trivial
 rfl
set_option maxHeartbeats 2000000 in
theorem uMH (l : List Tk) (p : PS) (n : Nar) (line : Int) (hl : l.length≤2000000) (hp : p.at'≤l.length) (hn : n.goals.length≤3000000)
  (hterms : ∀ p : PS,p.at'≤l.length→Ctr sys 116 [xpp] [pbx l p] (xl (uBj l (uAQ l (l.length + 1)) p).1) none [pbx l (uBj l (uAQ l (l.length + 1)) p).2]) :
  CtrO sysO 112 [xpp,xnn,xi line] [pbx l p,n.cells] osN (.tup []) [pbx l (uB0 l line p).2,({ n with goals:=n.goals++[(uB0 l line p).1] } : Nar).cells] .box:=by
 have hrs:=Gl.rows_len n.goals
 have hrl:=Tk.rows_len l
 have hix:=uEH (uAw l kindW p).1 kindW
 have hkl : (kindW.length : Int)=5:=rfl
 have hixs:=uEG kindW (uAw l kindW p).1
 rw [← uGx] at hixs
 refine uDb Tryz.func112 rfl rfl rfl rfl rfl rfl rfl ?_;refine uAe (uAb ?_);refine uAa rfl rfl rfl (uAc rfl gU) ?_;refine uAa rfl rfl rfl (uAU rfl Tryz.underlying70 rfl gU) ?_;refine uAt rfl (uAN rfl rfl rfl) ?_;refine uAt rfl (uAx rfl rfl rfl rfl rfl rfl rfl) ?_;refine uAf ?_;refine uAe (uAb ?_);refine uAA rfl rfl rfl rfl rfl rfl gU gU (up uEx) rfl ?_;refine uAa rfl rfl rfl (uAc rfl gU) ?_;refine uAA rfl rfl rfl rfl rfl rfl gU gU (up uEx) rfl ?_;refine uAH (.o 0) rfl rfl rfl rfl rfl rfl (up (uBv l _ kindW (by omega) (le3 hl (by repeat (first | exact hp | refine uBq ?_ | refine uBm ?_))))) rfl (by rfl) (by rfl) rfl rfl rfl ?_;refine uAA rfl rfl rfl rfl rfl rfl gU gU (up hixs) rfl ?_;refine uAa rfl rfl rfl (uAq rfl rfl gU gU rfl (IntWalk.i64_in _ (by omega))) ?_;refine uAa rfl rfl rfl (uAh rfl gU rfl rfl) ?_;refine uAt rfl (uAx rfl rfl rfl rfl rfl rfl rfl) ?_;refine uAf ?_;refine uAm (s:=⟨[(0,_,_),(1,_,_),(6,_,_)],[(.l 6,_),(.o 0,_),(.o 1,_)],[(.b (.o 1) 1,_),(.b (.o 1) 2,_),(.b (.o 1) 3,_),(.b (.o 1) 4,_),(.b (.o 1) 5,_)],[]⟩) (uAj (⟨sx rfl,sx rfl,sx rfl,trivial⟩) (⟨sx rfl,sx rfl,sx rfl,trivial⟩) (⟨rfl,rfl,rfl,rfl,rfl,trivial⟩)) ?_;refine uAe (uAb ?_);refine uAa rfl rfl rfl (uAc rfl gU) ?_;refine uAH (.o 0) rfl rfl rfl rfl rfl rfl (up (uBv l _ [] (by omega) (le3 hl (by repeat (first | exact hp | refine uBq ?_ | refine uBm ?_))))) rfl (by rfl) (by rfl) rfl rfl rfl ?_
 refine uAa rfl rfl rfl (uAh rfl gU rfl rfl) ?_;refine uAt rfl (uAx rfl rfl rfl rfl rfl rfl rfl) ?_;refine uAf ?_;refine uAe ?_;refine uAe (uAb ?_);refine uAa rfl rfl rfl (uAy rfl gU rfl rfl rfl rfl rfl) ?_;refine uAA rfl rfl rfl rfl rfl rfl gU gU (up (uBV ⟨1 + uBw kindW (uAw l kindW p).1,(uAw l [] (uAw l kindW p).2).1,[],[],line⟩)) rfl ?_;refine uAf ?_;refine uAm (s:=⟨[(0,_,_),(1,_,_),(6,_,_),(20,_,_)],[(.l 6,_),(.o 0,_),(.o 1,_)],[(.b (.o 1) 1,_),(.b (.o 1) 2,_),(.b (.o 1) 3,_),(.b (.o 1) 4,_),(.b (.o 1) 5,_)],[]⟩) (uAj (⟨sx rfl,sx rfl,sx rfl,sx rfl,trivial⟩) (⟨sx rfl,sx rfl,sx rfl,trivial⟩) (⟨rfl,rfl,rfl,rfl,rfl,trivial⟩)) ?_;refine uAl rfl (fun hc=>?_) (fun hc=>?_)
 ·have h : uBA (1 + uBw kindW (uAw l kindW p).1)=true:=hc
  refine uAb ?_;refine uAa rfl rfl rfl (uAc rfl gU) ?_;refine uAH (.o 0) rfl rfl rfl rfl rfl rfl (up (uBv l _ [] (by omega) (le3 hl (by repeat (first | exact hp | refine uBq ?_ | refine uBm ?_))))) rfl (by rfl) (by rfl) rfl rfl rfl ?_;refine uAa rfl rfl rfl (uAh rfl gU rfl rfl) ?_;refine uAt rfl (uAx rfl rfl rfl rfl rfl rfl rfl) ?_;refine uAf ?_;refine uAe (uAb ?_);refine uAa rfl rfl rfl (uAc rfl gU) ?_;refine uAH (.o 0) rfl rfl rfl rfl rfl rfl (up (uBb l _ _ (by omega) (le3 hl (by repeat (first | exact hp | refine uBq ?_ | refine uBm ?_))))) rfl (by rfl) (by rfl) rfl rfl rfl ?_;refine uAf ?_;refine uAm (s:=⟨[(0,_,_),(1,_,_),(6,_,_)],[(.l 6,_),(.o 0,_),(.o 1,_)],[(.b (.o 1) 1,_),(.b (.o 1) 2,_),(.b (.o 1) 3,_),(.b (.o 1) 4,_),(.b (.o 1) 5,_)],[]⟩) (uAj (⟨sx rfl,sx rfl,sx rfl,trivial⟩) (⟨sx rfl,sx rfl,sx rfl,trivial⟩) (⟨rfl,rfl,rfl,rfl,rfl,trivial⟩)) ?_;refine uAe (uAb ?_);refine uAa rfl rfl rfl (uAc rfl gU) ?_;refine uAH (.o 0) rfl rfl rfl rfl rfl rfl (up (hterms _ (by repeat (first | exact hp | refine uBq ?_ | refine uBm ?_)))) rfl (by rfl) (by rfl) rfl rfl rfl ?_;refine uAa rfl rfl rfl (uAh rfl gU rfl rfl) ?_;refine uAt rfl (uAx rfl rfl rfl rfl rfl rfl rfl) ?_;refine uAf ?_;refine awp_drawn' (by kernel_rfl) ?_;refine uAg rfl rfl rfl rfl (uAc rfl gU) ?_
  refine uAg rfl rfl rfl rfl (uAc rfl gU) ?_;refine uAg rfl rfl rfl rfl (uAv rfl gU) ?_;refine uAg rfl rfl rfl rfl (uAh rfl gU rfl rfl) ?_;refine uBZ rfl rfl rfl rfl rfl rfl rfl rfl rfl rfl rfl rfl ?_;refine uB1 rfl rfl rfl rfl rfl rfl rfl gU rfl rfl rfl rfl rfl ?_;refine uCr (xs:=[_]) rfl rfl rfl rfl rfl rfl rfl rfl rfl rfl gU rfl ?_;refine uB6 rfl rfl rfl rfl rfl rfl rfl rfl rfl rfl rfl (by first | omega | (simp only [List.length_append,List.length_singleton,Gl.rows_len]; omega)) (by first | omega | (simp only [List.length_append,List.length_singleton,Gl.rows_len]; omega)) ?_;refine uAg rfl rfl rfl rfl (uAv rfl gU) ?_;refine uAg rfl rfl rfl rfl (uAh rfl gU rfl rfl) ?_;refine uBW rfl rfl rfl rfl rfl rfl rfl rfl rfl rfl rfl rfl ?_;refine uBf (by kernel_rfl) ?_;refine uBx rfl ?_ (⟨⟨_,rfl,?_⟩,⟨⟨_,rfl,?_⟩,trivial⟩⟩) (by kernel_rfl)
  all_goals first | rfl | (simp only [Nar.cells,Gl.rows_app,uB0,h,if_true]; done) | (simp only [Nar.cells,Gl.rows_app,uB0,h,if_true]; rfl)
 ·have h : uBA (1 + uBw kindW (uAw l kindW p).1)=false:=hc
  refine uAp ?_;refine uAe (uAb ?_);refine uAa rfl rfl rfl (uAc rfl gU) ?_;refine uAH (.o 0) rfl rfl rfl rfl rfl rfl (up (uBb l _ _ (by omega) (le3 hl (by repeat (first | exact hp | refine uBq ?_ | refine uBm ?_))))) rfl (by rfl) (by rfl) rfl rfl rfl ?_;refine uAf ?_;refine uAe (uAb ?_);refine uAa rfl rfl rfl (uAc rfl gU) ?_;refine uAH (.o 0) rfl rfl rfl rfl rfl rfl (up (hterms _ (by repeat (first | exact hp | refine uBq ?_ | refine uBm ?_)))) rfl (by rfl) (by rfl) rfl rfl rfl ?_;refine uAa rfl rfl rfl (uAh rfl gU rfl rfl) ?_;refine uAt rfl (uAx rfl rfl rfl rfl rfl rfl rfl) ?_;refine uAf ?_;refine uAm (s:=⟨[(1,_,_),(6,_,_)],[(.l 6,_),(.o 0,_),(.o 1,_)],[(.b (.o 1) 1,_),(.b (.o 1) 2,_),(.b (.o 1) 3,_),(.b (.o 1) 4,_),(.b (.o 1) 5,_)],[]⟩) (uAj (⟨sx rfl,sx rfl,trivial⟩) (⟨sx rfl,sx rfl,sx rfl,trivial⟩) (⟨rfl,rfl,rfl,rfl,rfl,trivial⟩)) ?_;refine awp_drawn' (by kernel_rfl) ?_;refine uAg rfl rfl rfl rfl (uAc rfl gU) ?_;refine uAg rfl rfl rfl rfl (uAc rfl gU) ?_;refine uAg rfl rfl rfl rfl (uAv rfl gU) ?_;refine uAg rfl rfl rfl rfl (uAh rfl gU rfl rfl) ?_;refine uBZ rfl rfl rfl rfl rfl rfl rfl rfl rfl rfl rfl rfl ?_;refine uB1 rfl rfl rfl rfl rfl rfl rfl gU rfl rfl rfl rfl rfl ?_;refine uCr (xs:=[_]) rfl rfl rfl rfl rfl rfl rfl rfl rfl rfl gU rfl ?_
  refine uB6 rfl rfl rfl rfl rfl rfl rfl rfl rfl rfl rfl (by first | omega | (simp only [List.length_append,List.length_singleton,Gl.rows_len]; omega)) (by first | omega | (simp only [List.length_append,List.length_singleton,Gl.rows_len]; omega)) ?_;refine uAg rfl rfl rfl rfl (uAv rfl gU) ?_;refine uAg rfl rfl rfl rfl (uAh rfl gU rfl rfl) ?_;refine uBW rfl rfl rfl rfl rfl rfl rfl rfl rfl rfl rfl rfl ?_;refine uBf (by kernel_rfl) ?_;refine uBx rfl ?_ (⟨⟨_,rfl,?_⟩,⟨⟨_,rfl,?_⟩,trivial⟩⟩) (by kernel_rfl)
  all_goals first | rfl | (simp only [Nar.cells,Gl.rows_app,uB0,h,Bool.false_eq_true,if_false]; done) | (simp only [Nar.cells,Gl.rows_app,uB0,h,Bool.false_eq_true,if_false]; rfl)
end Go.Proofs.YtnjjdbapadkomaaGreatDoor
namespace Go.Proofs.YtnjjdbapadkomaaGreatDoor
open Go Go.Abs
set_option maxHeartbeats 2000000 in
theorem uFP (l : List Tk) (p : PS) (n : Nar) (hl : l.length≤2000000) (hp : p.at'≤l.length) (hn : n.fresh.length≤3000000) :
  CtrO sysO 110 [xpp,xnn] [pbx l p,n.cells] osN (.tup []) [pbx l (uBM l p n.fresh).2,({ n with fresh:=(uBM l p n.fresh).1 } : Nar).cells] .box:=by
 have hrl:=Tk.rows_len l
 have a1:=uA1 l [] p
 have a2:=uBp l [58] (uAw l [] p).2
 have a3 : (uA4 l [58] (uAw l [] p).2).at'≤l.length:=uBq (uBm hp)
 have hrole : ∃ r,(uAw l [] p).1=r:=⟨_,rfl⟩
 obtain ⟨role,hrole⟩:=hrole
 refine uDb Tryz.func110 rfl rfl rfl rfl rfl rfl rfl ?_;refine uAe (uAb ?_);refine uAa rfl rfl rfl (uAc rfl gU) ?_;refine uAH (.o 0) rfl rfl rfl rfl rfl rfl (up (uBv l _ [] (by omega) (le3 hl (by repeat (first | assumption | refine uBq ?_ | refine uBm ?_))))) rfl (by rfl) (by rfl) rfl rfl rfl ?_;refine uAa rfl rfl rfl (uAd rfl gU) ?_;refine uAf ?_;refine uAe (uAb ?_);refine uAa rfl rfl rfl (uAc rfl gU) ?_;refine uAH (.o 0) rfl rfl rfl rfl rfl rfl (up (uBb l _ _ (by omega) (le3 hl (by repeat (first | assumption | refine uBq ?_ | refine uBm ?_))))) rfl (by rfl) (by rfl) rfl rfl rfl ?_;refine uAf ?_;refine uAm (s:=⟨[(0,_,_),(1,_,_),(4,_,_)],[(.o 0,_),(.o 1,_)],[(.b (.o 1) 1,_),(.b (.o 1) 2,_),(.b (.o 1) 3,_),(.b (.o 1) 4,_),(.b (.o 1) 5,_)],[]⟩) (uAj (⟨sx rfl,sx rfl,sx rfl,trivial⟩) (⟨sx rfl,sx rfl,trivial⟩) (⟨rfl,rfl,rfl,rfl,rfl,trivial⟩)) ?_;refine uAe (uAb ?_);refine uAa rfl rfl rfl (uAd rfl gU) ?_;refine uAf ?_;refine uAs ?_
 rw [hrole]
 refine uAZ (ι:=PS × Bool × List Fs) { t:=[(0,_,_),(1,_,_),(4,_,_)],bx:=[],ow:=[(.b (.o 1) 1,_),(.b (.o 1) 2,_),(.b (.o 1) 3,_),(.b (.o 1) 4,_),(.b (.o 1) 5,_)] } (fun q=>[(5,true,xb q.2.1)]) (fun q=>[((.o 0),pbx l q.1),((.o 1),({ n with fresh:=q.2.2 } : Nar).cells)]) (fun q=>q.1.at'≤l.length∧q.2.2.length≤n.fresh.length + q.1.at' + (if q.2.1=true then 0 else 1) ∧ ∃ k,l.length + 1≤k + q.1.at'∧(if q.2.1=true then uBN l role k q.1 q.2.2 else (q.2.2,q.1))=uBM l p n.fresh) (fun q=>(if q.2.1=true∧q.1.bad=false then 1 else 0) + (l.length - q.1.at')) ((uA4 l [58] (uAw l [] p).2,true,n.fresh)) (⟨a3,by simp,l.length + 1,by dsimp only; omega,by dsimp only; rw [← hrole]; rfl⟩) (uAj (⟨sx rfl,sx rfl,sx rfl,sx rfl,trivial⟩) (⟨sx rfl,sx rfl,trivial⟩) (⟨rfl,rfl,rfl,rfl,rfl,trivial⟩)) ?_
 intro q hok
 dsimp only [List.cons_append,List.nil_append] at *
 obtain ⟨q,more,out⟩:=q
 dsimp only at hok ⊢
 obtain ⟨hq,ho,k,hk,hi⟩:=hok
 have hro:=Fs.rows_len out
 refine uAe ?_;refine uAe (uAb ?_);refine uAa rfl rfl rfl (uAc rfl gU) ?_;refine uAa rfl rfl rfl (uAc rfl gU) ?_;refine uAa rfl rfl rfl (uAc rfl gU) ?_;refine uAa rfl rfl rfl (uAv rfl (fun hh=>hh)) ?_;refine uAa rfl rfl rfl (uAh rfl (fun hh=>hh) rfl rfl) ?_;refine uAa rfl rfl rfl (uAn rfl (fun hh=>hh) rfl rfl rfl rfl) ?_;refine uAa rfl rfl rfl (uA8 rfl (fun hh=>hh)) ?_;refine uAa rfl rfl rfl (uAX rfl rfl gU (fun _ hi=>gP rfl hi)) ?_;refine uAf ?_;refine uAm (s:=⟨[(0,_,_),(1,_,_),(4,_,_),(19,_,_)],[(.o 0,_),(.o 1,_)],[(.b (.o 1) 1,_),(.b (.o 1) 2,_),(.b (.o 1) 3,_),(.b (.o 1) 4,_),(.b (.o 1) 5,_)],[]⟩) (uAj (⟨sx rfl,sx rfl,sx rfl,sx rfl,trivial⟩) (⟨sx rfl,sx rfl,trivial⟩) (⟨rfl,rfl,rfl,rfl,rfl,trivial⟩)) ?_;refine uAl rfl (fun hc=>?_) (fun hc=>?_)
 ·try simp only [nn,uAi,T.rows_len,Tk.rows_len] at hc
  obtain ⟨hm,hb⟩:=hc
  rw [if_pos hm] at hi ho
  obtain ⟨k,rfl⟩ : ∃ j,k=j + 1:=⟨k - 1,by omega⟩
  rw [uBN,if_neg (by rw [hb]; simp)] at hi
  have b1:=uA1 l [] q
  have b2:=uA1 l sortW (uAw l [] q).2
  have hix:=uEH (uAw l sortW (uAw l [] q).2).1 sortW
  have hsl : (sortW.length : Int)=3:=rfl
  have hixs:=uEG sortW (uAw l sortW (uAw l [] q).2).1
  rw [← uGx] at hixs
  refine uAp ?_;refine uAe ?_;refine uAs ?_;refine uAe (uAb ?_);refine uAa rfl rfl rfl (uAc rfl gU) ?_;refine uAH (.o 0) rfl rfl rfl rfl rfl rfl (up (uBv l _ [] (by omega) (le3 hl (by repeat (first | assumption | refine uBq ?_ | refine uBm ?_))))) rfl (by rfl) (by rfl) rfl rfl rfl ?_;refine uAa rfl rfl rfl (uAd rfl gU) ?_;refine uAf ?_;refine uAe (uAb ?_);refine uAA rfl rfl rfl rfl rfl rfl gU gU (up uEy) rfl ?_;refine uAa rfl rfl rfl (uAc rfl gU) ?_;refine uAA rfl rfl rfl rfl rfl rfl gU gU (up uEy) rfl ?_;refine uAH (.o 0) rfl rfl rfl rfl rfl rfl (up (uBv l _ sortW (by omega) (le3 hl (by repeat (first | assumption | refine uBq ?_ | refine uBm ?_))))) rfl (by rfl) (by rfl) rfl rfl rfl ?_;refine uAA rfl rfl rfl rfl rfl rfl gU gU (up hixs) rfl ?_;refine uAa rfl rfl rfl (uAq rfl rfl gU gU rfl (IntWalk.i64_in _ (by omega))) ?_;refine uAa rfl rfl rfl (uAd rfl gU) ?_;refine uAf ?_;refine uAm (s:=⟨[(0,_,_),(1,_,_),(4,_,_),(6,_,_),(7,_,_)],[(.o 0,_),(.o 1,_)],[(.b (.o 1) 1,_),(.b (.o 1) 2,_),(.b (.o 1) 3,_),(.b (.o 1) 4,_),(.b (.o 1) 5,_)],[]⟩) (uAj (⟨sx rfl,sx rfl,sx rfl,sx rfl,sx rfl,trivial⟩) (⟨sx rfl,sx rfl,trivial⟩) (⟨rfl,rfl,rfl,rfl,rfl,trivial⟩)) ?_;refine uAb ?_;refine uAa rfl rfl rfl (uAc rfl gU) ?_;refine uAa rfl rfl rfl (uAc rfl gU) ?_
  refine uAa rfl rfl rfl (uAv rfl gU) ?_;refine uAa rfl rfl rfl (uAh rfl gU rfl rfl) ?_;refine uAt rfl (uEu rfl rfl rfl rfl rfl rfl rfl) ?_;refine uAa rfl rfl rfl (uAc rfl gU) ?_;refine uAa rfl rfl rfl (uAc rfl gU) ?_;refine uAa rfl rfl rfl (uAc rfl gU) ?_;refine uAa rfl rfl rfl (uAU rfl Tryz.underlying73 rfl gU) ?_;refine uAM (xs:=[_]) rfl rfl rfl rfl rfl rfl rfl rfl rfl gU rfl ?_;refine uAt rfl (uA2 rfl rfl rfl rfl rfl rfl rfl (by first | omega | (simp only [List.length_append,List.length_singleton,Fs.rows_len]; omega)) (by first | omega | (simp only [List.length_append,List.length_singleton,Fs.rows_len]; omega))) ?_;refine uAa rfl rfl rfl (uAv rfl gU) ?_;refine uBB (s:=⟨[(0,_,_),(1,_,_),(4,_,_),(40,_,_),(41,_,_)],[(.o 0,_),(.o 1,_)],[(.b (.o 1) 1,_),(.b (.o 1) 3,_),(.b (.o 1) 4,_),(.b (.o 1) 5,_),(.t 40,_)],[]⟩) (uAj (⟨sx rfl,sx rfl,sx rfl,sx rfl,sx rfl,trivial⟩) (⟨sx rfl,sx rfl,trivial⟩) (⟨rfl,rfl,rfl,rfl,rfl,trivial⟩)) ?_;refine uAa rfl rfl rfl (uAh rfl gU rfl rfl) ?_;refine uAt rfl (uEt rfl rfl rfl rfl rfl rfl rfl) ?_;refine uAf ?_;refine uAb ?_;refine uAa rfl rfl rfl (uAc rfl gU) ?_;refine uAH (.o 0) rfl rfl rfl rfl rfl rfl (up (uBQ l _ _ (by omega) (le3 hl (by repeat (first | assumption | refine uBq ?_ | refine uBm ?_))))) rfl (by rfl) (by rfl) rfl rfl rfl ?_
  refine uAa rfl rfl rfl (uAd rfl gU) ?_;refine uAf ?_
  generalize hq2 : (uAw l sortW (uAw l [] q).2).2=q2 at *
  refine ⟨(symP l q2 [44],symQ l q2 [44],out++[⟨role,(uAw l [] q).1,2 + uBw sortW (uAw l sortW (uAw l [] q).2).1⟩]),?_,?_,uAj (⟨⟨_,rfl,?_⟩,⟨sx rfl,sx rfl,sx rfl,trivial⟩⟩) (⟨⟨_,rfl,?_⟩,⟨⟨_,rfl,?_⟩,trivial⟩⟩) (⟨rfl,rfl,rfl,rfl,rfl,trivial⟩)⟩
  ·by_cases hz : symQ l q2 [44]=true
   ·have hlt:=(uCj hz).1
    have hs : symP l q2 [44]=q2.go:=by rw [symP,if_pos hz]
    have hg : q2.go.at'=q2.at' + 1:=rfl
    rw [if_pos hz] at hi
    dsimp only
    rw [hs,hz,if_pos rfl]
    refine ⟨by omega,by simp only [List.length_append,List.length_singleton]; omega,k,by omega,by rw [if_pos rfl]; exact hi⟩
   ·have hz' : symQ l q2 [44]=false:=by simpa using hz
    have hs : symP l q2 [44]=q2:=by rw [symP,hz']; rfl
    rw [if_neg hz] at hi
    dsimp only
    rw [hs,hz',if_neg (by simp)]
    refine ⟨by omega,by simp only [List.length_append,List.length_singleton]; omega,k + 1,by omega,by rw [if_neg (by simp)]; exact hi⟩
  ·dsimp only
   rw [if_pos (c:=more=true∧q.bad=false) ⟨hm,hb⟩]
   by_cases hz : symQ l q2 [44]=true
   ·have hlt:=(uCj hz).1
    have hs : symP l q2 [44]=q2.go:=by rw [symP,if_pos hz]
    have hg : q2.go.at'=q2.at' + 1:=rfl
    rw [hs]
    split <;> omega
   ·rw [if_neg (fun q=>hz q.1)]
    have hs : symP l q2 [44]=q2:=by rw [symP,if_neg hz]
    rw [hs]; omega
  ·rfl
  ·rfl
  ·simp only [Nar.cells,Fs.rows_app]; rfl
 ·try simp only [nn,uAi,T.rows_len,Tk.rows_len] at hc
  have hfin : (out,q)=uBM l p n.fresh:=by
   cases more with
   | false=>simpa using hi
   | true =>
    obtain ⟨k,rfl⟩ : ∃ j,k=j + 1:=⟨k - 1,by omega⟩
    rw [if_pos rfl,uBN,if_pos (by simpa using hc)] at hi
    exact hi
  rw [← hfin]
  refine uAL ?_
  repeat (first | refine uAF ?_ | refine uAG ?_ | refine uAC rfl ?_)
  refine uBx rfl ?_ (⟨⟨_,rfl,?_⟩,⟨⟨_,rfl,?_⟩,trivial⟩⟩) (by kernel_rfl)
  all_goals rfl
end Go.Proofs.YtnjjdbapadkomaaGreatDoor
namespace Go.Proofs.YtnjjdbapadkomaaGreatDoor
open Go Go.Abs
theorem ps2 {st : St} {a b : Pass} (ha : st.box a.n=some a.cs) (hb : st.box b.n=some b.cs) : ∀ p ∈ [a,b],st.box p.n=some p.cs:=by
 intro p hp
 rcases List.mem_cons.1 hp with q | q
 ·subst q; exact ha
 ·simp at q; subst q; exact hb
theorem uJ7 (l : List Tk) (hl : l.length≤2000000) (p : PS) (hp : p.at'≤l.length) : Ctr sys 116 [xpp] [pbx l p] (xl (uBj l (uAQ l (l.length + 1)) p).1) none [pbx l (uBj l (uAQ l (l.length + 1)) p).2] :=
 uI6 l (l.length + 1) hl (fun q h1 h2=>uFn l hl _ q h1 h2) p hp (by omega)
theorem uHG (l : List Tk) (p : PS) (n : Nar) (line : Int) (hl : l.length≤2000000) (hp : p.at'≤l.length) (hn : n.steps.length≤3000000) :
  CtrO sysO 111 [xpp,xnn,xi line] [pbx l p,n.cells] osN (.tup []) [pbx l (uCl l line p).2,({ n with steps:=n.steps++[(uCl l line p).1] } : Nar).cells] .box :=
 uNf l p n line hl hp hn fun q hq=>uFn l hl _ q hq (by omega)
theorem uGI (l : List Tk) (p : PS) (n : Nar) (line : Int) (hl : l.length≤2000000) (hp : p.at'≤l.length) (hn : n.goals.length≤3000000) :
  CtrO sysO 112 [xpp,xnn,xi line] [pbx l p,n.cells] osN (.tup []) [pbx l (uB0 l line p).2,({ n with goals:=n.goals++[(uB0 l line p).1] } : Nar).cells] .box :=
 uMH l p n line hl hp hn fun q hq=>uJ7 l hl q hq
theorem uA0 {l : List Tk} {n n' : Nar} {p q : PS} {line : Int} {w : List UInt8} (hw : uAw l uBS p=(w,q)) (hl : uCt l p=line) {r : PS} (h : uBH l n line w q=(n',r)) : uBU l n p=(n',uA4 l [59] r):=by
 unfold uBU; rw [hl,hw]; dsimp only; rw [h]
theorem uEd (l : List Tk) (n : Nar) (line : Int) (q : PS) : uBH l n line uFC q=({ n with roles:=n.roles++(uBI l q).1 },(uBI l q).2):=by rw [uBH,if_pos rfl]
theorem uD9 (l : List Tk) (n : Nar) (line : Int) (q : PS) : uBH l n line uD2 q=({ n with fresh:=(uBM l q n.fresh).1 },(uBM l q n.fresh).2):=by rw [uBH,if_neg (by decide),if_pos rfl]
theorem uD7 (l : List Tk) (n : Nar) (line : Int) (q : PS) : uBH l n line uFU q=({ n with tags:=n.tags++(uBI l q).1 },(uBI l q).2):=by rw [uBH,if_neg (by decide),if_neg (by decide),if_pos rfl]
theorem uD6 (l : List Tk) (n : Nar) (line : Int) (q : PS) : uBH l n line wMsg q=({ n with steps:=n.steps++[(uCl l line q).1] },(uCl l line q).2):=by rw [uBH,if_neg (by decide),if_neg (by decide),if_neg (by decide),if_pos rfl]
theorem uEm (l : List Tk) (n : Nar) (line : Int) (q : PS) : uBH l n line uFG q=({ n with goals:=n.goals++[(uB0 l line q).1] },(uB0 l line q).2):=by rw [uBH,if_neg (by decide),if_neg (by decide),if_neg (by decide),if_neg (by decide),if_pos rfl]
theorem uF8 (l : List Tk) (n : Nar) (line : Int) (q : PS) {w : List UInt8} (h1 : w≠uFC) (h2 : w≠uD2) (h3 : w≠uFU) (h4 : w≠wMsg) (h5 : w≠uFG) : uBH l n line w q=(n,q):=by rw [uBH,if_neg h1,if_neg h2,if_neg h3,if_neg h4,if_neg h5]
set_option maxHeartbeats 4000000 in
theorem uK9 (l : List Tk) (p : PS) (n : Nar) (hl : l.length≤2000000) (hp : p.at'≤l.length) (hn : n.Le 2000000) :
  CtrO sysO 62 [xpp,xnn] [pbx l p,n.cells] osN (.tup []) [pbx l (uBU l n p).2,(uBU l n p).1.cells] .box:=by
 have hrl:=Tk.rows_len l
 have hr1:=uAi n.roles
 have hr2:=uAi n.tags
 have hq1:=uBm (ws:=uBS) hp
 obtain ⟨b1,b2,b3,b4,b5⟩:=hn
 obtain ⟨w,q,hw⟩ : ∃ w q,uAw l uBS p=(w,q):=⟨_,_,rfl⟩
 have hns:=uBv l p uBS (by omega) (by omega)
 rw [hw] at hns hq1
 dsimp only at hns hq1
 have hnl : (uBI l q).1.length≤2000001:=by
  have h1:=uFm (uA1 l []) q
  have h2:=(uCM (uA1 l []) q).2 hq1
  unfold uBI; omega
 have hnr:=uAi (uBI l q).1
 have hq2 : (uBI l q).2.at'≤l.length:=(uCM (uA1 l []) q).2 hq1
 have hq3 : (uBM l q n.fresh).2.at'≤l.length:=(uHv l n.fresh q).2 hq1
 have hq4 : ∀ line,(uCl l line q).2.at'≤l.length:=fun line=>(uGT l line q).2 hq1
 have hq5 : ∀ line,(uB0 l line q).2.at'≤l.length:=fun line=>(uGC l line q).2 hq1
 refine uDb Tryz.func62 rfl rfl rfl rfl rfl rfl rfl ?_;refine uAe (uAb ?_);refine uAa rfl rfl rfl (uAd rfl gU) ?_;refine uAf ?_;refine uAe ?_;refine uAe ?_;refine awp_drawn' (by kernel_rfl) ?_;refine uAg rfl rfl rfl rfl (uAc rfl gU) ?_;refine uAg rfl rfl rfl rfl (uAv rfl gU) ?_;refine uAg rfl rfl rfl rfl (uAh rfl gU rfl rfl) ?_;refine uAS rfl rfl rfl rfl rfl rfl rfl gU rfl rfl rfl rfl ?_;refine uAg rfl rfl rfl rfl (uAc rfl gU) ?_;refine uAg rfl rfl rfl rfl (uAv rfl gU) ?_;refine uAg rfl rfl rfl rfl (uAh rfl gU rfl rfl) ?_;refine uAS rfl rfl rfl rfl rfl rfl rfl gU rfl rfl rfl rfl ?_;refine uAg rfl rfl rfl rfl (uA9 rfl gU rfl rfl) ?_;refine uAg rfl rfl rfl rfl (uAk rfl rfl gU gU rfl) ?_;refine uBf (by kernel_rfl) ?_;refine uAm (s:=⟨[(0,_,_),(1,_,_),(4,_,_),(14,_,_)],[(.o 0,_),(.o 1,_)],[(.b (.o 1) 1,_),(.b (.o 1) 2,_),(.b (.o 1) 3,_),(.b (.o 1) 4,_),(.b (.o 1) 5,_)],[]⟩) (uAj (⟨sx rfl,sx rfl,sx rfl,sx rfl,trivial⟩) (⟨sx rfl,sx rfl,trivial⟩) (⟨(ak rfl (ak rfl (ak rfl (ak rfl (ak rfl (ak rfl (ak rfl (ak rfl (ak rfl (ak rfl (rfl))))))))))),(ak rfl (ak rfl (ak rfl (ak rfl (ak rfl (ak rfl (ak rfl (ak rfl (ak rfl (ak rfl (rfl))))))))))),(ak rfl (ak rfl (ak rfl (ak rfl (ak rfl (ak rfl (ak rfl (ak rfl (ak rfl (ak rfl (rfl))))))))))),(ak rfl (ak rfl (ak rfl (ak rfl (ak rfl (ak rfl (ak rfl (ak rfl (ak rfl (ak rfl (rfl))))))))))),(ak rfl (ak rfl (ak rfl (ak rfl (ak rfl (ak rfl (ak rfl (ak rfl (ak rfl (ak rfl (rfl))))))))))),trivial⟩)) ?_
 refine uAl rfl (fun hcx=>?_) (fun hcx=>?_)
 ·try simp only [nn,uAi,T.rows_len,Tk.rows_len] at hcx
  have hline : uCt l p=(l.getD p.at' tk0).line:=by rw [uCt,if_pos (by omega)]
  refine awp_drawn' (by kernel_rfl) ?_;refine uAg rfl rfl rfl rfl (uAc rfl gU) ?_;refine uAg rfl rfl rfl rfl (uAv rfl gU) ?_;refine uAg rfl rfl rfl rfl (uAh rfl gU rfl rfl) ?_;refine uAS rfl rfl rfl rfl rfl rfl rfl gU rfl rfl rfl rfl ?_;refine uAg rfl rfl rfl rfl (uAc rfl gU) ?_;refine uAg rfl rfl rfl rfl (uAv rfl gU) ?_;refine uAg rfl rfl rfl rfl (uAh rfl gU rfl rfl) ?_;refine uAS rfl rfl rfl rfl rfl rfl rfl gU rfl rfl rfl rfl ?_;refine uAg rfl rfl rfl rfl (uAu (j:=p.at') rfl rfl gU gU rfl rfl (by first | omega | (simp at hh ⊢; omega)) (fun hh=>Tk.rows_at (by first | omega | (simp at hh ⊢; omega)))) ?_;refine uAg rfl rfl rfl rfl (uAV rfl gU rfl rfl) ?_;refine uAg rfl rfl rfl rfl (uAP rfl gU rfl rfl rfl) ?_;refine uAg rfl rfl rfl rfl (uAd rfl gU) ?_;refine uBf (by kernel_rfl) ?_;refine uAm (s:=⟨[(0,_,_),(1,_,_),(4,_,_)],[(.o 0,_),(.o 1,_)],[(.b (.o 1) 1,_),(.b (.o 1) 2,_),(.b (.o 1) 3,_),(.b (.o 1) 4,_),(.b (.o 1) 5,_)],[]⟩) (uAj (⟨sx rfl,sx rfl,sx rfl,trivial⟩) (⟨sx rfl,sx rfl,trivial⟩) (⟨(ak rfl (ak rfl (ak rfl (ak rfl (ak rfl (ak rfl (ak rfl (ak rfl (ak rfl (ak rfl (ak rfl (ak rfl (rfl))))))))))))),(ak rfl (ak rfl (ak rfl (ak rfl (ak rfl (ak rfl (ak rfl (ak rfl (ak rfl (ak rfl (ak rfl (ak rfl (rfl))))))))))))),(ak rfl (ak rfl (ak rfl (ak rfl (ak rfl (ak rfl (ak rfl (ak rfl (ak rfl (ak rfl (ak rfl (ak rfl (rfl))))))))))))),(ak rfl (ak rfl (ak rfl (ak rfl (ak rfl (ak rfl (ak rfl (ak rfl (ak rfl (ak rfl (ak rfl (ak rfl (rfl))))))))))))),(ak rfl (ak rfl (ak rfl (ak rfl (ak rfl (ak rfl (ak rfl (ak rfl (ak rfl (ak rfl (ak rfl (ak rfl (rfl))))))))))))),trivial⟩)) ?_
  refine uAe ?_;refine uAe (uAb ?_);refine uAa rfl rfl rfl (uAc rfl gU) ?_;refine uAM (xs:=[_,_,_,_,_]) rfl rfl rfl rfl rfl rfl rfl rfl rfl gU rfl ?_;refine uAH (.o 0) rfl rfl rfl rfl rfl rfl (up hns) rfl (by rfl) (by rfl) rfl rfl rfl ?_;refine uAf ?_;refine uAs ?_;refine uAe (uAb ?_);refine uAa rfl rfl rfl (uAW rfl rfl gU gU rfl) ?_;refine uAa rfl rfl rfl (uAd rfl gU) ?_;refine uAf ?_;refine uAm (s:=⟨[(0,_,_),(1,_,_),(4,_,_),(28,_,_),(29,_,_)],[(.o 0,_),(.o 1,_)],[(.b (.o 1) 1,_),(.b (.o 1) 2,_),(.b (.o 1) 3,_),(.b (.o 1) 4,_),(.b (.o 1) 5,_)],[]⟩) (uAj (⟨sx rfl,sx rfl,sx rfl,sx rfl,sx rfl,trivial⟩) (⟨sx rfl,sx rfl,trivial⟩) (⟨rfl,rfl,rfl,rfl,rfl,trivial⟩)) ?_;refine uAl rfl (fun hcu0=>?_) (fun hcu0=>?_)
  ·try simp only [nn,uAi,T.rows_len,Tk.rows_len] at hcu0
   have hwe : w=uFC:=hcu0
   subst hwe
   refine awp_drawn' (by kernel_rfl) ?_;refine uAg rfl rfl rfl rfl (uAc rfl gU) ?_;refine uAg rfl rfl rfl rfl (uAc rfl gU) ?_;refine uAg rfl rfl rfl rfl (uAv rfl gU) ?_;refine uAg rfl rfl rfl rfl (uAh rfl gU rfl rfl) ?_;refine uBZ rfl rfl rfl rfl rfl rfl rfl rfl rfl rfl rfl rfl ?_;refine uAg rfl rfl rfl rfl (uAc rfl gU) ?_;refine uD8 (.o 0) rfl rfl rfl rfl rfl rfl rfl (up (uDt l q (by omega) hq1)) rfl (by rfl) (by rfl) rfl rfl rfl ?_;refine uB6 rfl rfl rfl rfl rfl rfl rfl rfl rfl rfl rfl (by first | omega | (simp only [List.length_append,List.length_singleton,uAi]; omega)) (by first | omega | (simp only [List.length_append,List.length_singleton,uAi]; omega)) ?_;refine uAg rfl rfl rfl rfl (uAv rfl gU) ?_;refine uAg rfl rfl rfl rfl (uAh rfl gU rfl rfl) ?_;refine uBW rfl rfl rfl rfl rfl rfl rfl rfl rfl rfl rfl rfl ?_;refine uBf (by kernel_rfl) ?_;refine uAm (s:=⟨[(0,_,_)],[(.o 0,_),(.o 1,_)],[(.b (.o 1) 1,_),(.b (.o 1) 2,_),(.b (.o 1) 3,_),(.b (.o 1) 4,_),(.b (.o 1) 5,_)],[]⟩) (uAj (⟨sx rfl,trivial⟩) (⟨sx rfl,sx rfl,trivial⟩) (⟨rfl,(ak2 rfl (ak rfl (ak rfl (ak2 rfl (ak rfl (ak rfl (ak2 rfl (ak rfl (ak rfl (ak rfl (ak rfl (rfl)))))))))))),(ak2 rfl (ak rfl (ak rfl (ak2 rfl (ak rfl (ak rfl (ak2 rfl (ak rfl (ak rfl (ak rfl (ak rfl (rfl)))))))))))),(ak2 rfl (ak rfl (ak rfl (ak2 rfl (ak rfl (ak rfl (ak2 rfl (ak rfl (ak rfl (ak rfl (ak rfl (rfl)))))))))))),(ak2 rfl (ak rfl (ak rfl (ak2 rfl (ak rfl (ak rfl (ak2 rfl (ak rfl (ak rfl (ak rfl (ak rfl (rfl)))))))))))),trivial⟩)) ?_
   refine uAb ?_;refine uAa rfl rfl rfl (uAc rfl gU) ?_;refine uAH (.o 0) rfl rfl rfl rfl rfl rfl (up (uBb l _ _ (by omega) (le3 hl (by first | assumption | exact hq4 _ | exact hq5 _)))) rfl (by rfl) (by rfl) rfl rfl rfl ?_;refine uAf ?_;refine uBx rfl ?_ (⟨⟨_,rfl,?_⟩,⟨⟨_,rfl,?_⟩,trivial⟩⟩) (by kernel_rfl)
   all_goals first | exact (rfl : uCg []=X.tup []) | (rw [uA0 hw hline (uEd l n (l.getD p.at' tk0).line q)]; done) | (rw [uA0 hw hline (uEd l n (l.getD p.at' tk0).line q)]; rfl) | (rw [uA0 hw hline (uEd l n (l.getD p.at' tk0).line q)]; simp only [Nar.cells,strR,List.map_append]; rfl)
  ·try simp only [nn,uAi,T.rows_len,Tk.rows_len] at hcu0
   have hn0 : w≠uFC:=hcu0
   refine uAe (uAb ?_);refine uAa rfl rfl rfl (uAW rfl rfl gU gU rfl) ?_;refine uAa rfl rfl rfl (uAd rfl gU) ?_;refine uAf ?_;refine uAl rfl (fun hcu1=>?_) (fun hcu1=>?_)
   ·try simp only [nn,uAi,T.rows_len,Tk.rows_len] at hcu1
    have hwe : w=uD2:=hcu1
    subst hwe
    refine uAb ?_;refine uAa rfl rfl rfl (uAc rfl gU) ?_;refine uAa rfl rfl rfl (uAc rfl gU) ?_;refine uC7 [⟨.o 0,0,pbx l q,pbx l (uBM l q n.fresh).2⟩,⟨.o 1,0,n.cells,({ n with fresh:=(uBM l q n.fresh).1 } : Nar).cells⟩] osN rfl rfl rfl rfl rfl rfl (ps2 rfl rfl) rfl rfl (uFP l q n hl hq1 (by omega)) rfl rfl rfl ?_;refine uAf ?_;refine uAm (s:=⟨[(0,_,_)],[(.o 0,_),(.o 1,_)],[(.b (.o 1) 1,_),(.b (.o 1) 2,_),(.b (.o 1) 3,_),(.b (.o 1) 4,_),(.b (.o 1) 5,_)],[]⟩) (uAj (⟨sx rfl,trivial⟩) (⟨sx rfl,sx rfl,trivial⟩) (⟨rfl,rfl,rfl,rfl,rfl,trivial⟩)) ?_;refine uAb ?_;refine uAa rfl rfl rfl (uAc rfl gU) ?_;refine uAH (.o 0) rfl rfl rfl rfl rfl rfl (up (uBb l _ _ (by omega) (le3 hl (by first | assumption | exact hq4 _ | exact hq5 _)))) rfl (by rfl) (by rfl) rfl rfl rfl ?_;refine uAf ?_;refine uBx rfl ?_ (⟨⟨_,rfl,?_⟩,⟨⟨_,rfl,?_⟩,trivial⟩⟩) (by kernel_rfl)
    all_goals first | exact (rfl : uCg []=X.tup []) | (rw [uA0 hw hline (uD9 l n (l.getD p.at' tk0).line q)]; done) | (rw [uA0 hw hline (uD9 l n (l.getD p.at' tk0).line q)]; rfl) | (rw [uA0 hw hline (uD9 l n (l.getD p.at' tk0).line q)]; simp only [Nar.cells,strR,List.map_append]; rfl)
   ·try simp only [nn,uAi,T.rows_len,Tk.rows_len] at hcu1
    have hn1 : w≠uD2:=hcu1
    refine uAe (uAb ?_);refine uAa rfl rfl rfl (uAW rfl rfl gU gU rfl) ?_;refine uAa rfl rfl rfl (uAd rfl gU) ?_;refine uAf ?_;refine uAl rfl (fun hcu2=>?_) (fun hcu2=>?_)
    ·try simp only [nn,uAi,T.rows_len,Tk.rows_len] at hcu2
     have hwe : w=uFU:=hcu2
     subst hwe
     refine awp_drawn' (by kernel_rfl) ?_;refine uAg rfl rfl rfl rfl (uAc rfl gU) ?_;refine uAg rfl rfl rfl rfl (uAc rfl gU) ?_;refine uAg rfl rfl rfl rfl (uAv rfl gU) ?_;refine uAg rfl rfl rfl rfl (uAh rfl gU rfl rfl) ?_;refine uBZ rfl rfl rfl rfl rfl rfl rfl rfl rfl rfl rfl rfl ?_;refine uAg rfl rfl rfl rfl (uAc rfl gU) ?_;refine uD8 (.o 0) rfl rfl rfl rfl rfl rfl rfl (up (uDt l q (by omega) hq1)) rfl (by rfl) (by rfl) rfl rfl rfl ?_;refine uB6 rfl rfl rfl rfl rfl rfl rfl rfl rfl rfl rfl (by first | omega | (simp only [List.length_append,List.length_singleton,uAi]; omega)) (by first | omega | (simp only [List.length_append,List.length_singleton,uAi]; omega)) ?_;refine uAg rfl rfl rfl rfl (uAv rfl gU) ?_;refine uAg rfl rfl rfl rfl (uAh rfl gU rfl rfl) ?_;refine uBW rfl rfl rfl rfl rfl rfl rfl rfl rfl rfl rfl rfl ?_;refine uBf (by kernel_rfl) ?_;refine uAm (s:=⟨[(0,_,_)],[(.o 0,_),(.o 1,_)],[(.b (.o 1) 1,_),(.b (.o 1) 2,_),(.b (.o 1) 3,_),(.b (.o 1) 4,_),(.b (.o 1) 5,_)],[]⟩) (uAj (⟨sx rfl,trivial⟩) (⟨sx rfl,sx rfl,trivial⟩) (⟨(ak2 rfl (ak rfl (ak rfl (ak2 rfl (ak rfl (ak rfl (ak2 rfl (ak rfl (ak rfl (ak rfl (ak rfl (rfl)))))))))))),(ak2 rfl (ak rfl (ak rfl (ak2 rfl (ak rfl (ak rfl (ak2 rfl (ak rfl (ak rfl (ak rfl (ak rfl (rfl)))))))))))),rfl,(ak2 rfl (ak rfl (ak rfl (ak2 rfl (ak rfl (ak rfl (ak2 rfl (ak rfl (ak rfl (ak rfl (ak rfl (rfl)))))))))))),(ak2 rfl (ak rfl (ak rfl (ak2 rfl (ak rfl (ak rfl (ak2 rfl (ak rfl (ak rfl (ak rfl (ak rfl (rfl)))))))))))),trivial⟩)) ?_
     refine uAb ?_;refine uAa rfl rfl rfl (uAc rfl gU) ?_;refine uAH (.o 0) rfl rfl rfl rfl rfl rfl (up (uBb l _ _ (by omega) (le3 hl (by first | assumption | exact hq4 _ | exact hq5 _)))) rfl (by rfl) (by rfl) rfl rfl rfl ?_;refine uAf ?_;refine uBx rfl ?_ (⟨⟨_,rfl,?_⟩,⟨⟨_,rfl,?_⟩,trivial⟩⟩) (by kernel_rfl)
     all_goals first | exact (rfl : uCg []=X.tup []) | (rw [uA0 hw hline (uD7 l n (l.getD p.at' tk0).line q)]; done) | (rw [uA0 hw hline (uD7 l n (l.getD p.at' tk0).line q)]; rfl) | (rw [uA0 hw hline (uD7 l n (l.getD p.at' tk0).line q)]; simp only [Nar.cells,strR,List.map_append]; rfl)
    ·try simp only [nn,uAi,T.rows_len,Tk.rows_len] at hcu2
     have hn2 : w≠uFU:=hcu2
     refine uAe (uAb ?_);refine uAa rfl rfl rfl (uAW rfl rfl gU gU rfl) ?_;refine uAa rfl rfl rfl (uAd rfl gU) ?_;refine uAf ?_;refine uAm (s:=⟨[(0,_,_),(1,_,_),(4,_,_),(28,_,_),(58,_,_)],[(.o 0,_),(.o 1,_)],[(.b (.o 1) 1,_),(.b (.o 1) 2,_),(.b (.o 1) 3,_),(.b (.o 1) 4,_),(.b (.o 1) 5,_)],[]⟩) (uAj (⟨sx rfl,sx rfl,sx rfl,sx rfl,sx rfl,trivial⟩) (⟨sx rfl,sx rfl,trivial⟩) (⟨rfl,rfl,rfl,rfl,rfl,trivial⟩)) ?_;refine uAl rfl (fun hcu3=>?_) (fun hcu3=>?_)
     ·try simp only [nn,uAi,T.rows_len,Tk.rows_len] at hcu3
      have hwe : w=wMsg:=hcu3
      subst hwe
      refine uAb ?_;refine uAa rfl rfl rfl (uAc rfl gU) ?_;refine uAa rfl rfl rfl (uAc rfl gU) ?_;refine uAa rfl rfl rfl (uAc rfl gU) ?_;refine uC7 [⟨.o 0,0,pbx l q,pbx l (uCl l ((l.getD p.at' tk0).line) q).2⟩,⟨.o 1,0,n.cells,({ n with steps:=n.steps++[(uCl l ((l.getD p.at' tk0).line) q).1] } : Nar).cells⟩] osN rfl rfl rfl rfl rfl rfl (ps2 rfl rfl) rfl rfl (uHG l q n ((l.getD p.at' tk0).line) hl hq1 (by omega)) rfl rfl rfl ?_;refine uAf ?_;refine uAb ?_;refine uAa rfl rfl rfl (uAc rfl gU) ?_;refine uAH (.o 0) rfl rfl rfl rfl rfl rfl (up (uBb l _ _ (by omega) (le3 hl (by first | assumption | exact hq4 _ | exact hq5 _)))) rfl (by rfl) (by rfl) rfl rfl rfl ?_;refine uAf ?_;refine uBx rfl ?_ (⟨⟨_,rfl,?_⟩,⟨⟨_,rfl,?_⟩,trivial⟩⟩) (by kernel_rfl)
      all_goals first | exact (rfl : uCg []=X.tup []) | (rw [uA0 hw hline (uD6 l n (l.getD p.at' tk0).line q)]; done) | (rw [uA0 hw hline (uD6 l n (l.getD p.at' tk0).line q)]; rfl) | (rw [uA0 hw hline (uD6 l n (l.getD p.at' tk0).line q)]; simp only [Nar.cells,strR,List.map_append]; rfl)
     ·try simp only [nn,uAi,T.rows_len,Tk.rows_len] at hcu3
      have hn3 : w≠wMsg:=hcu3
      refine uAe (uAb ?_);refine uAa rfl rfl rfl (uAW rfl rfl gU gU rfl) ?_;refine uAa rfl rfl rfl (uAd rfl gU) ?_;refine uAf ?_;refine uAl rfl (fun hcu4=>?_) (fun hcu4=>?_)
      ·try simp only [nn,uAi,T.rows_len,Tk.rows_len] at hcu4
       have hwe : w=uFG:=hcu4
       subst hwe
       refine uAb ?_;refine uAa rfl rfl rfl (uAc rfl gU) ?_;refine uAa rfl rfl rfl (uAc rfl gU) ?_;refine uAa rfl rfl rfl (uAc rfl gU) ?_;refine uC7 [⟨.o 0,0,pbx l q,pbx l (uB0 l ((l.getD p.at' tk0).line) q).2⟩,⟨.o 1,0,n.cells,({ n with goals:=n.goals++[(uB0 l ((l.getD p.at' tk0).line) q).1] } : Nar).cells⟩] osN rfl rfl rfl rfl rfl rfl (ps2 rfl rfl) rfl rfl (uGI l q n ((l.getD p.at' tk0).line) hl hq1 (by omega)) rfl rfl rfl ?_;refine uAf ?_;refine uAm (s:=⟨[(0,_,_)],[(.o 0,_),(.o 1,_)],[(.b (.o 1) 1,_),(.b (.o 1) 2,_),(.b (.o 1) 3,_),(.b (.o 1) 4,_),(.b (.o 1) 5,_)],[]⟩) (uAj (⟨sx rfl,trivial⟩) (⟨sx rfl,sx rfl,trivial⟩) (⟨rfl,rfl,rfl,rfl,rfl,trivial⟩)) ?_;refine uAb ?_;refine uAa rfl rfl rfl (uAc rfl gU) ?_;refine uAH (.o 0) rfl rfl rfl rfl rfl rfl (up (uBb l _ _ (by omega) (le3 hl (by first | assumption | exact hq4 _ | exact hq5 _)))) rfl (by rfl) (by rfl) rfl rfl rfl ?_;refine uAf ?_;refine uBx rfl ?_ (⟨⟨_,rfl,?_⟩,⟨⟨_,rfl,?_⟩,trivial⟩⟩) (by kernel_rfl)
       all_goals first | exact (rfl : uCg []=X.tup []) | (rw [uA0 hw hline (uEm l n (l.getD p.at' tk0).line q)]; done) | (rw [uA0 hw hline (uEm l n (l.getD p.at' tk0).line q)]; rfl) | (rw [uA0 hw hline (uEm l n (l.getD p.at' tk0).line q)]; simp only [Nar.cells,strR,List.map_append]; rfl)
      ·try simp only [nn,uAi,T.rows_len,Tk.rows_len] at hcu4
       have hn4 : w≠uFG:=hcu4
       refine uAp ?_;refine uAb ?_;refine uAa rfl rfl rfl (uAc rfl gU) ?_;refine uAH (.o 0) rfl rfl rfl rfl rfl rfl (up (uBb l _ _ (by omega) (le3 hl (by first | assumption | exact hq4 _ | exact hq5 _)))) rfl (by rfl) (by rfl) rfl rfl rfl ?_;refine uAf ?_;refine uBx rfl ?_ (⟨⟨_,rfl,?_⟩,⟨⟨_,rfl,?_⟩,trivial⟩⟩) (by kernel_rfl)
       all_goals first | exact (rfl : uCg []=X.tup []) | (rw [uA0 hw hline (uF8 l n (l.getD p.at' tk0).line q hn0 hn1 hn2 hn3 hn4)]; done) | (rw [uA0 hw hline (uF8 l n (l.getD p.at' tk0).line q hn0 hn1 hn2 hn3 hn4)]; rfl)
 ·try simp only [nn,uAi,T.rows_len,Tk.rows_len] at hcx
  have hline : uCt l p=0:=by rw [uCt,if_neg (by omega)]
  refine uAp ?_;refine uAe ?_;refine uAe (uAb ?_);refine uAa rfl rfl rfl (uAc rfl gU) ?_;refine uAM (xs:=[_,_,_,_,_]) rfl rfl rfl rfl rfl rfl rfl rfl rfl gU rfl ?_;refine uAH (.o 0) rfl rfl rfl rfl rfl rfl (up hns) rfl (by rfl) (by rfl) rfl rfl rfl ?_;refine uAf ?_;refine uAs ?_;refine uAe (uAb ?_);refine uAa rfl rfl rfl (uAW rfl rfl gU gU rfl) ?_;refine uAa rfl rfl rfl (uAd rfl gU) ?_;refine uAf ?_;refine uAm (s:=⟨[(0,_,_),(1,_,_),(4,_,_),(28,_,_),(29,_,_)],[(.o 0,_),(.o 1,_)],[(.b (.o 1) 1,_),(.b (.o 1) 2,_),(.b (.o 1) 3,_),(.b (.o 1) 4,_),(.b (.o 1) 5,_)],[]⟩) (uAj (⟨sx rfl,sx rfl,sx rfl,sx rfl,sx rfl,trivial⟩) (⟨sx rfl,sx rfl,trivial⟩) (⟨rfl,rfl,rfl,rfl,rfl,trivial⟩)) ?_;refine uAl rfl (fun hcv0=>?_) (fun hcv0=>?_)
  ·try simp only [nn,uAi,T.rows_len,Tk.rows_len] at hcv0
   have hwe : w=uFC:=hcv0
   subst hwe
   refine awp_drawn' (by kernel_rfl) ?_;refine uAg rfl rfl rfl rfl (uAc rfl gU) ?_;refine uAg rfl rfl rfl rfl (uAc rfl gU) ?_;refine uAg rfl rfl rfl rfl (uAv rfl gU) ?_;refine uAg rfl rfl rfl rfl (uAh rfl gU rfl rfl) ?_;refine uBZ rfl rfl rfl rfl rfl rfl rfl rfl rfl rfl rfl rfl ?_;refine uAg rfl rfl rfl rfl (uAc rfl gU) ?_;refine uD8 (.o 0) rfl rfl rfl rfl rfl rfl rfl (up (uDt l q (by omega) hq1)) rfl (by rfl) (by rfl) rfl rfl rfl ?_;refine uB6 rfl rfl rfl rfl rfl rfl rfl rfl rfl rfl rfl (by first | omega | (simp only [List.length_append,List.length_singleton,uAi]; omega)) (by first | omega | (simp only [List.length_append,List.length_singleton,uAi]; omega)) ?_;refine uAg rfl rfl rfl rfl (uAv rfl gU) ?_;refine uAg rfl rfl rfl rfl (uAh rfl gU rfl rfl) ?_;refine uBW rfl rfl rfl rfl rfl rfl rfl rfl rfl rfl rfl rfl ?_;refine uBf (by kernel_rfl) ?_;refine uAm (s:=⟨[(0,_,_)],[(.o 0,_),(.o 1,_)],[(.b (.o 1) 1,_),(.b (.o 1) 2,_),(.b (.o 1) 3,_),(.b (.o 1) 4,_),(.b (.o 1) 5,_)],[]⟩) (uAj (⟨sx rfl,trivial⟩) (⟨sx rfl,sx rfl,trivial⟩) (⟨rfl,(ak2 rfl (ak rfl (ak rfl (ak2 rfl (ak rfl (ak rfl (ak2 rfl (ak rfl (ak rfl (ak rfl (ak rfl (rfl)))))))))))),(ak2 rfl (ak rfl (ak rfl (ak2 rfl (ak rfl (ak rfl (ak2 rfl (ak rfl (ak rfl (ak rfl (ak rfl (rfl)))))))))))),(ak2 rfl (ak rfl (ak rfl (ak2 rfl (ak rfl (ak rfl (ak2 rfl (ak rfl (ak rfl (ak rfl (ak rfl (rfl)))))))))))),(ak2 rfl (ak rfl (ak rfl (ak2 rfl (ak rfl (ak rfl (ak2 rfl (ak rfl (ak rfl (ak rfl (ak rfl (rfl)))))))))))),trivial⟩)) ?_
   refine uAb ?_;refine uAa rfl rfl rfl (uAc rfl gU) ?_;refine uAH (.o 0) rfl rfl rfl rfl rfl rfl (up (uBb l _ _ (by omega) (le3 hl (by first | assumption | exact hq4 _ | exact hq5 _)))) rfl (by rfl) (by rfl) rfl rfl rfl ?_;refine uAf ?_;refine uBx rfl ?_ (⟨⟨_,rfl,?_⟩,⟨⟨_,rfl,?_⟩,trivial⟩⟩) (by kernel_rfl)
   all_goals first | exact (rfl : uCg []=X.tup []) | (rw [uA0 hw hline (uEd l n 0 q)]; done) | (rw [uA0 hw hline (uEd l n 0 q)]; rfl) | (rw [uA0 hw hline (uEd l n 0 q)]; simp only [Nar.cells,strR,List.map_append]; rfl)
  ·try simp only [nn,uAi,T.rows_len,Tk.rows_len] at hcv0
   have hn0 : w≠uFC:=hcv0
   refine uAe (uAb ?_);refine uAa rfl rfl rfl (uAW rfl rfl gU gU rfl) ?_;refine uAa rfl rfl rfl (uAd rfl gU) ?_;refine uAf ?_;refine uAl rfl (fun hcv1=>?_) (fun hcv1=>?_)
   ·try simp only [nn,uAi,T.rows_len,Tk.rows_len] at hcv1
    have hwe : w=uD2:=hcv1
    subst hwe
    refine uAb ?_;refine uAa rfl rfl rfl (uAc rfl gU) ?_;refine uAa rfl rfl rfl (uAc rfl gU) ?_;refine uC7 [⟨.o 0,0,pbx l q,pbx l (uBM l q n.fresh).2⟩,⟨.o 1,0,n.cells,({ n with fresh:=(uBM l q n.fresh).1 } : Nar).cells⟩] osN rfl rfl rfl rfl rfl rfl (ps2 rfl rfl) rfl rfl (uFP l q n hl hq1 (by omega)) rfl rfl rfl ?_;refine uAf ?_;refine uAm (s:=⟨[(0,_,_)],[(.o 0,_),(.o 1,_)],[(.b (.o 1) 1,_),(.b (.o 1) 2,_),(.b (.o 1) 3,_),(.b (.o 1) 4,_),(.b (.o 1) 5,_)],[]⟩) (uAj (⟨sx rfl,trivial⟩) (⟨sx rfl,sx rfl,trivial⟩) (⟨rfl,rfl,rfl,rfl,rfl,trivial⟩)) ?_;refine uAb ?_;refine uAa rfl rfl rfl (uAc rfl gU) ?_;refine uAH (.o 0) rfl rfl rfl rfl rfl rfl (up (uBb l _ _ (by omega) (le3 hl (by first | assumption | exact hq4 _ | exact hq5 _)))) rfl (by rfl) (by rfl) rfl rfl rfl ?_;refine uAf ?_;refine uBx rfl ?_ (⟨⟨_,rfl,?_⟩,⟨⟨_,rfl,?_⟩,trivial⟩⟩) (by kernel_rfl)
    all_goals first | exact (rfl : uCg []=X.tup []) | (rw [uA0 hw hline (uD9 l n 0 q)]; done) | (rw [uA0 hw hline (uD9 l n 0 q)]; rfl) | (rw [uA0 hw hline (uD9 l n 0 q)]; simp only [Nar.cells,strR,List.map_append]; rfl)
   ·try simp only [nn,uAi,T.rows_len,Tk.rows_len] at hcv1
    have hn1 : w≠uD2:=hcv1
    refine uAe (uAb ?_);refine uAa rfl rfl rfl (uAW rfl rfl gU gU rfl) ?_;refine uAa rfl rfl rfl (uAd rfl gU) ?_;refine uAf ?_;refine uAl rfl (fun hcv2=>?_) (fun hcv2=>?_)
    ·try simp only [nn,uAi,T.rows_len,Tk.rows_len] at hcv2
     have hwe : w=uFU:=hcv2
     subst hwe
     refine awp_drawn' (by kernel_rfl) ?_;refine uAg rfl rfl rfl rfl (uAc rfl gU) ?_;refine uAg rfl rfl rfl rfl (uAc rfl gU) ?_;refine uAg rfl rfl rfl rfl (uAv rfl gU) ?_;refine uAg rfl rfl rfl rfl (uAh rfl gU rfl rfl) ?_;refine uBZ rfl rfl rfl rfl rfl rfl rfl rfl rfl rfl rfl rfl ?_;refine uAg rfl rfl rfl rfl (uAc rfl gU) ?_;refine uD8 (.o 0) rfl rfl rfl rfl rfl rfl rfl (up (uDt l q (by omega) hq1)) rfl (by rfl) (by rfl) rfl rfl rfl ?_;refine uB6 rfl rfl rfl rfl rfl rfl rfl rfl rfl rfl rfl (by first | omega | (simp only [List.length_append,List.length_singleton,uAi]; omega)) (by first | omega | (simp only [List.length_append,List.length_singleton,uAi]; omega)) ?_;refine uAg rfl rfl rfl rfl (uAv rfl gU) ?_;refine uAg rfl rfl rfl rfl (uAh rfl gU rfl rfl) ?_;refine uBW rfl rfl rfl rfl rfl rfl rfl rfl rfl rfl rfl rfl ?_;refine uBf (by kernel_rfl) ?_;refine uAm (s:=⟨[(0,_,_)],[(.o 0,_),(.o 1,_)],[(.b (.o 1) 1,_),(.b (.o 1) 2,_),(.b (.o 1) 3,_),(.b (.o 1) 4,_),(.b (.o 1) 5,_)],[]⟩) (uAj (⟨sx rfl,trivial⟩) (⟨sx rfl,sx rfl,trivial⟩) (⟨(ak2 rfl (ak rfl (ak rfl (ak2 rfl (ak rfl (ak rfl (ak2 rfl (ak rfl (ak rfl (ak rfl (ak rfl (rfl)))))))))))),(ak2 rfl (ak rfl (ak rfl (ak2 rfl (ak rfl (ak rfl (ak2 rfl (ak rfl (ak rfl (ak rfl (ak rfl (rfl)))))))))))),rfl,(ak2 rfl (ak rfl (ak rfl (ak2 rfl (ak rfl (ak rfl (ak2 rfl (ak rfl (ak rfl (ak rfl (ak rfl (rfl)))))))))))),(ak2 rfl (ak rfl (ak rfl (ak2 rfl (ak rfl (ak rfl (ak2 rfl (ak rfl (ak rfl (ak rfl (ak rfl (rfl)))))))))))),trivial⟩)) ?_
     refine uAb ?_;refine uAa rfl rfl rfl (uAc rfl gU) ?_;refine uAH (.o 0) rfl rfl rfl rfl rfl rfl (up (uBb l _ _ (by omega) (le3 hl (by first | assumption | exact hq4 _ | exact hq5 _)))) rfl (by rfl) (by rfl) rfl rfl rfl ?_;refine uAf ?_;refine uBx rfl ?_ (⟨⟨_,rfl,?_⟩,⟨⟨_,rfl,?_⟩,trivial⟩⟩) (by kernel_rfl)
     all_goals first | exact (rfl : uCg []=X.tup []) | (rw [uA0 hw hline (uD7 l n 0 q)]; done) | (rw [uA0 hw hline (uD7 l n 0 q)]; rfl) | (rw [uA0 hw hline (uD7 l n 0 q)]; simp only [Nar.cells,strR,List.map_append]; rfl)
    ·try simp only [nn,uAi,T.rows_len,Tk.rows_len] at hcv2
     have hn2 : w≠uFU:=hcv2
     refine uAe (uAb ?_);refine uAa rfl rfl rfl (uAW rfl rfl gU gU rfl) ?_;refine uAa rfl rfl rfl (uAd rfl gU) ?_;refine uAf ?_;refine uAm (s:=⟨[(0,_,_),(1,_,_),(4,_,_),(28,_,_),(58,_,_)],[(.o 0,_),(.o 1,_)],[(.b (.o 1) 1,_),(.b (.o 1) 2,_),(.b (.o 1) 3,_),(.b (.o 1) 4,_),(.b (.o 1) 5,_)],[]⟩) (uAj (⟨sx rfl,sx rfl,sx rfl,sx rfl,sx rfl,trivial⟩) (⟨sx rfl,sx rfl,trivial⟩) (⟨rfl,rfl,rfl,rfl,rfl,trivial⟩)) ?_;refine uAl rfl (fun hcv3=>?_) (fun hcv3=>?_)
     ·try simp only [nn,uAi,T.rows_len,Tk.rows_len] at hcv3
      have hwe : w=wMsg:=hcv3
      subst hwe
      refine uAb ?_;refine uAa rfl rfl rfl (uAc rfl gU) ?_;refine uAa rfl rfl rfl (uAc rfl gU) ?_;refine uAa rfl rfl rfl (uAc rfl gU) ?_;refine uC7 [⟨.o 0,0,pbx l q,pbx l (uCl l (0) q).2⟩,⟨.o 1,0,n.cells,({ n with steps:=n.steps++[(uCl l (0) q).1] } : Nar).cells⟩] osN rfl rfl rfl rfl rfl rfl (ps2 rfl rfl) rfl rfl (uHG l q n (0) hl hq1 (by omega)) rfl rfl rfl ?_;refine uAf ?_;refine uAb ?_;refine uAa rfl rfl rfl (uAc rfl gU) ?_;refine uAH (.o 0) rfl rfl rfl rfl rfl rfl (up (uBb l _ _ (by omega) (le3 hl (by first | assumption | exact hq4 _ | exact hq5 _)))) rfl (by rfl) (by rfl) rfl rfl rfl ?_;refine uAf ?_;refine uBx rfl ?_ (⟨⟨_,rfl,?_⟩,⟨⟨_,rfl,?_⟩,trivial⟩⟩) (by kernel_rfl)
      all_goals first | exact (rfl : uCg []=X.tup []) | (rw [uA0 hw hline (uD6 l n 0 q)]; done) | (rw [uA0 hw hline (uD6 l n 0 q)]; rfl) | (rw [uA0 hw hline (uD6 l n 0 q)]; simp only [Nar.cells,strR,List.map_append]; rfl)
     ·try simp only [nn,uAi,T.rows_len,Tk.rows_len] at hcv3
      have hn3 : w≠wMsg:=hcv3
      refine uAe (uAb ?_);refine uAa rfl rfl rfl (uAW rfl rfl gU gU rfl) ?_;refine uAa rfl rfl rfl (uAd rfl gU) ?_;refine uAf ?_;refine uAl rfl (fun hcv4=>?_) (fun hcv4=>?_)
      ·try simp only [nn,uAi,T.rows_len,Tk.rows_len] at hcv4
       have hwe : w=uFG:=hcv4
       subst hwe
       refine uAb ?_;refine uAa rfl rfl rfl (uAc rfl gU) ?_;refine uAa rfl rfl rfl (uAc rfl gU) ?_;refine uAa rfl rfl rfl (uAc rfl gU) ?_;refine uC7 [⟨.o 0,0,pbx l q,pbx l (uB0 l (0) q).2⟩,⟨.o 1,0,n.cells,({ n with goals:=n.goals++[(uB0 l (0) q).1] } : Nar).cells⟩] osN rfl rfl rfl rfl rfl rfl (ps2 rfl rfl) rfl rfl (uGI l q n (0) hl hq1 (by omega)) rfl rfl rfl ?_;refine uAf ?_;refine uAm (s:=⟨[(0,_,_)],[(.o 0,_),(.o 1,_)],[(.b (.o 1) 1,_),(.b (.o 1) 2,_),(.b (.o 1) 3,_),(.b (.o 1) 4,_),(.b (.o 1) 5,_)],[]⟩) (uAj (⟨sx rfl,trivial⟩) (⟨sx rfl,sx rfl,trivial⟩) (⟨rfl,rfl,rfl,rfl,rfl,trivial⟩)) ?_;refine uAb ?_;refine uAa rfl rfl rfl (uAc rfl gU) ?_;refine uAH (.o 0) rfl rfl rfl rfl rfl rfl (up (uBb l _ _ (by omega) (le3 hl (by first | assumption | exact hq4 _ | exact hq5 _)))) rfl (by rfl) (by rfl) rfl rfl rfl ?_;refine uAf ?_;refine uBx rfl ?_ (⟨⟨_,rfl,?_⟩,⟨⟨_,rfl,?_⟩,trivial⟩⟩) (by kernel_rfl)
       all_goals first | exact (rfl : uCg []=X.tup []) | (rw [uA0 hw hline (uEm l n 0 q)]; done) | (rw [uA0 hw hline (uEm l n 0 q)]; rfl) | (rw [uA0 hw hline (uEm l n 0 q)]; simp only [Nar.cells,strR,List.map_append]; rfl)
      ·try simp only [nn,uAi,T.rows_len,Tk.rows_len] at hcv4
       have hn4 : w≠uFG:=hcv4
       refine uAp ?_;refine uAb ?_;refine uAa rfl rfl rfl (uAc rfl gU) ?_;refine uAH (.o 0) rfl rfl rfl rfl rfl rfl (up (uBb l _ _ (by omega) (le3 hl (by first | assumption | exact hq4 _ | exact hq5 _)))) rfl (by rfl) (by rfl) rfl rfl rfl ?_;refine uAf ?_;refine uBx rfl ?_ (⟨⟨_,rfl,?_⟩,⟨⟨_,rfl,?_⟩,trivial⟩⟩) (by kernel_rfl)
       all_goals first | exact (rfl : uCg []=X.tup []) | (rw [uA0 hw hline (uF8 l n 0 q hn0 hn1 hn2 hn3 hn4)]; done) | (rw [uA0 hw hline (uF8 l n 0 q hn0 hn1 hn2 hn3 hn4)]; rfl)
end Go.Proofs.YtnjjdbapadkomaaGreatDoor
namespace Go.Proofs.YtnjjdbapadkomaaGreatDoor
open Go Go.Abs
def t0T : T:=⟨0,[],0,[]⟩
abbrev xtie (r : T × Int × Int) : X:=.tup [.agg r.1.cells, .c (.i .i64 r.2.1), .c (.i .i64 r.2.2)]
def uHx (s : List UInt8) : T × Int × Int :=
 if (tokP s).2.2≠0 then (t0T,(tokP s).2.1,(tokP s).2.2)
 else if (endE (tokP s).1 (uAQ (tokP s).1 ((tokP s).1.length + 1) ⟨0,false⟩).2).2≠0 then (t0T,(endE (tokP s).1 (uAQ (tokP s).1 ((tokP s).1.length + 1) ⟨0,false⟩).2).1,(endE (tokP s).1 (uAQ (tokP s).1 ((tokP s).1.length + 1) ⟨0,false⟩).2).2)
 else if uDN uAO (uAQ (tokP s).1 ((tokP s).1.length + 1) ⟨0,false⟩).1≠0 then (t0T,0,uDN uAO (uAQ (tokP s).1 ((tokP s).1.length + 1) ⟨0,false⟩).1)
 else ((uAQ (tokP s).1 ((tokP s).1.length + 1) ⟨0,false⟩).1,0,0)
theorem uL3 (s : List UInt8) (hs : s.length≤100000) : Ctr sys 18 [xs s] [] (xtie (uHx s)) none []:=by
 have hcnt:=uDD s
 have htl:=Tk.rows_len (tokP s).1
 have hsz:=uDu (tokP s).1 ((tokP s).1.length + 1) ⟨0,false⟩
 have hat:=(uCq (tokP s).1 ((tokP s).1.length + 1) ⟨0,false⟩).2 (Nat.zero_le _)
 dsimp only at hsz
 refine uAz Tryz.func18 rfl rfl rfl rfl rfl rfl ?_;refine uAe (uAb ?_);refine uAt rfl (uAN rfl rfl rfl) ?_;refine uAa rfl rfl rfl (uAd rfl gU) ?_;refine uAa rfl rfl rfl (uAd rfl gU) ?_;refine uAf ?_;refine uAe (uAb ?_);refine uAa rfl rfl rfl (uAc rfl gU) ?_;refine uAA rfl rfl rfl rfl rfl rfl gU gU (uFO _ (by omega)) rfl ?_;refine uAa rfl rfl rfl (uAc rfl gU) ?_;refine uAa rfl rfl rfl (uAE rfl gU rfl) ?_;refine uAa rfl rfl rfl (uAE rfl gU rfl) ?_;refine uAa rfl rfl rfl (uAE rfl gU rfl) ?_;refine uAa rfl rfl rfl (uAd rfl gU) ?_;refine uAa rfl rfl rfl (uAd rfl gU) ?_;refine uAa rfl rfl rfl (uAd rfl gU) ?_;refine uAf ?_;refine uAm (s:=⟨[(2,_,_),(5,_,_),(6,_,_),(7,_,_)],[(.l 2,_)],[],[]⟩) (uAj (⟨sx rfl,sx rfl,sx rfl,sx rfl,trivial⟩) (⟨sx rfl,trivial⟩) trivial) ?_;refine uAe ?_;refine uAe (uAb ?_);refine uAa rfl rfl rfl (uAc rfl gU) ?_;refine uAa rfl rfl rfl (uAk rfl rfl gU gU rfl) ?_;refine uAf ?_;refine uAl rfl (fun hc=>?_) (fun hc=>?_)
 ·try simp only [nn,uAi,T.rows_len,Tk.rows_len] at hc
  refine uAe (uAb ?_);refine uAa rfl rfl rfl (uAU rfl Tryz.underlying39 rfl gU) ?_;refine uAa rfl rfl rfl (uAc rfl gU) ?_;refine uAa rfl rfl rfl (uAc rfl gU) ?_;refine uAt rfl (uAx rfl rfl rfl rfl rfl rfl rfl) ?_;refine uAa rfl rfl rfl (uAd rfl gU) ?_;refine uAa rfl rfl rfl (uAd rfl gU) ?_;refine uAf ?_;refine uAo ?_
  repeat (first | refine tR ?_ | refine bR ?_)
  refine uAr rfl ?_ trivial
  (rw [uHx,if_pos hc]; rfl)
 ·try simp only [nn,uAi,T.rows_len,Tk.rows_len] at hc
  refine uAp ?_;refine uAe (uAb ?_);refine uAa rfl rfl rfl (uAc rfl gU) ?_;refine uAa rfl rfl rfl (uAU rfl Tryz.underlying86 rfl gU) ?_;refine uAt rfl (uBa rfl rfl rfl rfl) ?_;refine uAa rfl rfl rfl (uAd rfl gU) ?_;refine uAf ?_;refine uAm (s:=⟨[(2,_,_),(8,_,_)],[(.l 2,_),(.l 26,_)],[],[]⟩) (uAj (⟨sx rfl,sx rfl,trivial⟩) (⟨sx rfl,sx rfl,trivial⟩) trivial) ?_;refine uAe (uAb ?_);refine uAa rfl rfl rfl (uAc rfl gU) ?_;refine uAH (.l 26) rfl rfl rfl rfl rfl rfl (uFn (tokP s).1 (by omega) ((tokP s).1.length + 1) ⟨0,false⟩ (Nat.zero_le _) (by dsimp only; omega)) rfl (by rfl) (by rfl) rfl rfl rfl ?_;refine uAt rfl (uAN rfl rfl rfl) ?_;refine uAt rfl (uAx rfl rfl rfl rfl rfl rfl rfl) ?_;refine uAf ?_;refine uAe ?_;refine uAe (uAb ?_);refine uAa rfl rfl rfl (uAc rfl gU) ?_;refine uAH (.l 26) rfl rfl rfl rfl rfl rfl (uFj _ _ (by omega)) rfl (by rfl) (by rfl) rfl rfl rfl ?_;refine uAa rfl rfl rfl (uAc rfl gU) ?_;refine uAa rfl rfl rfl (uAE rfl gU rfl) ?_;refine uAa rfl rfl rfl (uAE rfl gU rfl) ?_;refine uAa rfl rfl rfl (uAd rfl gU) ?_;refine uAa rfl rfl rfl (uAd rfl gU) ?_;refine uAf ?_;refine uAm (s:=⟨[(2,_,_),(9,_,_),(10,_,_),(11,_,_)],[(.l 2,_),(.l 9,_)],[],[]⟩) (uAj (⟨sx rfl,sx rfl,sx rfl,sx rfl,trivial⟩) (⟨sx rfl,sx rfl,trivial⟩) trivial) ?_
  refine uAe (uAb ?_);refine uAa rfl rfl rfl (uAc rfl gU) ?_;refine uAa rfl rfl rfl (uAk rfl rfl gU gU rfl) ?_;refine uAf ?_;refine uAl rfl (fun hc2=>?_) (fun hc2=>?_)
  ·try simp only [nn,uAi,T.rows_len,Tk.rows_len] at hc2
   refine uAe (uAb ?_);refine uAa rfl rfl rfl (uAU rfl Tryz.underlying39 rfl gU) ?_;refine uAa rfl rfl rfl (uAc rfl gU) ?_;refine uAa rfl rfl rfl (uAc rfl gU) ?_;refine uAt rfl (uAx rfl rfl rfl rfl rfl rfl rfl) ?_;refine uAa rfl rfl rfl (uAd rfl gU) ?_;refine uAa rfl rfl rfl (uAd rfl gU) ?_;refine uAf ?_;refine uAo ?_
   repeat (first | refine tR ?_ | refine bR ?_)
   refine uAr rfl ?_ trivial
   (rw [uHx,if_neg (by simpa using hc),if_pos hc2]; rfl)
  ·try simp only [nn,uAi,T.rows_len,Tk.rows_len] at hc2
   refine uAp ?_;refine uAe ?_;refine uAe (uAb ?_);refine uAa rfl rfl rfl (uAy rfl gU rfl rfl rfl rfl rfl) ?_;refine uAA rfl rfl rfl rfl rfl rfl gU gU (uDy _ (by omega)) rfl ?_;refine uAa rfl rfl rfl (uAd rfl gU) ?_;refine uAf ?_;refine uAm (s:=⟨[(2,_,_),(9,_,_),(12,_,_)],[(.l 2,_),(.l 9,_)],[],[]⟩) (uAj (⟨sx rfl,sx rfl,sx rfl,trivial⟩) (⟨sx rfl,sx rfl,trivial⟩) trivial) ?_;refine uAe (uAb ?_);refine uAa rfl rfl rfl (uAc rfl gU) ?_;refine uAa rfl rfl rfl (uAk rfl rfl gU gU rfl) ?_;refine uAf ?_;refine uAl rfl (fun hc3=>?_) (fun hc3=>?_)
   ·try simp only [nn,uAi,T.rows_len,Tk.rows_len] at hc3
    refine uAe (uAb ?_);refine uAa rfl rfl rfl (uAU rfl Tryz.underlying39 rfl gU) ?_;refine uAa rfl rfl rfl (uAc rfl gU) ?_;refine uAt rfl (uAx rfl rfl rfl rfl rfl rfl rfl) ?_;refine uAa rfl rfl rfl (uAd rfl gU) ?_;refine uAa rfl rfl rfl (uAd rfl gU) ?_;refine uAf ?_;refine uAo ?_
    repeat (first | refine tR ?_ | refine bR ?_)
    refine uAr rfl ?_ trivial
    (rw [uHx,if_neg (by simpa using hc),if_neg (by simpa using hc2),if_pos hc3]; rfl)
   ·try simp only [nn,uAi,T.rows_len,Tk.rows_len] at hc3
    refine uAp ?_;refine uAe (uAb ?_);refine uAa rfl rfl rfl (uAy rfl gU rfl rfl rfl rfl rfl) ?_;refine uAt rfl (uAx rfl rfl rfl rfl rfl rfl rfl) ?_;refine uAa rfl rfl rfl (uAd rfl gU) ?_;refine uAa rfl rfl rfl (uAd rfl gU) ?_;refine uAf ?_;refine uAo ?_
    repeat (first | refine tR ?_ | refine bR ?_)
    refine uAr rfl ?_ trivial
    (rw [uHx,if_neg (by simpa using hc),if_neg (by simpa using hc2),if_neg (by simpa using hc3)]; rfl)
abbrev xnie (r : Nar × Int × Int) : X:=.tup [.agg r.1.cells, .c (.i .i64 r.2.1), .c (.i .i64 r.2.2)]
def uC6 (l : List Tk) : Nar × Int × Int :=
 if (endE l (uCp l).2).2≠0 then (nar0,(endE l (uCp l).2).1,(endE l (uCp l).2).2)
 else if narE uAO (uCp l).1≠0 then (nar0,0,narE uAO (uCp l).1)
 else ((uCp l).1,0,0)
def uB3 (s : List UInt8) : Nar × Int × Int:=if (tokP s).2.2≠0 then (nar0,(tokP s).2.1,(tokP s).2.2) else uC6 (tokP s).1
theorem uJY {l : List Tk} {m : Nat} {n : Nar} {p : PS} (h : p.bad=true) : uCn l m n p=(n,p):=by
 cases m with
 | zero=>rfl
 | succ m=>rw [uCn,if_pos h]
theorem uJl {l : List Tk} {m : Nat} {n : Nar} {p : PS} (h : p.bad=false) (hq : symQ l p [125]=true) : uCn l (m + 1) n p=(n,p.go):=by
 rw [uCn,if_neg (by rw [h]; simp),if_pos hq]
theorem uLL {l : List Tk} {m : Nat} {n : Nar} {p : PS} (h : p.bad=false) (hq : symQ l p [125]=false) : uCn l (m + 1) n p=uCn l m (uBU l n p).1 (uBU l n p).2:=by
 rw [uCn,if_neg (by rw [h]; simp),if_neg (by rw [hq]; simp)]
theorem uLr (l : List Tk) (n : Nar) (p : PS) : p.at'≤(uBU l n p).2.at':=Nat.le_trans (uA1 l uBS p).1 (Nat.le_trans (uG4 l n (uCt l p) (uAw l uBS p).1 (uAw l uBS p).2).1 (uBp l [59] _).1)
theorem uK4 {l : List Tk} {n : Nar} {p : PS} (h : (n,p)=uCp l) (he : (endE l p).2≠0) : uC6 l=(nar0,(endE l p).1,(endE l p).2):=by
 unfold uC6; rw [← h,if_pos he]
theorem uK0 {l : List Tk} {n : Nar} {p : PS} (h : (n,p)=uCp l) (he : (endE l p).2=0) (hv : narE uAO n≠0) : uC6 l=(nar0,0,narE uAO n):=by
 unfold uC6; rw [← h,if_neg (by simpa using he),if_pos hv]
theorem uKZ {l : List Tk} {n : Nar} {p : PS} (h : (n,p)=uCp l) (he : (endE l p).2=0) (hv : narE uAO n=0) : uC6 l=(n,0,0):=by
 unfold uC6; rw [← h,if_neg (by simpa using he),if_neg (by simpa using hv)]
set_option maxHeartbeats 4000000 in
theorem uJO (s : List UInt8) (hs : s.length≤100000) : Ctr sysO 16 [xs s] [] (xnie (uB3 s)) none []:=by
 have hcnt:=uDD s
 have htl:=Tk.rows_len (tokP s).1
 obtain ⟨l,hl⟩ : ∃ l,(tokP s).1=l:=⟨_,rfl⟩
 have hll : l.length≤100000:=by rw [← hl]; omega
 have a1:=(uA1 l [uFR] ⟨0,false⟩).2 (Nat.zero_le _)
 have a2:=(uA1 l [] (uAw l [uFR] ⟨0,false⟩).2).2 a1
 have a3:=(uBp l [123] (uAw l [] (uAw l [uFR] ⟨0,false⟩).2).2).2 a2
 have hn1:=uBv l ⟨0,false⟩ [uFR] (by omega) (by dsimp only; omega)
 have hn2:=uBv l (uAw l [uFR] ⟨0,false⟩).2 [] (by omega) (by omega)
 refine uAz Tryz.func16 rfl rfl rfl rfl rfl rfl ?_;refine uAe (uAb ?_);refine uAt rfl (uAN rfl rfl rfl) ?_;refine uAa rfl rfl rfl (uAd rfl gU) ?_;refine uAa rfl rfl rfl (uAd rfl gU) ?_;refine uAf ?_;refine uAe (uAb ?_);refine uAa rfl rfl rfl (uAc rfl gU) ?_;refine uAA rfl rfl rfl rfl rfl rfl gU gU (up (uFO _ (by omega))) rfl ?_;refine uAa rfl rfl rfl (uAc rfl gU) ?_;refine uAa rfl rfl rfl (uAE rfl gU rfl) ?_;refine uAa rfl rfl rfl (uAE rfl gU rfl) ?_;refine uAa rfl rfl rfl (uAE rfl gU rfl) ?_;refine uAa rfl rfl rfl (uAd rfl gU) ?_;refine uAa rfl rfl rfl (uAd rfl gU) ?_;refine uAa rfl rfl rfl (uAd rfl gU) ?_;refine uAf ?_;refine uAm (s:=⟨[(2,_,_),(5,_,_),(6,_,_),(7,_,_)],[(.l 2,_)],[],[]⟩) (uAj (⟨sx rfl,sx rfl,sx rfl,sx rfl,trivial⟩) (⟨sx rfl,trivial⟩) trivial) ?_;refine uAe ?_;refine uAe (uAb ?_);refine uAa rfl rfl rfl (uAc rfl gU) ?_;refine uAa rfl rfl rfl (uAk rfl rfl gU gU rfl) ?_;refine uAf ?_;refine uAl rfl (fun hc=>?_) (fun hc=>?_)
 ·try simp only [nn,uAi,T.rows_len,Tk.rows_len] at hc
  refine uAe (uAb ?_);refine uAa rfl rfl rfl (uAU rfl Tryz.underlying27 rfl gU) ?_;refine uAa rfl rfl rfl (uAc rfl gU) ?_;refine uAa rfl rfl rfl (uAc rfl gU) ?_;refine uAt rfl (uAx rfl rfl rfl rfl rfl rfl rfl) ?_;refine uAa rfl rfl rfl (uAd rfl gU) ?_;refine uAa rfl rfl rfl (uAd rfl gU) ?_;refine uAf ?_;refine uAo ?_
  repeat (first | refine tR ?_ | refine bR ?_)
  refine uAr rfl ?_ trivial
  (rw [uB3,if_pos hc]; rfl)
 ·try simp only [nn,uAi,T.rows_len,Tk.rows_len] at hc
  have hpe : uB3 s=uC6 l:=by rw [uB3,if_neg (by simpa using hc),hl]
  rw [hpe]
  rw [hl]
  refine uAp ?_;refine uAe (uAb ?_);refine uAa rfl rfl rfl (uAc rfl gU) ?_;refine uAa rfl rfl rfl (uAU rfl Tryz.underlying86 rfl gU) ?_;refine uAt rfl (uBa rfl rfl rfl rfl) ?_;refine uAa rfl rfl rfl (uAd rfl gU) ?_;refine uAf ?_;refine uAm (s:=⟨[(2,_,_),(8,_,_)],[(.l 2,_),(.l 26,_)],[],[]⟩) (uAj (⟨sx rfl,sx rfl,trivial⟩) (⟨sx rfl,sx rfl,trivial⟩) trivial) ?_;refine uAe (uAb ?_);refine uAt rfl (uJN rfl rfl rfl rfl) ?_;refine uAf ?_;refine uAe (uAb ?_);refine uAa rfl rfl rfl (uAc rfl gU) ?_;refine uAM (xs:=[_]) rfl rfl rfl rfl rfl rfl rfl rfl rfl gU rfl ?_;refine uAH (.l 26) rfl rfl rfl rfl rfl rfl (up hn1) rfl (by rfl) (by rfl) rfl rfl rfl ?_;refine uAf ?_;refine uAe (uAb ?_);refine uAa rfl rfl rfl (uAc rfl gU) ?_;refine uAH (.l 26) rfl rfl rfl rfl rfl rfl (up hn2) rfl (by rfl) (by rfl) rfl rfl rfl ?_;refine uAa rfl rfl rfl (uAh rfl gU rfl rfl) ?_;refine uAt rfl (uAx rfl rfl rfl rfl rfl rfl rfl) ?_;refine uAf ?_;refine uAm (s:=⟨[(2,_,_),(8,_,_),(9,_,_)],[(.l 2,_),(.l 26,_),(.l 9,_)],[],[]⟩) (uAj (⟨sx rfl,sx rfl,sx rfl,trivial⟩) (⟨sx rfl,sx rfl,sx rfl,trivial⟩) trivial) ?_;refine uAe (uAb ?_);refine uAa rfl rfl rfl (uAc rfl gU) ?_;refine uAH (.l 26) rfl rfl rfl rfl rfl rfl (up (uBb l _ _ (by omega) (by omega))) rfl (by rfl) (by rfl) rfl rfl rfl ?_
  refine uAf ?_;refine uAe ?_;refine uAs ?_;refine uE5 (.l 9) 1 1 rfl rfl rfl ?_;refine uE5 (.l 9) 2 3 rfl rfl rfl ?_;refine uE5 (.l 9) 3 1 rfl rfl rfl ?_;refine uE5 (.l 9) 4 7 rfl rfl rfl ?_;refine uE5 (.l 9) 5 5 rfl rfl rfl ?_;refine uAZ (ι:=PS × Nar) { t:=[(2,_,_),(8,_,_),(9,_,_)],bx:=[(.l 2,_)],ow:=[(.b (.l 9) 1,_),(.b (.l 9) 2,_),(.b (.l 9) 3,_),(.b (.l 9) 4,_),(.b (.l 9) 5,_)] } (fun q=>[]) (fun q=>[((.l 26),pbx l q.1),((.l 9),q.2.cells)]) (fun q=>q.1.at'≤l.length∧q.2.Le q.1.at'∧q.2.Sm (2 * l.length + 2) ∧ ∃ m,(q.1.bad=true∨l.length < m + q.1.at')∧uCn l m q.2 q.1=uCp l) (fun q=>(l.length - q.1.at') + (if q.1.bad=true then 0 else 1)) ((uA4 l [123] (uAw l [] (uAw l [uFR] ⟨0,false⟩).2).2,{ nar0 with name:=(uAw l [] (uAw l [uFR] ⟨0,false⟩).2).1 })) (⟨a3,⟨Nat.zero_le _,Nat.zero_le _,Nat.zero_le _,Nat.zero_le _,Nat.zero_le _⟩,⟨fun s hs=>by simp [nar0] at hs,fun s hs=>by simp [nar0] at hs⟩,l.length + 2, .inr (by omega),rfl⟩) (uAj (⟨sx rfl,sx rfl,sx rfl,trivial⟩) (⟨sx rfl,sx rfl,sx rfl,trivial⟩) (⟨rfl,rfl,rfl,rfl,rfl,trivial⟩)) ?_
  intro q hok
  dsimp only [List.cons_append,List.nil_append] at *
  obtain ⟨⟨at1,bad1⟩,n⟩:=q
  dsimp only at hok ⊢
  obtain ⟨hq,hle,hsm,m,hm,hi⟩:=hok
  have hle2:=hle.mono (j:=2000000) (by omega)
  cases bad1
  ·skip
   refine uAe ?_;refine uAe (uAb ?_);refine uAa rfl rfl rfl (uAc rfl gU) ?_;refine uAa rfl rfl rfl (uAv rfl gU) ?_;refine uAa rfl rfl rfl (uAh rfl gU rfl rfl) ?_;refine uAa rfl rfl rfl (uAn rfl gU rfl rfl rfl rfl) ?_;refine uAa rfl rfl rfl (uA8 rfl gU) ?_;refine uAa rfl rfl rfl (uAc rfl gU) ?_;refine uAa rfl rfl rfl (uAc rfl gU) ?_;refine uAH (.l 26) rfl rfl rfl rfl rfl rfl (up (uBQ l ⟨at1,false⟩ _ (by omega) (by dsimp only; omega))) rfl (by rfl) (by rfl) rfl rfl rfl ?_;refine uAa rfl rfl rfl (uA8 rfl (fun hh=>hh)) ?_;refine uAa rfl rfl rfl (uAX rfl rfl gU (fun _ hi=>gP rfl hi)) ?_;refine uAf ?_;refine uAm (s:=⟨[(2,_,_),(8,_,_),(9,_,_),(44,_,_)],[(.l 2,_),(.l 26,_),(.l 9,_)],[(.b (.l 9) 1,_),(.b (.l 9) 2,_),(.b (.l 9) 3,_),(.b (.l 9) 4,_),(.b (.l 9) 5,_)],[]⟩) (uAj (⟨sx rfl,sx rfl,sx rfl,sx rfl,trivial⟩) (⟨sx rfl,sx rfl,sx rfl,trivial⟩) (⟨rfl,rfl,rfl,rfl,rfl,trivial⟩)) ?_;refine uAl rfl (fun hc2=>?_) (fun hc2=>?_)
   ·try simp only [nn,uAi,T.rows_len,Tk.rows_len] at hc2
    have hz : symQ l ⟨at1,false⟩ [125]=false:=by simpa using hc2
    have hs2 : symP l ⟨at1,false⟩ [125]=⟨at1,false⟩:=by rw [symP,hz]; rfl
    have hm : l.length < m + at1:=hm.resolve_left (by simp)
    obtain ⟨m,rfl⟩ : ∃ j,m=j + 1:=⟨m - 1,by omega⟩
    rw [uLL rfl hz] at hi
    rw [hs2]
    obtain ⟨i1,i2⟩:=uMD l n ⟨at1,false⟩ hq
    have i5:=uLr l n ⟨at1,false⟩
    dsimp only at i5
    have i3:=uMo (l:=l) (p:=⟨at1,false⟩) hle
    have i4:=uL4 (l:=l) (p:=⟨at1,false⟩) hsm hq
    refine uAp ?_;refine uAs ?_;refine uAb ?_;refine uAa rfl rfl rfl (uAc rfl gU) ?_;refine uC7 [⟨.l 26,0,pbx l ⟨at1,false⟩,pbx l (uBU l n ⟨at1,false⟩).2⟩,⟨.l 9,0,n.cells,(uBU l n ⟨at1,false⟩).1.cells⟩] osN rfl rfl rfl rfl rfl rfl (ps2 rfl rfl) rfl rfl (uK9 l ⟨at1,false⟩ n (by omega) hq hle2) rfl rfl rfl ?_;refine uAf ?_;refine ⟨((uBU l n ⟨at1,false⟩).2,(uBU l n ⟨at1,false⟩).1),?_,?_,uAj (⟨sx rfl,sx rfl,sx rfl,trivial⟩) (⟨⟨_,rfl,?_⟩,⟨⟨_,rfl,?_⟩,⟨sx rfl,trivial⟩⟩⟩) (⟨rfl,rfl,rfl,rfl,rfl,trivial⟩)⟩
    ·refine ⟨i1,i3,i4,m,?_,hi⟩
     cases hz2 : (uBU l n ⟨at1,false⟩).2.bad with
     | true=>exact .inl rfl
     | false=>exact .inr (by have := i2 hz2; dsimp only at this ⊢; omega)
    ·dsimp only
     cases hz2 : (uBU l n ⟨at1,false⟩).2.bad with
     | true=>simp; omega
     | false=>have := i2 hz2; dsimp only at this; simp; omega
    all_goals rfl
   ·try simp only [nn,uAi,T.rows_len,Tk.rows_len] at hc2
    have hz : symQ l ⟨at1,false⟩ [125]=true:=by simpa using hc2
    have hs2 : symP l ⟨at1,false⟩ [125]=⟨at1 + 1,false⟩:=by rw [symP,if_pos hz]; rfl
    have hm : l.length < m + at1:=hm.resolve_left (by simp)
    obtain ⟨m,rfl⟩ : ∃ j,m=j + 1:=⟨m - 1,by omega⟩
    rw [uJl rfl hz] at hi
    have hi : (n,(⟨at1 + 1,false⟩ : PS))=uCp l:=hi
    rw [hs2]
    refine uAL ?_
    repeat (first | refine uAF ?_ | refine uAG ?_ | refine uAC rfl ?_)
    refine uAe ?_;refine uAe (uAb ?_);refine uAa rfl rfl rfl (uAc rfl gU) ?_;refine uAH (.l 26) rfl rfl rfl rfl rfl rfl (up (uFj _ _ (by omega))) rfl (by rfl) (by rfl) rfl rfl rfl ?_;refine uAa rfl rfl rfl (uAc rfl gU) ?_;refine uAa rfl rfl rfl (uAE rfl gU rfl) ?_;refine uAa rfl rfl rfl (uAE rfl gU rfl) ?_;refine uAa rfl rfl rfl (uAd rfl gU) ?_;refine uAa rfl rfl rfl (uAd rfl gU) ?_;refine uAf ?_;refine uAm (s:=⟨[(2,_,_),(9,_,_),(10,_,_),(11,_,_)],[(.l 2,_),(.l 9,_)],[(.b (.l 9) 1,_),(.b (.l 9) 2,_),(.b (.l 9) 3,_),(.b (.l 9) 4,_),(.b (.l 9) 5,_)],[]⟩) (uAj (⟨sx rfl,sx rfl,sx rfl,sx rfl,trivial⟩) (⟨sx rfl,sx rfl,trivial⟩) (⟨rfl,rfl,rfl,rfl,rfl,trivial⟩)) ?_;refine uAe (uAb ?_);refine uAa rfl rfl rfl (uAc rfl gU) ?_;refine uAa rfl rfl rfl (uAk rfl rfl gU gU rfl) ?_;refine uAf ?_;refine uAl rfl (fun hc3=>?_) (fun hc3=>?_)
    ·try simp only [nn,uAi,T.rows_len,Tk.rows_len] at hc3
     refine uAe (uAb ?_);refine uAa rfl rfl rfl (uAU rfl Tryz.underlying27 rfl gU) ?_;refine uAa rfl rfl rfl (uAc rfl gU) ?_;refine uAa rfl rfl rfl (uAc rfl gU) ?_;refine uAt rfl (uAx rfl rfl rfl rfl rfl rfl rfl) ?_;refine uAa rfl rfl rfl (uAd rfl gU) ?_;refine uAa rfl rfl rfl (uAd rfl gU) ?_;refine uAf ?_;refine uAo ?_
     repeat (first | refine tR ?_ | refine bR ?_)
     refine uAr rfl ?_ trivial
     (rw [uK4 hi hc3]; rfl)
    ·try simp only [nn,uAi,T.rows_len,Tk.rows_len] at hc3
     refine uAp ?_;refine uAe ?_;refine uAe (uAb ?_);refine uAa rfl rfl rfl (uAy rfl gU rfl rfl rfl rfl rfl) ?_;refine uAA rfl rfl rfl rfl rfl rfl gU gU (up (uEN n (fun s hs=>Nat.le_trans (hsm.steps s hs) (by omega)) (fun g hg=>Nat.le_trans (hsm.goals g hg) (by omega)))) rfl ?_;refine uAa rfl rfl rfl (uAd rfl gU) ?_;refine uAf ?_;refine uAm (s:=⟨[(2,_,_),(9,_,_),(12,_,_)],[(.l 2,_),(.l 9,_)],[(.b (.l 9) 1,_),(.b (.l 9) 2,_),(.b (.l 9) 3,_),(.b (.l 9) 4,_),(.b (.l 9) 5,_)],[]⟩) (uAj (⟨sx rfl,sx rfl,sx rfl,trivial⟩) (⟨sx rfl,sx rfl,trivial⟩) (⟨rfl,rfl,rfl,rfl,rfl,trivial⟩)) ?_;refine uAe (uAb ?_);refine uAa rfl rfl rfl (uAc rfl gU) ?_;refine uAa rfl rfl rfl (uAk rfl rfl gU gU rfl) ?_;refine uAf ?_;refine uAl rfl (fun hc4=>?_) (fun hc4=>?_)
     ·try simp only [nn,uAi,T.rows_len,Tk.rows_len] at hc4
      refine uAe (uAb ?_);refine uAa rfl rfl rfl (uAU rfl Tryz.underlying27 rfl gU) ?_;refine uAa rfl rfl rfl (uAc rfl gU) ?_;refine uAt rfl (uAx rfl rfl rfl rfl rfl rfl rfl) ?_;refine uAa rfl rfl rfl (uAd rfl gU) ?_;refine uAa rfl rfl rfl (uAd rfl gU) ?_;refine uAf ?_;refine uAo ?_
      repeat (first | refine tR ?_ | refine bR ?_)
      refine uAr rfl ?_ trivial
      (rw [uK0 hi (by simpa using hc3) hc4]; rfl)
     ·try simp only [nn,uAi,T.rows_len,Tk.rows_len] at hc4
      refine uAp ?_;refine uAe (uAb ?_);refine uAa rfl rfl rfl (uAy rfl gU rfl rfl rfl rfl rfl) ?_;refine uAt rfl (uAx rfl rfl rfl rfl rfl rfl rfl) ?_;refine uAa rfl rfl rfl (uAd rfl gU) ?_;refine uAa rfl rfl rfl (uAd rfl gU) ?_;refine uAf ?_;refine uAo ?_
      repeat (first | refine tR ?_ | refine bR ?_)
      refine uAr rfl ?_ trivial
      (rw [uKZ hi (by simpa using hc3) (by simpa using hc4)]; rfl)
  ·skip
   refine uAe ?_;refine uAe (uAb ?_);refine uAa rfl rfl rfl (uAc rfl gU) ?_;refine uAa rfl rfl rfl (uAv rfl gU) ?_;refine uAa rfl rfl rfl (uAh rfl gU rfl rfl) ?_;refine uAa rfl rfl rfl (uAn rfl gU rfl rfl rfl rfl) ?_;refine uAa rfl rfl rfl (uA8 rfl gU) ?_;refine uAa rfl rfl rfl (uAc rfl gU) ?_;refine uAa rfl rfl rfl (uAc rfl gU) ?_;refine uKM (xb false) rfl rfl rfl ?_;refine uAa rfl rfl rfl (uA8 rfl (fun hh=>hh)) ?_;refine uAa rfl rfl rfl (uAX rfl rfl gU (fun _ hi=>gP rfl hi)) ?_;refine uAf ?_;refine uAm (s:=⟨[(2,_,_),(8,_,_),(9,_,_),(44,_,_)],[(.l 2,_),(.l 26,_),(.l 9,_)],[(.b (.l 9) 1,_),(.b (.l 9) 2,_),(.b (.l 9) 3,_),(.b (.l 9) 4,_),(.b (.l 9) 5,_)],[]⟩) (uAj (⟨sx rfl,sx rfl,sx rfl,sx rfl,trivial⟩) (⟨sx rfl,sx rfl,sx rfl,trivial⟩) (⟨rfl,rfl,rfl,rfl,rfl,trivial⟩)) ?_;refine uAl rfl (fun hc2=>?_) (fun hc2=>?_)
   ·exfalso
    simp at hc2
   ·rw [uJY rfl] at hi
    refine uAL ?_
    repeat (first | refine uAF ?_ | refine uAG ?_ | refine uAC rfl ?_)
    refine uAe ?_;refine uAe (uAb ?_);refine uAa rfl rfl rfl (uAc rfl gU) ?_;refine uAH (.l 26) rfl rfl rfl rfl rfl rfl (up (uFj _ _ (by omega))) rfl (by rfl) (by rfl) rfl rfl rfl ?_;refine uAa rfl rfl rfl (uAc rfl gU) ?_;refine uAa rfl rfl rfl (uAE rfl gU rfl) ?_;refine uAa rfl rfl rfl (uAE rfl gU rfl) ?_;refine uAa rfl rfl rfl (uAd rfl gU) ?_;refine uAa rfl rfl rfl (uAd rfl gU) ?_;refine uAf ?_;refine uAm (s:=⟨[(2,_,_),(9,_,_),(10,_,_),(11,_,_)],[(.l 2,_),(.l 9,_)],[(.b (.l 9) 1,_),(.b (.l 9) 2,_),(.b (.l 9) 3,_),(.b (.l 9) 4,_),(.b (.l 9) 5,_)],[]⟩) (uAj (⟨sx rfl,sx rfl,sx rfl,sx rfl,trivial⟩) (⟨sx rfl,sx rfl,trivial⟩) (⟨rfl,rfl,rfl,rfl,rfl,trivial⟩)) ?_;refine uAe (uAb ?_);refine uAa rfl rfl rfl (uAc rfl gU) ?_;refine uAa rfl rfl rfl (uAk rfl rfl gU gU rfl) ?_;refine uAf ?_;refine uAl rfl (fun hc3=>?_) (fun hc3=>?_)
    ·try simp only [nn,uAi,T.rows_len,Tk.rows_len] at hc3
     refine uAe (uAb ?_);refine uAa rfl rfl rfl (uAU rfl Tryz.underlying27 rfl gU) ?_;refine uAa rfl rfl rfl (uAc rfl gU) ?_;refine uAa rfl rfl rfl (uAc rfl gU) ?_;refine uAt rfl (uAx rfl rfl rfl rfl rfl rfl rfl) ?_;refine uAa rfl rfl rfl (uAd rfl gU) ?_;refine uAa rfl rfl rfl (uAd rfl gU) ?_;refine uAf ?_;refine uAo ?_
     repeat (first | refine tR ?_ | refine bR ?_)
     refine uAr rfl ?_ trivial
     (rw [uK4 hi hc3]; rfl)
    ·try simp only [nn,uAi,T.rows_len,Tk.rows_len] at hc3
     refine uAp ?_;refine uAe ?_;refine uAe (uAb ?_);refine uAa rfl rfl rfl (uAy rfl gU rfl rfl rfl rfl rfl) ?_;refine uAA rfl rfl rfl rfl rfl rfl gU gU (up (uEN n (fun s hs=>Nat.le_trans (hsm.steps s hs) (by omega)) (fun g hg=>Nat.le_trans (hsm.goals g hg) (by omega)))) rfl ?_;refine uAa rfl rfl rfl (uAd rfl gU) ?_;refine uAf ?_;refine uAm (s:=⟨[(2,_,_),(9,_,_),(12,_,_)],[(.l 2,_),(.l 9,_)],[(.b (.l 9) 1,_),(.b (.l 9) 2,_),(.b (.l 9) 3,_),(.b (.l 9) 4,_),(.b (.l 9) 5,_)],[]⟩) (uAj (⟨sx rfl,sx rfl,sx rfl,trivial⟩) (⟨sx rfl,sx rfl,trivial⟩) (⟨rfl,rfl,rfl,rfl,rfl,trivial⟩)) ?_;refine uAe (uAb ?_);refine uAa rfl rfl rfl (uAc rfl gU) ?_;refine uAa rfl rfl rfl (uAk rfl rfl gU gU rfl) ?_;refine uAf ?_;refine uAl rfl (fun hc4=>?_) (fun hc4=>?_)
     ·try simp only [nn,uAi,T.rows_len,Tk.rows_len] at hc4
      refine uAe (uAb ?_);refine uAa rfl rfl rfl (uAU rfl Tryz.underlying27 rfl gU) ?_;refine uAa rfl rfl rfl (uAc rfl gU) ?_;refine uAt rfl (uAx rfl rfl rfl rfl rfl rfl rfl) ?_;refine uAa rfl rfl rfl (uAd rfl gU) ?_;refine uAa rfl rfl rfl (uAd rfl gU) ?_;refine uAf ?_;refine uAo ?_
      repeat (first | refine tR ?_ | refine bR ?_)
      refine uAr rfl ?_ trivial
      (rw [uK0 hi (by simpa using hc3) hc4]; rfl)
     ·try simp only [nn,uAi,T.rows_len,Tk.rows_len] at hc4
      refine uAp ?_;refine uAe (uAb ?_);refine uAa rfl rfl rfl (uAy rfl gU rfl rfl rfl rfl rfl) ?_;refine uAt rfl (uAx rfl rfl rfl rfl rfl rfl rfl) ?_;refine uAa rfl rfl rfl (uAd rfl gU) ?_;refine uAa rfl rfl rfl (uAd rfl gU) ?_;refine uAf ?_;refine uAo ?_
      repeat (first | refine tR ?_ | refine bR ?_)
      refine uAr rfl ?_ trivial
      (rw [uKZ hi (by simpa using hc3) (by simpa using hc4)]; rfl)
theorem uEw (s : List UInt8) (hs : s.length≤100000) : Ctr sys 16 [xs s] [] (xnie (uB3 s)) none []:=(uJO s hs).wk rfl fun _ h=>h
end Go.Proofs.YtnjjdbapadkomaaGreatDoor
namespace Go.Proofs.YtnjjdbapadkomaaGreatDoor
open Go Go.Abs
theorem uMU (k : Int) : (uGg k).length≤7:=by
 unfold uGg
 have : ∀ j : Nat,(kindW.getD j []).length≤7:=by
  intro j
  match j with
  | 0=>decide
  | 1=>decide
  | 2=>decide
  | 3=>decide
  | 4=>decide
  | j + 5=>simp [kindW,List.getD_eq_getElem?_getD]
 exact this _
theorem uMa (k : Int) : (uHm k).length≤5:=by
 unfold uHm
 have : ∀ j : Nat,(sortW.getD j []).length≤5:=by
  intro j
  match j with
  | 0=>decide
  | 1=>decide
  | 2=>decide
  | j + 3=>simp [sortW,List.getD_eq_getElem?_getD]
 exact this _
theorem uEv (g : Gl) (hg : GlOk g) : Ctr sys 44 [xg g] [] (xs (uG6 g)) none []:=by
 have h1:=hg.k1
 have h2:=hg.k2
 have h3:=uCm hg.role
 have h4:=hg.wth
 have h5:=hg.len
 have h6:=uMU g.kind
 have hkl : kindW.length=5:=rfl
 have hkb : kindW.getD (g.kind - 1).toNat []=uGg g.kind:=rfl
 refine uAz Tryz.func44 rfl rfl rfl rfl rfl rfl ?_;refine uAe (uAb ?_);refine uAt rfl (uBa rfl rfl rfl rfl) ?_;refine uAa rfl rfl rfl (uAd rfl gU) ?_;refine uAf ?_;refine uAe ?_;refine awp_drawn' (by kernel_rfl) ?_;refine uBd rfl rfl rfl rfl rfl rfl rfl gU gU (uEx) rfl ?_;refine uAg rfl rfl rfl rfl (uAh rfl gU rfl rfl) ?_;refine uAS rfl rfl rfl rfl rfl rfl rfl gU rfl rfl rfl rfl ?_;refine uAg rfl rfl rfl rfl (uAq rfl rfl gU gU rfl (IntWalk.i64_in _ (by omega))) ?_;refine uAg rfl rfl rfl rfl (uAu (j:=(g.kind - 1).toNat) rfl rfl gU gU rfl rfl (by first | omega | (simp at hh ⊢; omega)) (fun hh=>uCK (by first | omega | (simp at hh ⊢; omega)))) ?_;refine uAg rfl rfl rfl rfl (uAP rfl gU rfl rfl rfl) ?_
 rw [hkb]
 refine uAg rfl rfl rfl rfl (uAB rfl rfl gU gU (by first | omega | (simp only [List.length_append,List.length_cons,List.length_nil]; omega))) ?_;refine uAg rfl rfl rfl rfl (uAh rfl gU rfl rfl) ?_;refine uAS rfl rfl rfl rfl rfl rfl rfl gU rfl rfl rfl rfl ?_;refine uAg rfl rfl rfl rfl (uAB rfl rfl gU gU (by first | omega | (simp only [List.length_append,List.length_cons,List.length_nil]; omega))) ?_;refine uAg rfl rfl rfl rfl (uAd rfl gU) ?_;refine uBf (by kernel_rfl) ?_;refine uAm (s:=⟨[(1,_,_),(3,_,_)],[(.l 1,_)],[],[]⟩) (uAj (⟨sx rfl,sx rfl,trivial⟩) (⟨sx rfl,trivial⟩) trivial) ?_;refine uAe ?_;refine uAe (uAb ?_);refine uAa rfl rfl rfl (uAy rfl gU rfl rfl rfl rfl rfl) ?_;refine uAA rfl rfl rfl rfl rfl rfl gU gU (uBV g) rfl ?_;refine uAf ?_;refine uAl rfl (fun hc=>?_) (fun hc=>?_)
 ·try simp only [nn,uAi,T.rows_len,Gl.rows_len,Fs.rows_len,Sp.rows_len] at hc
  refine uAb ?_;refine uAa rfl rfl rfl (uAc rfl gU) ?_;refine uAa rfl rfl rfl (uAh rfl gU rfl rfl) ?_;refine uAa rfl rfl rfl (uAn rfl gU rfl rfl rfl rfl) ?_;refine uAa rfl rfl rfl (uAB rfl rfl gU gU (by first | omega | (simp only [List.length_append,List.length_cons,List.length_nil]; omega))) ?_;refine uAa rfl rfl rfl (uAB rfl rfl gU gU (by first | omega | (simp only [List.length_append,List.length_cons,List.length_nil]; omega))) ?_;refine uAa rfl rfl rfl (uAd rfl gU) ?_;refine uAf ?_;refine uAm (s := ⟨[(1,_,_),(3,_,_)],[(.l 1,_)],[],[]⟩) (uAj (⟨sx rfl,sx rfl,trivial⟩) (⟨sx rfl,trivial⟩) trivial) ?_;refine uAe (uAb ?_);refine uAa rfl rfl rfl (uAc rfl gU) ?_;refine uAa rfl rfl rfl (uAB rfl rfl gU gU (by first | omega | (simp only [List.length_append,List.length_cons,List.length_nil]; omega))) ?_;refine uAa rfl rfl rfl (uAh rfl gU rfl rfl) ?_;refine uAa rfl rfl rfl (uAn rfl gU rfl rfl rfl rfl) ?_;refine uAA rfl rfl rfl rfl rfl rfl gU gU (uGd g.data (by have := hg.sizes; omega) hg.oks) rfl ?_;refine uAa rfl rfl rfl (uAB rfl rfl gU gU (by first | omega | (simp only [List.length_append,List.length_cons,List.length_nil]; omega))) ?_;refine uAa rfl rfl rfl (uAd rfl gU) ?_;refine uAf ?_;refine uAo ?_
  repeat (first | refine tR ?_ | refine bR ?_)
  refine uAr rfl ?_ trivial
  (rw [uG6,if_pos hc,hkb]; simp only [List.append_assoc]; rfl)
 ·try simp only [nn,uAi,T.rows_len,Gl.rows_len,Fs.rows_len,Sp.rows_len] at hc
  refine uAp ?_;refine uAe (uAb ?_);refine uAa rfl rfl rfl (uAc rfl gU) ?_;refine uAa rfl rfl rfl (uAB rfl rfl gU gU (by first | omega | (simp only [List.length_append,List.length_cons,List.length_nil]; omega))) ?_;refine uAa rfl rfl rfl (uAh rfl gU rfl rfl) ?_;refine uAa rfl rfl rfl (uAn rfl gU rfl rfl rfl rfl) ?_;refine uAA rfl rfl rfl rfl rfl rfl gU gU (uGd g.data (by have := hg.sizes; omega) hg.oks) rfl ?_;refine uAa rfl rfl rfl (uAB rfl rfl gU gU (by first | omega | (simp only [List.length_append,List.length_cons,List.length_nil]; omega))) ?_;refine uAa rfl rfl rfl (uAd rfl gU) ?_;refine uAf ?_;refine uAo ?_
  repeat (first | refine tR ?_ | refine bR ?_)
  refine uAr rfl ?_ trivial
  (rw [uG6,if_neg (by rw [hc]; simp),hkb]; simp only [List.append_assoc,List.nil_append]; rfl)
theorem map_take {α β : Type} (f : α→β) {l : List α} {d : α} {k : Nat} (h : k < l.length) : (l.take (k + 1)).map f=(l.take k).map f++[f (l.getD k d)]:=by rw [uDp (d:=d) h,List.map_append]; rfl
theorem uJH (x : List UInt8) (c : UInt8) (hx : x.length≤2000000) : Ctr sys 136 [xs (x++[c]),xs [c]] [] (xb true) none []:=by
 have hl : (x++[c]).length=x.length + 1:=by simp
 refine uAz Tryz.func136 rfl rfl rfl rfl rfl rfl ?_;refine uAe (uAb ?_);refine uAa rfl rfl rfl (uAd rfl gU) ?_;refine uAf ?_;refine uAe (uAb ?_);refine uAa rfl rfl rfl (uAc rfl gU) ?_;refine uBk rfl rfl rfl rfl rfl gU (Tryz.underlying9) ?_ (fun hh=>by simp at hh); intro hlen;refine uAa rfl rfl rfl (uAc rfl gU) ?_;refine uBk rfl rfl rfl rfl rfl gU (Tryz.underlying9) ?_ (fun hh=>by simp at hh); intro hlen;refine uAa rfl rfl rfl (uAk rfl rfl gU gU rfl) ?_;refine uAa rfl rfl rfl (uAc rfl gU) ?_;refine uAa rfl rfl rfl (uAc rfl gU) ?_;refine uAa rfl rfl rfl (uAc rfl gU) ?_;refine uAa rfl rfl rfl (uB7 rfl (fun hh=>hh) (Tryz.underlying9)) ?_;refine uAa rfl rfl rfl (uAc rfl gU) ?_;refine uAa rfl rfl rfl (uB7 rfl (fun hh=>hh) (Tryz.underlying9)) ?_;refine uBB (s:=⟨[(1,_,_),(10,_,_),(11,_,_),(13,_,_),(15,_,_)],[],[],[]⟩) (uAj (⟨sx rfl,sx rfl,sx rfl,sx rfl,sx rfl,trivial⟩) trivial trivial) ?_;refine uAa rfl rfl rfl (uAq rfl rfl (fun hh=>hh) (fun hh=>hh) rfl (IntWalk.i64_in _ (by omega))) ?_;refine uAa rfl rfl rfl (uA3 (l:=x.length) rfl (fun hh=>hh) Tryz.underlying9 (fun _=>⟨_,_,_,rfl,(fun hh=>hh),by first | omega | (simp only [hl,List.length_cons,List.length_nil]; omega) | (simp only [hl,List.length_cons,List.length_nil] at *; omega)⟩) (fun _=>rfl) (fun hh=>by first | omega | (simp only [hl,List.length_cons,List.length_nil]; omega) | (simp only [hl,List.length_cons,List.length_nil] at *; omega)) (fun hh=>by first | omega | (simp only [hl,List.length_cons,List.length_nil]; omega) | (simp only [hl,List.length_cons,List.length_nil] at *; omega))) ?_
 refine uAa rfl rfl rfl (uAc rfl gU) ?_;refine uAa rfl rfl rfl (uAW rfl rfl (fun hh=>hh) (fun hh=>hh) rfl) ?_;refine uAa rfl rfl rfl (uAX rfl rfl gU (fun _ hi=>gP rfl hi)) ?_;refine uAa rfl rfl rfl (uAd rfl gU) ?_;refine uAf ?_;refine uAo ?_
 repeat (first | refine tR ?_ | refine bR ?_)
 refine uAr rfl ?_ trivial;refine uCV ?_
 simp [List.take_of_length_le]
 omega
theorem uHd (x : List UInt8) (c : UInt8) (hx : x.length≤2000000) : Ctr sys 92 [xs (x++[c]),xs [c]] [] (xs x) none []:=by
 have hl : (x++[c]).length=x.length + 1:=by simp
 refine uAz Tryz.func92 rfl rfl rfl rfl rfl rfl ?_;refine uAe (uAb ?_);refine uAa rfl rfl rfl (uAd rfl gU) ?_;refine uAf ?_;refine uAe ?_;refine uAe (uAb ?_);refine uAa rfl rfl rfl (uAc rfl gU) ?_;refine uAa rfl rfl rfl (uAc rfl gU) ?_;refine uAA rfl rfl rfl rfl rfl rfl gU gU (uJH _ _ (by omega)) rfl ?_;refine uAf ?_;refine uAl rfl (fun hc=>?_) (fun hc=>?_)
 ·refine uAe (uAb ?_)
  refine uAa rfl rfl rfl (uAc rfl gU) ?_;refine uAa rfl rfl rfl (uAc rfl gU) ?_;refine uBk rfl rfl rfl rfl rfl gU (Tryz.underlying9) ?_ (fun hh=>by simp at hh); intro hlen;refine uAa rfl rfl rfl (uAc rfl gU) ?_;refine uBk rfl rfl rfl rfl rfl gU (Tryz.underlying9) ?_ (fun hh=>by simp at hh); intro hlen;refine uAa rfl rfl rfl (uAq rfl rfl gU gU rfl (IntWalk.i64_in _ (by omega))) ?_;refine uAa rfl rfl rfl (uA3 (h':=x.length) rfl gU Tryz.underlying9 (fun _=>rfl) (fun _=>⟨_,_,_,rfl,gU,by first | omega | (simp only [hl,List.length_cons,List.length_nil]; omega) | (simp only [hl,List.length_cons,List.length_nil] at *; omega)⟩) (fun hh=>by first | omega | (simp only [hl,List.length_cons,List.length_nil]; omega) | (simp only [hl,List.length_cons,List.length_nil] at *; omega)) (fun hh=>by first | omega | (simp only [hl,List.length_cons,List.length_nil]; omega) | (simp only [hl,List.length_cons,List.length_nil] at *; omega))) ?_;refine uAa rfl rfl rfl (uAd rfl gU) ?_;refine uAf ?_;refine uAo ?_
  repeat (first | refine tR ?_ | refine bR ?_)
  refine uAr rfl ?_ trivial;exact congrArg xs (by simp)
 ·exfalso
  simp at hc
theorem uIf (x : List UInt8) (c : UInt8) (hx : x.length≤2000000) : Ctr sys 42 [xs (x++[c]),xs [c]] [] (xs x) none []:=by
 refine uAz Tryz.func42 rfl rfl rfl rfl rfl rfl ?_;refine uAe (uAb ?_);refine uAa rfl rfl rfl (uAd rfl gU) ?_;refine uAf ?_;refine uAe (uAb ?_);refine uAa rfl rfl rfl (uAc rfl gU) ?_;refine uAa rfl rfl rfl (uAc rfl gU) ?_;refine uAA rfl rfl rfl rfl rfl rfl gU gU (uHd _ _ (by omega)) rfl ?_;refine uAa rfl rfl rfl (uAd rfl gU) ?_;refine uAf ?_;refine uAo ?_
 repeat (first | refine tR ?_ | refine bR ?_)
 refine uAr rfl ?_ trivial
 rfl
end Go.Proofs.YtnjjdbapadkomaaGreatDoor
namespace Go.Abs
variable {Z : Pg}
theorem Rel.rowBox {E : Env} {G : Gh} {st : St} {a : Act} {w : World} (h : Rel E G st a w) {j' : Nat} (hfr : FreshG st (.l j',true)) {cells : Array Value} {e : TypeId} {cs : List C}
  (hrep : ∀ (j : Nat) (c : C),cs[j]? = some c → ∃ v,cells[j]? = some v∧CRep w G.S c v) :
  ∃ G1,Rel E G1 (st.addBox (.l j') cs) a (w.alloc (.cells cells e))∧G1.A (.l j')=(w.heap.size,0):=by
 let f : Nat→Who:=fun o=>if o < cs.length then .box (.l j') else .none
 have hfr' : Fr (fun _ _=>False) w.heap.size w (w.alloc (.cells cells e)):=uCR w (.cells cells e)
 refine ⟨(G.push w.heap.size f).name (.l j') (w.heap.size,0),?_,by simp [Gh.name]⟩;refine Rel.addBox ?_ ?_ rfl
 ·refine (h.sub (St.drop_sub _ (.l j'))).grow hfr' ?_ (St.drop_same (st:=st) rfl (fun k g x hk=>hfr.1 rfl k g x hk) _ _) ?_
  ·intro b o hb
   have : ¬ b=w.heap.size:=by omega
   simp [Gh.name,Gh.push,this]
  ·intro b o hne
   simp only [Gh.name,Gh.push] at hne
   split at hne
   ·rename_i hb; subst hb; simp
   ·have := h.wf b o hne; simp; omega
 ·intro j c hj
  have hjl : j < cs.length:=(List.getElem?_eq_some_iff.1 hj).1
  obtain ⟨v,hv',hr⟩:=hrep j c hj
  refine ⟨by simp [Gh.name,Gh.push,f,hjl],by simp only [Gh.name,if_true]; exact World.frozen?_alloc_new w cells e _,v,?_,?_⟩
  ·simp only [Gh.name,if_true]
   rw [Nat.zero_add]
   exact (World.cell?_alloc_new w cells e j).trans hv'
  ·refine hr.mono ?_ ?_
   ·intro b o hs
    have hb:=h.wf b o (by unfold Gh.S at hs; rw [hs]; simp)
    have : ¬ b=w.heap.size:=by omega
    simpa [Gh.S,Gh.name,Gh.push,this] using hs
   ·intro b o hs
    have hb:=h.wf b o (by unfold Gh.S at hs; rw [hs]; simp)
    exact hfr'.cell b o hb (fun x=>x)
abbrev Eff.bms (d j' sz L : Nat) (cs : List C) : Eff:={ d:=some (d,true, .v (.ms (.l j') sz 0 L)),b:=some (.l j',cs),drop:=[.t d],gain:=some (.t d,sz) }
theorem uIA (j' : Nat) {N : Nat} {st : St} {ops : Array Oper} {o : Oper} {g : Bool} {d : Nat} {t : TypeId} {len : Nat} {parts : Array (Nat × Operand)} {xs : List Operand} {ti : TyI} {e sz by' : Nat} {rs : List (List C)}
  (ho : o.op = .buildSlice t len parts) (hg : uA7 ops st o=some true) (hd : o.dst=some d) (hN : Nat.ble (d + 1) N=true) (ht : tyAt Z.T t=some ti) (hel : ti.el=some (e,sz,by')) (hp : parts.toList=uDV 0 xs) (hx : Nat.beq xs.length len=true)
  (hrs : uCD Z.T st e sz xs=some (g,rs)) (hga : g=true) (hbig : Nat.ble (len * sz) 10000=true) (hfr : FreshG st (.l j',true)) : Op1 Z N ops o st (ap (.bms d j' sz len rs.flatten) st):=by
 intro E G a w hr hE K' Q' hK
 have hdN : d < E.nt:=by rw [hE.nt]; exact Nat.le_of_ble_eq_true hN
 rw [uBE hr hg,hd]
 rw [hd] at hK
 simp only [if_true]
 have hxl : xs.length=len:=Nat.eq_of_beq_eq_true hx
 have hbig' : len * sz≤10000:=Nat.le_of_ble_eq_true hbig
 have hrep:=uEz hr hrs hga
 have hrl : rs.length=xs.length:=hrep.len
 obtain ⟨hu,jf,ze,hinfo,hsz,_,hsz0,hze,hzec⟩:=(Z.tyOk ht).sl e sz by' hel
 have hsz' : ∀ x ∈ xs,(a.eval x).cells.size=sz:=by
  intro x hx
  obtain ⟨j,hj⟩:=List.getElem?_of_mem hx
  have hjl : j < rs.length:=by rw [hrl]; exact (List.getElem?_eq_some_iff.1 hj).1
  obtain ⟨x',hx',h1,h2⟩:=hrep.get j _ (List.getElem?_eq_getElem hjl)
  rw [hj] at hx'; simp at hx'; subst hx'
  rw [← Array.length_toList,← h2.len,h1]
 let zc : Array Value:=if len * sz=0 then #[] else ze.cells
 let cells0 : Array Value:=(Array.range (len * sz)).map (zc[· % zc.size]!)
 obtain ⟨cells,hf1,hf2,_,hf4⟩:=uGo sz a.eval xs 0 cells0 hsz' (by simp [cells0,hxl])
 have hfsz : cells.size=len * sz:=by rw [hf2]; simp [cells0]
 have hrun : (execOp a.eval o).run Z.P w = .ok (.value (.slice (some ⟨w.heap.size,0,none⟩) len len)) (w.alloc (.cells cells e)):=by
  have hmap : (parts.map fun (i,x)=>(i,a.eval x)).toList=(uDV 0 xs).map fun (i,x)=>(i,a.eval x):=by
   rw [Array.toList_map,hp]
  have hnb : ¬ (len * sz > 2 ^ 24):=by omega
  simp only [execOp,ho,Instr.buildSlice,underlying,Sem.run_bind,run_program,Result.andThen_ok,hu,Sem.run_pure,sizeOf,typeInfo,hinfo,hsz,Sem.run_ite,if_neg hnb]
  by_cases hz : len * sz=0
  ·simp only [hz,if_true]
   have hc0 : (Array.range 0).map ((#[] : Array Value)[· % (#[] : Array Value).size]!)=cells0:=by simp [cells0,hz]
   rw [hmap,hc0,hf1]
   simp [newRow]
  ·simp only [if_neg hz,zeroValue,typeInfo,Sem.run_bind,run_program,Result.andThen_ok,hinfo,Sem.run_pure,hze]
   have hc0 : (Array.range (len * sz)).map (ze.cells[· % ze.cells.size]!)=cells0:=by simp only [cells0,zc,if_neg hz]
   rw [hmap,hc0,hf1]
   simp [newRow]
 unfold Oper.wp
 rw [hrun,Oper.upon_value,hd]
 have hrow : ∀ (i : Nat) (row : List C),rs[i]? = some row→row.length=sz:=fun i row hi=>by
  obtain ⟨x,hx1,hx2,hx3⟩:=hrep.get i row hi
  exact hx2
 obtain ⟨G1,hG,hA⟩:=hr.rowBox (j':=j') hfr (cells:=cells) (e:=e) (cs:=rs.flatten) (fun m c hm=>by
  obtain ⟨i,j,row,hmi,_,hi,hj⟩:=uGW hrow hm
  subst hmi
  obtain ⟨x,hx1,hx2,hx3⟩:=hrep.get i row hi
  obtain ⟨v,hv,hcr⟩:=hx3.get j c hj
  have hjl : j < sz:=by rw [← hx2]; exact (List.getElem?_eq_some_iff.1 hj).1
  have := hf4 i x j hx1 hjl
  rw [Nat.zero_add] at this
  exact ⟨v,by rw [this]; simpa using hv,hcr⟩)
 have hput:=hG.put hdN (g:=true) (x:=.v (.ms (.l j') sz 0 len)) (v:=.slice (some ⟨w.heap.size,0,none⟩) len len) (fun _=>.inr ⟨len,Nat.le_refl _,by rw [hA]⟩) (fun hf=>by simp at hf)
 have hown:=hput.addOwn (p:=.t d) (sz:=sz) (v:=.slice (some ⟨w.heap.size,0,none⟩) len len) (by
  show (a.put (some d) _).tmps[d]? = _
  rw [uBu (by rw [hr.nt]; exact hdN)]; simp) (by
  refine .inr ⟨w.heap.size,len,len,e,rfl,⟨Nat.le_refl _,Nat.le_trans E.C_le (Nat.le_trans hr.hB hr.fr.size),fun _ _ _ hh=>by simp at hh⟩,⟨?_,uEe w cells e _⟩,fun o' h1 h2=>by omega⟩
  unfold World.shape?
  rw [show (w.alloc (.cells cells e)).heap[w.heap.size]? = some (.cells cells e) from Array.getElem?_push_size]
  simp [hfsz])
 have hsub : Sub (ap (.bms d j' sz len rs.flatten) st) (((st.addBox (.l j') rs.flatten).put d (true, .v (.ms (.l j') sz 0 len))).addOwn (.t d) sz):=by
  refine ⟨fun k x hk=>?_,fun n cs hn=>?_,fun p s hp=>?_, .inr rfl⟩
  ·rw [uCo] at hk
   show ((st.addBox (.l j') rs.flatten).put d (true, .v (.ms (.l j') sz 0 len))).get k=_
   rw [St.put_get]
   simp only [Eff.gt] at hk
   by_cases h : d=k
   ·subst h; simpa using hk
   ·have h' : ¬ k=d:=fun e=>h e.symm
    rw [if_neg h']
    have hk' : st.get k=some x:=by simpa [h] using hk
    exact hk'
  ·rw [uCu] at hn
   show getB ((.l j',rs.flatten) :: (st.drop (.l j')).bx) n=_
   rw [uAY]
   simp only [Eff.gb] at hn
   split
   ·rename_i he; rw [if_pos he] at hn; exact hn
   ·rename_i he
    rw [if_neg he] at hn
    show (st.drop (.l j')).box n=_
    rw [St.drop_box,if_neg (fun q=>he q.symm)]
    exact hn
  ·rw [uB9] at hp
   rw [St.addOwn_own]
   simp only [Eff.go,List.mem_singleton] at hp
   split
   ·rename_i he; rw [if_pos he] at hp; exact hp
   ·rename_i he
    rw [if_neg he] at hp
    rw [St.put_own]
    split
    ·rename_i h2; rw [if_pos h2] at hp; exact hp
    ·rename_i h2
     rw [if_neg h2] at hp
     show (st.drop (.l j')).own p=_
     rw [St.drop_own]
     have hp : st.own p=some s:=hp
     rw [hfr.2 p s hp]
     simpa using hp
 exact hK G1 _ _ (hown.sub hsub)
section
variable {N : Nat} {st s0 : St} {ops : Array Oper} {B : List Nat} {q : Nat} {rest : List Oper} {acc : List Lnk} {o : Oper} {Q : St→Prop} {d : Nat}
theorem uJ8 (j' : Nat) {g : Bool} {t : TypeId} {len : Nat} {parts : Array (Nat × Operand)} {xs : List Operand} {ti : TyI} {e sz by' : Nat} {rws : List (List C)} (hk : ops[q]? = some o)
  (ho : o.op = .buildSlice t len parts) (hg : uA7 ops (rs (foot ops o [] []) st) o=some true) (hd : o.dst=some d) (hN : Nat.ble (d + 1) N=true) (ht : tyAt Z.T t=some ti) (hel : ti.el=some (e,sz,by')) (hp : parts.toList=uDV 0 xs) (hx : Nat.beq xs.length len=true)
  (hrs : uCD Z.T (rs (foot ops o [] []) st) e sz xs=some (g,rws)) (hga : g=true) (hbig : Nat.ble (len * sz) 10000=true) (hf1 : s0.freshO (.l j',true)=true)
  (hr : Draw Z N s0 ops B (q + 1) rest (acc++[(q, .bms d j' sz len rws.flatten,{ foot ops o [] [] with rn:=[(.l j',true)] })]) (ap (.bms d j' sz len rws.flatten) st) Q) : Draw Z N s0 ops B q (o :: rest) acc st Q:=by
 refine uCz hk (R:={ foot ops o [] [] with rn:=[(.l j',true)] }) ?_ hr (by
  intro m hm
  simp only [List.mem_cons,List.not_mem_nil,or_false] at hm
  subst hm
  exact hf1)
 intro s2 hag hfr
 have hsub : Sub (rs (foot ops o [] []) st) s2:=hag.sub
 exact uIA j' ho (uB2 hsub hg) hd hN ht hel hp hx (uEE hsub hrs) hga hbig (hfr _ (by simp))
end
theorem uFY {st : St} {ty : TypeId} {x i : Operand} {t : TypeId} {g gi gate : Bool} {k : IntKind} {m : Int} {j sz : Nat} {es : List (List C)} {row : List C} {ti : TyI} {e by' : Nat} (h : lk Z.T st ty x=some (g, .v (.c (.sl sz es)))) (hi : lk Z.T st ty i=some (gi, .v (.c (.i k m))))
  (hg : gate=true→g=true) (hgi : gate=true→gi=true) (ht : tyAt Z.T t=some ti) (hel : ti.el=some (e,sz,by')) (hn : gate=true→m=(j : Int)) (hj : gate=true→es[j]? = some row) : PureOk Z st (.indexAddr t x i) ty gate (.v (.ro row)) :=
 fun o E G a w h1 h2 h3 h4=>uAu h hi hg hgi ht hel (hn h4) hj o E G a w h1 h2 h3 h4
theorem uJg (j' : Nat) {N : Nat} {ops : Array Oper} {rest : List Oper} {K : St→Prop} {st : St} {o : Oper} {d k : Nat} {x : Operand} {t : TypeId} {sz e by' L m0 : Nat} {cs : List C} {xs : List (List C)} {ti : TyI}
  (ho : o.op = .call { callee:=.builtin .append,args:=#[.tmp k,x],argTypes:=#[t,t] }) (hg : uA7 ops st o=some true) (hd : o.dst=some d)
  (hs : st.get k=some (true, .v (.ms (.l m0) sz 0 L))) (hw : st.own (.t k)=some sz) (hb : st.box (.l m0)=some cs) (hx : lk Z.T st t x=some (true, .v (.c (.sl sz xs))))
  (ht : tyAt Z.T t=some ti) (hel : ti.el=some (e,sz,by')) (hN : Nat.ble (d + 1) N=true) (hkd : Nat.beq k d=false) (hf1 : st.freshO (.l j',true)=true) (hf2 : st.freshO (.l m0,false)=true) (hcl : cs.length=L * sz) (hx1 : 1≤xs.length)
  (hbig : (L + xs.length) * by'≤140737488355328) (hmax : L + xs.length≤9223372036854775807)
  (h : AL Z N ops rest K (st.msApp d k j' (.l m0) sz (L + xs.length) (cs++xs.flatten))) (hz : Z.old=false:=by rfl) : AL Z N ops (o :: rest) K st :=
 uDe (uFf hg (by
  rw [hd,ho]
  exact uKn hs hw hx ht hel hN hkd ⟨_,rfl⟩ (St.freshO_ok hf1) (St.freshO_ok hf2) hcl hx1 hbig hmax (uOg hb hcl) (hz:=hz))) h
end Go.Abs
namespace Go.Proofs.YtnjjdbapadkomaaGreatDoor
open Go Go.Abs
def strC (L : List (List UInt8)) : List C:=L.map .s
theorem uHR : ∀ L : List (List UInt8),(strR L).flatten=strC L
 | []=>rfl
 | x :: L=>by
  show ([[C.s x]]++strR L).flatten=_
  rw [List.flatten_append,uHR L]; rfl
theorem uEY (L : List (List UInt8)) : (strC L).length=L.length:=by simp [strC]
theorem uGJ (a b : List (List UInt8)) : strC (a++b)=strC a++strC b:=by simp [strC]
theorem uMm (L : List (List UInt8)) : ∀ (i : Nat) (row : List C),(strR L)[i]? = some row→row.length=1:=by
 intro i row h
 rw [strR,List.getElem?_map,Option.map_eq_some_iff] at h
 obtain ⟨x,_,rfl⟩:=h
 rfl
theorem uLA (L : List (List UInt8)) (x : List UInt8) {j : Nat} (hj : j=L.length) : (strC (L++[x]))[0 + j * 1]? = some (.s x):=by
 subst hj; simp [strC]
theorem uIH (L : List (List UInt8)) (x y : List UInt8) {j : Nat} (hj : j=L.length) : uBy (strC (L++[x])) (0 + j * 1) [.s y]=strC (L++[y]):=by
 subst hj
 rw [uGJ,uGJ,Nat.zero_add,Nat.mul_one]
 have := uHw [C.s y] (strC L) [C.s x] [] rfl
 rw [uEY,List.append_nil,List.append_nil] at this
 exact this
theorem uN2 {a b : Nat} (h : a≤b) : Nat.ble a b=true:=Nat.ble_eq_true_of_le h
def Nar.lk (n : Nar) (k : Nat) : List (List UInt8):=[uGe n,(Itm.roles n.roles).text]++(frI n.fresh k).map Itm.text
theorem uKy (n : Nar) (k : Nat) : (n.lk k).length=2 + (frI n.fresh k).length:=by simp [Nar.lk]; omega
theorem uNN (f : Fs) : fsW f.pr=f.name++[32]++sortW.getD (f.sort - 2).toNat []:=by simp [fsW,Fs.pr,uHm]
theorem uNu {n : Nar} {k : Nat} (hs : uDT n.fresh k) : ∃ L x,n.lk k=L++[x++[59]]∧n.lk (k + 1)=L++[x++[44,32]++fsW (n.fresh.getD k default).pr++[59]] ∧ ∃ l,(Itm.fresh (n.fresh.getD k default).role l) ∈ frI n.fresh k∧x++[59]=(Itm.fresh (n.fresh.getD k default).role l).text:=by
 obtain ⟨I,l,h1,h2,h3⟩:=uGL hs
 obtain ⟨x,hx⟩:=uLk (n.fresh.getD k default).role l
 refine ⟨[uGe n,(Itm.roles n.roles).text]++I.map Itm.text,x,?_,?_,l,by rw [h2]; simp,hx.symm⟩
 ·rw [Nar.lk,h2,← hx]; simp
 ·rw [Nar.lk,h3,List.map_append,List.map_cons,List.map_nil,uLD _ h1,hx,List.dropLast_concat]; simp
theorem uNZ {n : Nar} {k : Nat} (hs : ¬uDT n.fresh k) : n.lk (k + 1)=n.lk k++[hFresh++(n.fresh.getD k default).role++[58,32]++fsW (n.fresh.getD k default).pr++[59]]:=by
 rw [Nar.lk,uIv hs,Nar.lk]
 simp [Itm.text,uIN]
def uE6 (n : Nar) : List UInt8 × Int:=if narE uAO n≠0 then ([],narE uAO n) else (n.text,0)
def Nar.rest (n : Nar) (j k : Nat) : List (List UInt8):=n.lk n.fresh.length++((if n.tags=[] then [] else [(Itm.tags n.tags).text])++((n.steps.take j).map (fun s=>(Itm.step s).text)++(n.goals.take k).map fun g=>(Itm.goal g).text))
theorem uJJ (n : Nar) : n.rest n.steps.length n.goals.length++[[125]]=n.lines:=by
 simp only [Nar.rest,List.take_length,Nar.lk,Nar.lines,Nar.itms]
 split <;> simp [List.map_map,Function.comp_def]
theorem uH1 (n : Nar) {j : Nat} (h : j < n.steps.length) : n.rest (j + 1) 0=n.rest j 0++[(Itm.step (n.steps.getD j default)).text]:=by
 simp only [Nar.rest,map_take (d:=default) (fun s=>(Itm.step s).text) h]
 simp
theorem uHs (n : Nar) {k : Nat} (h : k < n.goals.length) : n.rest n.steps.length (k + 1)=n.rest n.steps.length k++[(Itm.goal (n.goals.getD k default)).text]:=by
 simp only [Nar.rest,map_take (d:=default) (fun g=>(Itm.goal g).text) h]
 simp
theorem uMG (n : Nar) (j k : Nat) : (n.rest j k).length≤2 + n.fresh.length + 1 + n.steps.length + n.goals.length:=by
 have := uE8 n.fresh n.fresh.length
 have := List.length_take_le j n.steps
 have := List.length_take_le k n.goals
 simp only [Nar.rest,List.length_append,List.length_map,uKy]
 split <;> simp <;> omega
theorem uNI {n : Nar} (h : NarOk n) {k : Nat} (hk : k≤n.fresh.length) : (n.lk k).length≤14:=by
 have := uE8 n.fresh k
 have := h.f2
 rw [uKy]; omega
theorem uE0 {n : Nar} (h : NarOk n) (j k : Nat) : (n.rest j k).length≤31:=by
 have := uMG n j k
 have := h.f2
 have := h.s2
 have := h.g2
 omega
set_option maxHeartbeats 8000000 in
theorem uJr (n : Nar) (hs : ∀ s ∈ n.steps,s.msg.size≤900000) (hg : ∀ g ∈ n.goals,T.sizes g.data≤900000) : Ctr sys 12 [xn n] [] (xse (uE6 n)) none []:=by
 have hr1:=uAi n.roles
 have hr2:=Fs.rows_len n.fresh
 have hr3:=uAi n.tags
 have hr4:=Sp.rows_len n.steps
 have hr5:=Gl.rows_len n.goals
 refine uAz Tryz.func12 rfl rfl rfl rfl rfl rfl ?_;refine uAe (uAb ?_);refine uAt rfl (uBa rfl rfl rfl rfl) ?_;refine uAa rfl rfl rfl (uAd rfl gU) ?_;refine uAa rfl rfl rfl (uAd rfl gU) ?_;refine uAf ?_;refine uAe ?_;refine uAe (uAb ?_);refine uAa rfl rfl rfl (uAy rfl gU rfl rfl rfl rfl rfl) ?_;refine uAA rfl rfl rfl rfl rfl rfl gU gU (uEN n hs hg) rfl ?_;refine uAa rfl rfl rfl (uAd rfl gU) ?_;refine uAf ?_;refine uAm (s:=⟨[(1,_,_),(4,_,_)],[(.l 1,_)],[],[]⟩) (uAj (⟨sx rfl,sx rfl,trivial⟩) (⟨sx rfl,trivial⟩) trivial) ?_;refine uAe (uAb ?_);refine uAa rfl rfl rfl (uAc rfl gU) ?_;refine uAa rfl rfl rfl (uAk rfl rfl gU gU rfl) ?_;refine uAf ?_;refine uAl rfl (fun hc=>?_) (fun hc=>?_)
 ·try simp only [nn,uAi,T.rows_len,Gl.rows_len,Fs.rows_len,Sp.rows_len] at hc
  refine uAe (uAb ?_);refine uAa rfl rfl rfl (uAc rfl gU) ?_;refine uAa rfl rfl rfl (uAd rfl gU) ?_;refine uAa rfl rfl rfl (uAd rfl gU) ?_;refine uAf ?_;refine uAo ?_
  repeat (first | refine tR ?_ | refine bR ?_)
  refine uAr rfl ?_ trivial
  (rw [uE6,if_pos hc]; rfl)
 ·try simp only [nn,uAi,T.rows_len,Gl.rows_len,Fs.rows_len,Sp.rows_len] at hc
  have hE : uE6 n=(n.text,0):=by rw [uE6,if_neg (by simpa using hc)]
  have hok:=uMO (n:=n) (by simpa using hc)
  have b1:=uCm hok.name
  have b2:=uDE hok.roles
  have b3:=hok.r2
  have b4:=uDE hok.tags
  have b5:=hok.t2
  have b6:=hok.f2
  have b7:=hok.s2
  have b8:=hok.g2
  rw [hE]
  refine uAp ?_;refine uAe ?_;refine awp_drawn' (by kernel_rfl) ?_;refine uAg rfl rfl rfl rfl (uAh rfl gU rfl rfl) ?_;refine uAS rfl rfl rfl rfl rfl rfl rfl gU rfl rfl rfl rfl ?_;refine uAg rfl rfl rfl rfl (uAB rfl rfl gU gU (by first | omega | (simp only [List.length_append,List.length_cons,List.length_nil]; omega))) ?_;refine uAg rfl rfl rfl rfl (uAB rfl rfl gU gU (by first | omega | (simp only [List.length_append,List.length_cons,List.length_nil]; omega))) ?_;refine uAg rfl rfl rfl rfl (uAh rfl gU rfl rfl) ?_;refine uAS rfl rfl rfl rfl rfl rfl rfl gU rfl rfl rfl rfl ?_;refine uBd rfl rfl rfl rfl rfl rfl rfl gU gU (uDr n.roles [44,32] (by omega) (by decide) (by omega)) rfl ?_;refine uAg rfl rfl rfl rfl (uAB rfl rfl gU gU (by first | omega | (simp only [List.length_append,List.length_cons,List.length_nil]; omega))) ?_;refine uAg rfl rfl rfl rfl (uAB rfl rfl gU gU (by first | omega | (simp only [List.length_append,List.length_cons,List.length_nil]; omega))) ?_;refine uJ8 28 (xs:=[_,_]) rfl rfl rfl rfl rfl rfl rfl rfl rfl rfl rfl rfl rfl ?_;refine uFc rfl (.inr rfl) rfl rfl rfl rfl rfl ?_;refine uBf (by kernel_rfl) ?_;refine uAm (s:=⟨[(1,_,_),(5,_,_)],[(.l 1,_),(.l 28,_)],[(.t 5,_)],[]⟩) (uAj (⟨sx rfl,sx rfl,trivial⟩) (⟨sx rfl,sx rfl,trivial⟩) (⟨rfl,trivial⟩)) ?_;refine uAe ?_;refine uAe (uAb ?_)
  refine uAa rfl rfl rfl (uAh rfl gU rfl rfl) ?_;refine uAa rfl rfl rfl (uAn rfl gU rfl rfl rfl rfl) ?_;refine uAR rfl rfl rfl rfl rfl gU rfl rfl ?_ (fun hh=>by simp at hh); intro hlen;refine uAa rfl rfl rfl (uAc rfl gU) ?_;refine uAf ?_;refine uAs ?_;refine uAZ (ι:=Nat) { t:=[(1,_,_),(30,_,_),(31,_,_)],bx:=[(.l 1,_)],ow:=[(.t 5,_)] } (fun k=>[(32,true,xi (k : Int)),(5,true, .v (.ms (.l 28) 1 0 (n.lk k).length))]) (fun k=>[((.l 28),strC (n.lk k))]) (fun k=>k≤n.fresh.length) (fun k=>n.fresh.length - k) (0) (by simp) (uAj (⟨sx rfl,sx rfl,sx rfl,sx rfl,sx rfl,trivial⟩) (⟨⟨_,rfl,by simp [strC,Nar.lk,frI,uGe,Itm.text,hProt,hRole]⟩,⟨sx rfl,trivial⟩⟩) (⟨rfl,trivial⟩)) ?_
  intro k hokk
  dsimp only [List.cons_append,List.nil_append]
  have hlm:=uNI hok hokk
  have hll:=uKy n k
  have hcl:=uEY (n.lk k)
  refine uAe (uAb ?_);refine uAa rfl rfl rfl (uAk rfl rfl gU gU rfl) ?_;refine uAf ?_;refine uAe ?_;refine uAl rfl (fun hc2=>?_) (fun hc2=>?_)
  ·try simp only [nn,uAi,T.rows_len,Gl.rows_len,Fs.rows_len,Sp.rows_len] at hc2
   have hlt : k < n.fresh.length:=by omega
   obtain ⟨f1,f2,f3,f4⟩:=hok.fresh _ (uCB (d:=default) hlt)
   have f5:=uCm f1
   have f6:=uCm f2
   have f7:=uMa (n.fresh.getD k default).sort
   have f8:=uNN (n.fresh.getD k default)
   have hsl : sortW.length=3:=rfl
   have hfw : (fsW (n.fresh.getD k default).pr).length≤40:=by
    simp only [fsW,Fs.pr,List.length_append,List.length_cons,List.length_nil]; omega
   have f9 : (sortW.getD ((n.fresh.getD k default).sort - 2).toNat []).length≤5:=f7
   refine uAp ?_;refine uAe ?_;refine uAs ?_;refine uAe (uAb ?_);refine uAa rfl rfl rfl (uAc rfl gU) ?_;refine uAa rfl rfl rfl (uAu rfl rfl gU gU rfl rfl rfl (fun hh=>Fs.rows_at (by first | omega | (simp at hh ⊢; omega)))) ?_;refine uAa rfl rfl rfl (uAK rfl gU rfl rfl rfl rfl) ?_;refine uAt rfl (uAN rfl rfl rfl) ?_;refine uAa rfl rfl rfl (uAd rfl gU) ?_;refine uAt rfl (uAx rfl rfl rfl rfl rfl rfl rfl) ?_;refine uAf ?_;refine uAm (s:=⟨[(1,_,_),(5,_,_),(6,_,_),(7,_,_),(30,_,_),(31,_,_),(32,_,_)],[(.l 1,_),(.l 28,_),(.l 7,_)],[(.t 5,_)],[]⟩) (uAj (⟨sx rfl,sx rfl,sx rfl,sx rfl,sx rfl,sx rfl,sx rfl,trivial⟩) (⟨sx rfl,sx rfl,sx rfl,trivial⟩) (⟨rfl,trivial⟩)) ?_;refine uAe ?_;refine awp_drawn' (by kernel_rfl) ?_;refine uAg rfl rfl rfl rfl (uAh rfl gU rfl rfl) ?_;refine uAS rfl rfl rfl rfl rfl rfl rfl gU rfl rfl rfl rfl ?_;refine uAg rfl rfl rfl rfl (uAB rfl rfl gU gU (by first | omega | (simp only [List.length_append,List.length_cons,List.length_nil]; omega))) ?_;refine uBd rfl rfl rfl rfl rfl rfl rfl gU gU (uEy) rfl ?_;refine uAg rfl rfl rfl rfl (uAh rfl gU rfl rfl) ?_;refine uAS rfl rfl rfl rfl rfl rfl rfl gU rfl rfl rfl rfl ?_;refine uAg rfl rfl rfl rfl (uAq rfl rfl gU gU rfl (IntWalk.i64_in _ (by omega))) ?_;refine uAg rfl rfl rfl rfl (uAu (j:=((n.fresh.getD k default).sort - 2).toNat) rfl rfl gU gU rfl rfl (by first | omega | (simp at hh ⊢; omega)) (fun hh=>uCK (by first | omega | (simp at hh ⊢; omega)))) ?_
   refine uAg rfl rfl rfl rfl (uAP rfl gU rfl rfl rfl) ?_;refine uAg rfl rfl rfl rfl (uAB rfl rfl gU gU (by first | omega | (simp only [List.length_append,List.length_cons,List.length_nil]; omega))) ?_
   rw [← f8]
   refine uAg rfl rfl rfl rfl (uAd rfl gU) ?_;refine uBf (by kernel_rfl) ?_;refine uAm (s:=⟨[(1,_,_),(5,_,_),(6,_,_),(7,_,_),(8,_,_),(30,_,_),(31,_,_),(32,_,_)],[(.l 1,_),(.l 28,_),(.l 7,_)],[(.t 5,_)],[]⟩) (uAj (⟨sx rfl,sx rfl,sx rfl,sx rfl,sx rfl,sx rfl,sx rfl,sx rfl,trivial⟩) (⟨sx rfl,sx rfl,sx rfl,trivial⟩) (⟨(ak rfl (ak rfl (ak rfl (ak rfl (ak rfl (ak rfl (ak rfl (ak rfl (ak rfl (ak rfl (ak rfl (rfl)))))))))))),trivial⟩)) ?_;refine uAe ?_;refine uAe ?_;refine awp_drawn' (by kernel_rfl) ?_;refine uAg rfl rfl rfl rfl (uAc rfl gU) ?_;refine uAg rfl rfl rfl rfl (uAk rfl rfl gU gU rfl) ?_;refine uAg rfl rfl rfl rfl (uAc rfl gU) ?_;refine uAg rfl rfl rfl rfl (uAh rfl gU rfl rfl) ?_;refine uAS rfl rfl rfl rfl rfl rfl rfl (fun hh=>hh) rfl rfl rfl rfl ?_;refine uAg rfl rfl rfl rfl (uAc rfl gU) ?_;refine uAg rfl rfl rfl rfl (uAq rfl rfl (fun hh=>hh) gU rfl (IntWalk.i64_in _ (by omega))) ?_;refine uAg rfl rfl rfl rfl (uFY (j:=k - 1) rfl rfl (by first | exact fun hh=>hh | exact fun _=>rfl | exact fun hh=>gL hh | exact fun hh=>gL (gL hh) | (intro hh; simp_all)) (by first | exact fun hh=>hh | exact fun _=>rfl | exact fun hh=>gL hh | exact fun hh=>gL (gL hh) | (intro hh; simp_all)) rfl rfl (fun hh=>by simp at hh; omega) (fun hh=>Fs.rows_at (by simp at hh; omega))) ?_
   refine uAg rfl rfl rfl rfl (uAV rfl (fun hh=>hh) rfl rfl) ?_;refine uAg rfl rfl rfl rfl (uAP rfl (fun hh=>hh) rfl rfl rfl) ?_;refine uAg rfl rfl rfl rfl (uAh rfl gU rfl rfl) ?_;refine uAS rfl rfl rfl rfl rfl rfl rfl (fun hh=>hh) rfl rfl rfl rfl ?_;refine uAg rfl rfl rfl rfl (uAW rfl rfl (fun hh=>hh) (fun hh=>hh) rfl) ?_;refine uAg rfl rfl rfl rfl (uAX rfl rfl gU (fun _ hi=>gP rfl hi)) ?_;refine uBf (by kernel_rfl) ?_;refine uAm (s:=⟨[(1,_,_),(5,_,_),(7,_,_),(8,_,_),(30,_,_),(31,_,_),(32,_,_),(60,_,_)],[(.l 1,_),(.l 28,_),(.l 7,_)],[(.t 5,_)],[]⟩) (uAj (⟨sx rfl,sx rfl,sx rfl,sx rfl,sx rfl,sx rfl,sx rfl,sx rfl,trivial⟩) (⟨sx rfl,sx rfl,sx rfl,trivial⟩) (⟨(ak rfl (ak rfl (ak rfl (ak rfl (ak rfl (ak rfl (ak rfl (ak rfl (ak rfl (ak rfl (ak rfl (ak rfl (ak rfl (ak rfl (rfl))))))))))))))),trivial⟩)) ?_;refine uAl rfl (fun hc3=>?_) (fun hc3=>?_)
   ·try simp only [nn,uAi,T.rows_len,Gl.rows_len,Fs.rows_len,Sp.rows_len] at hc3
    have hsm : uDT n.fresh k:=⟨by omega,hc3.2⟩
    obtain ⟨L,x,e1,e2,l,e3,e4⟩:=uNu hsm
    have hxl : x.length≤500:=by
     have := uJn hok.fresh (k := k) hokk hok.f2 _ e3
     rw [← e4,List.length_append] at this; omega
    have e5 : (n.lk k).length=L.length + 1:=by rw [e1]; simp
    have e6 : (n.lk (k + 1)).length=L.length + 1:=by rw [e2]; simp
    rw [e5]
    rw [e1]
    refine uAe (uAb ?_);refine uAa rfl rfl rfl (uAc rfl gU) ?_;refine uAa rfl rfl rfl (uAc rfl gU) ?_;refine uAa rfl rfl rfl (uKo rfl gU rfl rfl) ?_;refine uAa rfl rfl rfl (uAq rfl rfl gU gU rfl (IntWalk.i64_in _ (by omega))) ?_;refine uAa rfl rfl rfl (uIu (j:=L.length) rfl rfl gU gU rfl rfl (by first | rfl | first | omega | (simp at hh ⊢; omega)) (fun hh=>by first | omega | (simp at hh ⊢; omega))) ?_;refine uAa rfl rfl rfl (uAd rfl gU) ?_;refine uAf ?_;refine uAm (s:=⟨[(1,_,_),(5,_,_),(8,_,_),(9,_,_),(30,_,_),(31,_,_),(32,_,_)],[(.l 1,_),(.l 28,_)],[(.t 5,_)],[]⟩) (uAj (⟨sx rfl,sx rfl,sx rfl,sx rfl,sx rfl,sx rfl,sx rfl,trivial⟩) (⟨sx rfl,sx rfl,trivial⟩) (⟨rfl,trivial⟩)) ?_;refine uAe (uAb ?_);refine uAa rfl rfl rfl (uAc rfl gU) ?_;refine uAa rfl rfl rfl (uAc rfl gU) ?_;refine uAa rfl rfl rfl (uAv rfl gU) ?_;refine uAa rfl rfl rfl (uAn rfl gU rfl rfl rfl (uLA L _ rfl)) ?_;refine uAA rfl rfl rfl rfl rfl rfl gU gU (uIf x 59 (by omega)) rfl ?_;refine uAa rfl rfl rfl (uAB rfl rfl gU gU (by first | omega | (simp only [List.length_append,List.length_cons,List.length_nil]; omega))) ?_;refine uAa rfl rfl rfl (uAc rfl gU) ?_;refine uAa rfl rfl rfl (uAB rfl rfl gU gU (by first | omega | (simp only [List.length_append,List.length_cons,List.length_nil]; omega))) ?_
    refine uAa rfl rfl rfl (uAB rfl rfl gU gU (by first | omega | (simp only [List.length_append,List.length_cons,List.length_nil]; omega))) ?_;refine uAa rfl rfl rfl (uAv rfl gU) ?_;refine uAt rfl (uAx rfl rfl rfl rfl rfl rfl (uN2 (by rw [uEY]; simp))) ?_;refine uAf ?_;refine uAL ?_
    repeat (first | refine uAF ?_ | refine uAG ?_ | refine uAC rfl ?_)
    refine uAb ?_;refine uAa rfl rfl rfl (uAq rfl rfl gU gU rfl (IntWalk.i64_in _ (by omega))) ?_;refine uAa rfl rfl rfl (uAc rfl gU) ?_;refine uAf ?_;refine ⟨k + 1,?_,?_,uAj (⟨⟨_,rfl,?_⟩,⟨⟨_,rfl,?_⟩,⟨sx rfl,sx rfl,sx rfl,trivial⟩⟩⟩) (⟨⟨_,rfl,?_⟩,⟨sx rfl,trivial⟩⟩) (⟨rfl,trivial⟩)⟩
    all_goals first
     | rfl
     | omega
     | exact tx (by rw [e6])
     | (rw [uIH L _ _ rfl,e2]; done)
     | (rw [uIH L _ _ rfl,e2]; rfl)
   ·try simp only [nn,uAi,T.rows_len,Gl.rows_len,Fs.rows_len,Sp.rows_len] at hc3
    have hsm : ¬uDT n.fresh k:=by
     rintro ⟨q1,q2⟩
     rcases hc3 with q | q
     ·omega
     ·exact q q2
    have e1:=uNZ hsm
    have e2 : (n.lk (k + 1)).length=(n.lk k).length + 1:=by rw [e1]; simp
    refine uAp ?_;refine uAb ?_;refine uAt rfl (uAI (.inl rfl) rfl rfl rfl) ?_;refine uAa rfl rfl rfl (uAh rfl gU rfl rfl) ?_;refine uAa rfl rfl rfl (uAn rfl gU rfl rfl rfl rfl) ?_;refine uAa rfl rfl rfl (uAB rfl rfl gU gU (by first | omega | (simp only [List.length_append,List.length_cons,List.length_nil]; omega))) ?_;refine uAa rfl rfl rfl (uAB rfl rfl gU gU (by first | omega | (simp only [List.length_append,List.length_cons,List.length_nil]; omega))) ?_;refine uAa rfl rfl rfl (uAc rfl gU) ?_;refine uAa rfl rfl rfl (uAB rfl rfl gU gU (by first | omega | (simp only [List.length_append,List.length_cons,List.length_nil]; omega))) ?_;refine uAa rfl rfl rfl (uAB rfl rfl gU gU (by first | omega | (simp only [List.length_append,List.length_cons,List.length_nil]; omega))) ?_;refine uAM (xs:=[_]) rfl rfl rfl rfl rfl rfl rfl rfl rfl gU rfl ?_;refine uJg 85 rfl rfl rfl rfl rfl rfl rfl rfl rfl rfl rfl rfl rfl (by rw [uEY,Nat.mul_one]) (by simp) (by simp; omega) (by simp; omega) ?_;refine uAt rfl (uAI (.inr rfl) rfl rfl rfl) ?_;refine uAf ?_;refine uAm (s:=⟨[(1,_,_),(5,_,_),(30,_,_),(31,_,_),(32,_,_)],[(.l 1,_),(.l 85,_)],[(.t 5,_)],[]⟩) (uAj (⟨sx rfl,sx rfl,sx rfl,sx rfl,sx rfl,trivial⟩) (⟨sx rfl,sx rfl,trivial⟩) (⟨rfl,trivial⟩)) ?_;refine uAb ?_;refine uBB (s:=⟨[(1,_,_),(5,_,_),(30,_,_),(31,_,_),(32,_,_)],[(.l 1,_),(.l 85,_)],[(.t 5,_)],[]⟩) (uAj (⟨sx rfl,sx rfl,sx rfl,sx rfl,sx rfl,trivial⟩) (⟨sx rfl,sx rfl,trivial⟩) (⟨rfl,trivial⟩)) ?_
    refine uLX 5 85 28 rfl rfl rfl rfl ?_;refine uBB (s:=⟨[(1,_,_),(5,_,_),(30,_,_),(31,_,_),(32,_,_)],[(.l 1,_),(.l 28,_)],[(.t 5,_)],[]⟩) (uAj (⟨sx rfl,sx rfl,sx rfl,sx rfl,sx rfl,trivial⟩) (⟨sx rfl,sx rfl,trivial⟩) (⟨rfl,trivial⟩)) ?_;refine uAa rfl rfl rfl (uAq rfl rfl gU gU rfl (IntWalk.i64_in _ (by omega))) ?_;refine uAa rfl rfl rfl (uAc rfl gU) ?_;refine uAf ?_;refine ⟨k + 1,?_,?_,uAj (⟨⟨_,rfl,?_⟩,⟨⟨_,rfl,?_⟩,⟨sx rfl,sx rfl,sx rfl,trivial⟩⟩⟩) (⟨⟨_,rfl,?_⟩,⟨sx rfl,trivial⟩⟩) (⟨rfl,trivial⟩)⟩
    all_goals first
     | rfl
     | omega
     | exact tx (by rw [e2]; rfl)
     | (rw [e1,uGJ]; rfl)
  ·try simp only [nn,uAi,T.rows_len,Gl.rows_len,Fs.rows_len,Sp.rows_len] at hc2
   have hke : k=n.fresh.length:=by omega
   subst hke
   refine uAL ?_
   repeat (first | refine uAF ?_ | refine uAG ?_ | refine uAC rfl ?_)
   refine uAe ?_;refine uAe (uAb ?_);refine uK8 5 28 (strR (n.lk n.fresh.length)) rfl (by rw [uHR]; rfl) (uAi _) (by omega) (uMm _) rfl ?_;refine uAa rfl rfl rfl (uAh rfl gU rfl rfl) ?_;refine uAa rfl rfl rfl (uAn rfl gU rfl rfl rfl rfl) ?_;refine uAR rfl rfl rfl rfl rfl gU rfl rfl ?_ (fun hh=>by simp at hh); intro hlen;refine uAa rfl rfl rfl (uAk rfl rfl gU gU rfl) ?_;refine uAf ?_;refine uAm (s:=⟨[(1,_,_),(5,_,_),(90,_,_)],[(.l 1,_)],[(.t 5,_)],[]⟩) (uAj (⟨sx rfl,sx rfl,sx rfl,trivial⟩) (⟨sx rfl,trivial⟩) (⟨rfl,trivial⟩)) ?_;refine uAl rfl (fun hc4=>?_) (fun hc4=>?_)
   ·try simp only [nn,uAi,T.rows_len,Gl.rows_len,Fs.rows_len,Sp.rows_len] at hc4
    have htg : n.tags≠[]:=by intro q; rw [q] at hc4; simp at hc4
    have e0 : n.rest 0 0=n.lk n.fresh.length++[(Itm.tags n.tags).text]:=by simp [Nar.rest,htg]
    refine uAb ?_;refine uAt rfl (uAI (.inl rfl) rfl rfl rfl) ?_;refine uAa rfl rfl rfl (uAh rfl gU rfl rfl) ?_;refine uAa rfl rfl rfl (uAn rfl gU rfl rfl rfl rfl) ?_;refine uAA rfl rfl rfl rfl rfl rfl gU gU (uDr n.tags [44,32] (by omega) (by decide) (by omega)) rfl ?_;refine uAa rfl rfl rfl (uAB rfl rfl gU gU (by first | omega | (simp only [List.length_append,List.length_cons,List.length_nil]; omega))) ?_;refine uAa rfl rfl rfl (uAB rfl rfl gU gU (by first | omega | (simp only [List.length_append,List.length_cons,List.length_nil]; omega))) ?_;refine uAM (xs:=[_]) rfl rfl rfl rfl rfl rfl rfl rfl rfl gU rfl ?_;refine uAt rfl (uA2 rfl rfl rfl rfl rfl rfl rfl (by first | omega | (simp only [List.length_append,List.length_singleton,uAi]; omega)) (by first | omega | (simp only [List.length_append,List.length_singleton,uAi]; omega))) ?_;refine uAt rfl (uAI (.inr rfl) rfl rfl rfl) ?_;refine uAf ?_;refine uAm (s:=⟨[(1,_,_),(5,_,_)],[(.l 1,_)],[(.t 5,_)],[]⟩) (uAj (⟨sx rfl,sx rfl,trivial⟩) (⟨sx rfl,trivial⟩) (⟨rfl,trivial⟩)) ?_;refine uAe ?_;refine uAe (uAb ?_);refine uAa rfl rfl rfl (uAh rfl gU rfl rfl) ?_;refine uAa rfl rfl rfl (uAn rfl gU rfl rfl rfl rfl) ?_;refine uAR rfl rfl rfl rfl rfl gU rfl rfl ?_ (fun hh=>by simp at hh); intro hlen;refine uAa rfl rfl rfl (uAc rfl gU) ?_
    refine uAf ?_;refine uAs ?_;refine uAZ (ι:=Nat) { t:=[(1,_,_),(100,_,_),(101,_,_)],bx:=[(.l 1,_)],ow:=[(.t 5,_)] } (fun j=>[(102,true,xi (j : Int)),(5,true,xss (n.rest j 0))]) (fun j=>[]) (fun j=>j≤n.steps.length) (fun j=>n.steps.length - j) (0) (by simp) (uAj (⟨sx rfl,⟨⟨_,rfl,by rw [e0]; exact tx ((uCe _ _).trans (by simp [Itm.text,hTag]))⟩,⟨sx rfl,sx rfl,sx rfl,trivial⟩⟩⟩) (⟨sx rfl,trivial⟩) (⟨rfl,trivial⟩)) ?_
    intro j hokj
    dsimp only [List.cons_append,List.nil_append]
    have hm1:=uE0 hok j 0
    refine uAe (uAb ?_);refine uAa rfl rfl rfl (uAk rfl rfl gU gU rfl) ?_;refine uAf ?_;refine uAe ?_;refine uAl rfl (fun hc5=>?_) (fun hc5=>?_)
    ·try simp only [nn,uAi,T.rows_len,Gl.rows_len,Fs.rows_len,Sp.rows_len] at hc5
     have hlt : j < n.steps.length:=by omega
     obtain ⟨s1,s2,s3⟩:=hok.steps _ (uCB (d:=default) hlt)
     have s4:=uCm s1
     have s5:=uCm s2
     have s6:=s3.len
     refine uAp ?_;refine uAe ?_;refine uAs ?_;refine uAe (uAb ?_);refine uAa rfl rfl rfl (uAu rfl rfl gU gU rfl rfl rfl (fun hh=>Sp.rows_at (by first | omega | (simp at hh ⊢; omega)))) ?_;refine uAa rfl rfl rfl (uAK rfl gU rfl rfl rfl rfl) ?_;refine uAt rfl (uAN rfl rfl rfl) ?_;refine uAt rfl (uAx rfl rfl rfl rfl rfl rfl rfl) ?_;refine uAf ?_;refine awp_drawn' (by kernel_rfl) ?_;refine uFc rfl (.inl rfl) rfl rfl rfl rfl rfl ?_;refine uAg rfl rfl rfl rfl (uAh rfl gU rfl rfl) ?_;refine uAS rfl rfl rfl rfl rfl rfl rfl gU rfl rfl rfl rfl ?_;refine uAg rfl rfl rfl rfl (uAB rfl rfl gU gU (by first | omega | (simp only [List.length_append,List.length_cons,List.length_nil]; omega))) ?_;refine uAg rfl rfl rfl rfl (uAB rfl rfl gU gU (by first | omega | (simp only [List.length_append,List.length_cons,List.length_nil]; omega))) ?_;refine uAg rfl rfl rfl rfl (uAh rfl gU rfl rfl) ?_;refine uAS rfl rfl rfl rfl rfl rfl rfl gU rfl rfl rfl rfl ?_;refine uAg rfl rfl rfl rfl (uAB rfl rfl gU gU (by first | omega | (simp only [List.length_append,List.length_cons,List.length_nil]; omega))) ?_;refine uAg rfl rfl rfl rfl (uAB rfl rfl gU gU (by first | omega | (simp only [List.length_append,List.length_cons,List.length_nil]; omega))) ?_;refine uAg rfl rfl rfl rfl (uAh rfl gU rfl rfl) ?_;refine uB1 rfl rfl rfl rfl rfl rfl rfl gU rfl rfl rfl rfl rfl ?_
     refine uBd rfl rfl rfl rfl rfl rfl rfl gU gU (uDw (n.steps.getD j default).msg (by have := s3.size; omega) s3.ok) rfl ?_;refine uAg rfl rfl rfl rfl (uAB rfl rfl gU gU (by first | omega | (simp only [List.length_append,List.length_cons,List.length_nil]; omega))) ?_;refine uAg rfl rfl rfl rfl (uAB rfl rfl gU gU (by first | omega | (simp only [List.length_append,List.length_cons,List.length_nil]; omega))) ?_;refine uCr (xs := [_]) rfl rfl rfl rfl rfl rfl rfl rfl rfl rfl gU rfl ?_;refine uB6 rfl rfl rfl rfl rfl (rko (ak2 rfl (ak rfl (ak rfl (ak rfl (ak rfl (ak rfl (ak rfl (ak rfl (ak rfl (ak rfl (ak rfl (ak rfl (ak rfl (ak rfl (rfl)))))))))))))))) rfl rfl rfl rfl rfl (by first | omega | (simp only [List.length_append,List.length_singleton,uAi]; omega)) (by first | omega | (simp only [List.length_append,List.length_singleton,uAi]; omega)) ?_;refine uFc rfl (.inr rfl) rfl rfl rfl rfl rfl ?_;refine uBf (by kernel_rfl) ?_;refine uAm (s := ⟨[(1,_,_),(5,_,_),(100,_,_),(101,_,_),(102,_,_)],[(.l 1,_)],[(.t 5,_)],[]⟩) (uAj (⟨sx rfl,sx rfl,sx rfl,sx rfl,sx rfl,trivial⟩) (⟨sx rfl,trivial⟩) (⟨rfl,trivial⟩)) ?_;refine uAb ?_;refine uAa rfl rfl rfl (uAq rfl rfl gU gU rfl (IntWalk.i64_in _ (by omega))) ?_;refine uAa rfl rfl rfl (uAc rfl gU) ?_;refine uAf ?_;refine ⟨j + 1,?_,?_,uAj (⟨⟨_,rfl,?_⟩,⟨⟨_,rfl,?_⟩,⟨sx rfl,sx rfl,sx rfl,trivial⟩⟩⟩) (⟨sx rfl,trivial⟩) (⟨rfl,trivial⟩)⟩
     all_goals first
      | rfl
      | omega
      | exact tx ((uCe _ _).trans (by rw [uH1 n hlt]; simp [Itm.text,hMsg,arrow]))
    ·try simp only [nn,uAi,T.rows_len,Gl.rows_len,Fs.rows_len,Sp.rows_len] at hc5
     have hje : j=n.steps.length:=by omega
     subst hje
     refine uAL ?_
     repeat (first | refine uAF ?_ | refine uAG ?_ | refine uAC rfl ?_)
     refine uAe ?_;refine uAe (uAb ?_);refine uAa rfl rfl rfl (uAh rfl gU rfl rfl) ?_;refine uAa rfl rfl rfl (uAn rfl gU rfl rfl rfl rfl) ?_;refine uAR rfl rfl rfl rfl rfl gU rfl rfl ?_ (fun hh=>by simp at hh); intro hlen;refine uAa rfl rfl rfl (uAc rfl gU) ?_;refine uAf ?_;refine uAm (s:=⟨[(5,_,_),(124,_,_),(125,_,_),(126,_,_)],[],[(.t 5,_)],[]⟩) (uAj (⟨sx rfl,sx rfl,sx rfl,sx rfl,trivial⟩) trivial (⟨rfl,trivial⟩)) ?_;refine uAs ?_;refine uAZ (ι:=Nat) { t:=[(124,_,_),(125,_,_)],bx:=[],ow:=[(.t 5,_)] } (fun k=>[(126,true,xi (k : Int)),(5,true,xss (n.rest n.steps.length k))]) (fun k=>[]) (fun k=>k≤n.goals.length) (fun k=>n.goals.length - k) (0) (by simp) (uAj (⟨sx rfl,sx rfl,sx rfl,sx rfl,trivial⟩) trivial (⟨rfl,trivial⟩)) ?_
     intro k hokk2
     dsimp only [List.cons_append,List.nil_append]
     have hm2:=uE0 hok n.steps.length k
     refine uAe (uAb ?_);refine uAa rfl rfl rfl (uAk rfl rfl gU gU rfl) ?_;refine uAf ?_;refine uAe ?_;refine uAl rfl (fun hc6=>?_) (fun hc6=>?_)
     ·try simp only [nn,uAi,T.rows_len,Gl.rows_len,Fs.rows_len,Sp.rows_len] at hc6
      have hlt : k < n.goals.length:=by omega
      have hgk:=hok.goals _ (uCB (d:=default) hlt)
      have g1:=uFy hgk
      have g2:=uGP (n.goals.getD k default)
      have g3 : (uG6 (n.goals.getD k default)).length≤4600:=by
       rw [g2] at g1; simp only [List.length_append] at g1; omega
      refine uAp ?_;refine uAe ?_;refine uAs ?_;refine uAe (uAb ?_);refine uAa rfl rfl rfl (uAu rfl rfl gU gU rfl rfl rfl (fun hh=>Gl.rows_at (by first | omega | (simp at hh ⊢; omega)))) ?_;refine uAa rfl rfl rfl (uAK rfl gU rfl rfl rfl rfl) ?_;refine uAt rfl (uAN rfl rfl rfl) ?_;refine uAt rfl (uAx rfl rfl rfl rfl rfl rfl rfl) ?_;refine uAf ?_;refine uAb ?_;refine uAt rfl (uAI (.inl rfl) rfl rfl rfl) ?_;refine uAa rfl rfl rfl (uAy rfl gU rfl rfl rfl rfl rfl) ?_;refine uAA rfl rfl rfl rfl rfl rfl gU gU (uEv _ hgk) rfl ?_;refine uAa rfl rfl rfl (uAB rfl rfl gU gU (by first | omega | (simp only [List.length_append,List.length_cons,List.length_nil]; omega))) ?_;refine uAa rfl rfl rfl (uAB rfl rfl gU gU (by first | omega | (simp only [List.length_append,List.length_cons,List.length_nil]; omega))) ?_;refine uAM (xs:=[_]) rfl rfl rfl rfl rfl rfl rfl rfl rfl gU rfl ?_;refine uAt rfl (uA2 rfl rfl rfl rfl rfl rfl rfl (by first | omega | (simp only [List.length_append,List.length_singleton,uAi]; omega)) (by first | omega | (simp only [List.length_append,List.length_singleton,uAi]; omega))) ?_;refine uAt rfl (uAI (.inr rfl) rfl rfl rfl) ?_;refine uAf ?_;refine uAm (s:=⟨[(5,_,_),(124,_,_),(125,_,_),(126,_,_)],[],[(.t 5,_)],[]⟩) (uAj (⟨sx rfl,sx rfl,sx rfl,sx rfl,trivial⟩) trivial (⟨rfl,trivial⟩)) ?_
      refine uAb ?_;refine uAa rfl rfl rfl (uAq rfl rfl gU gU rfl (IntWalk.i64_in _ (by omega))) ?_;refine uAa rfl rfl rfl (uAc rfl gU) ?_;refine uAf ?_;refine ⟨k + 1,?_,?_,uAj (⟨⟨_,rfl,?_⟩,⟨⟨_,rfl,?_⟩,⟨sx rfl,sx rfl,trivial⟩⟩⟩) trivial (⟨rfl,trivial⟩)⟩
      all_goals first
       | rfl
       | omega
       | exact tx ((uCe _ _).trans (by rw [uHs n hlt,g2]; simp [hGoal]))
     ·try simp only [nn,uAi,T.rows_len,Gl.rows_len,Fs.rows_len,Sp.rows_len] at hc6
      have hke : k=n.goals.length:=by omega
      subst hke
      have hj1:=uJJ n
      have hj2 : (Lib.join n.lines [10]).length≤60000:=by
       have := hok.text_len
       simp only [Nar.text,List.length_append] at this; omega
      have hj3 : X.v (.c (.sl 1 (strR (n.rest n.steps.length n.goals.length)++[[C.s [125]]])))=xss n.lines:=by rw [← hj1]; exact uCe _ _
      have hjn : Ctr sys 40 [.v (.c (.sl 1 (strR (n.rest n.steps.length n.goals.length)++[[C.s [125]]]))),xs [10]] [] (xs (Lib.join n.lines [10])) none []:=by
       rw [hj3]; exact uDr n.lines [10] (by have := hok.lines_len; omega) (by decide) (by omega)
      refine uAL ?_
      repeat (first | refine uAF ?_ | refine uAG ?_ | refine uAC rfl ?_)
      refine uAe (uAb ?_);refine uAt rfl (uAI (.inl rfl) rfl rfl rfl) ?_;refine uAM (xs:=[_]) rfl rfl rfl rfl rfl rfl rfl rfl rfl gU rfl ?_;refine uAt rfl (uA2 rfl rfl rfl rfl rfl rfl rfl (by first | omega | (simp only [List.length_append,List.length_singleton,uAi]; omega)) (by first | omega | (simp only [List.length_append,List.length_singleton,uAi]; omega))) ?_;refine uAA rfl rfl rfl rfl rfl rfl gU gU (hjn) rfl ?_;refine uAa rfl rfl rfl (uAB rfl rfl gU gU (by first | omega | (simp only [List.length_append,List.length_cons,List.length_nil]; omega))) ?_;refine uAa rfl rfl rfl (uAd rfl gU) ?_;refine uAa rfl rfl rfl (uAd rfl gU) ?_;refine uAf ?_;refine uAo ?_
      repeat (first | refine tR ?_ | refine bR ?_)
      refine uAr rfl ?_ trivial
      rfl
   ·try simp only [nn,uAi,T.rows_len,Gl.rows_len,Fs.rows_len,Sp.rows_len] at hc4
    have htg : n.tags=[]:=List.length_eq_zero_iff.1 (by omega)
    have e0 : n.rest 0 0=n.lk n.fresh.length:=by simp [Nar.rest,htg]
    refine uAp ?_;refine uAe ?_;refine uAe (uAb ?_);refine uAa rfl rfl rfl (uAh rfl gU rfl rfl) ?_;refine uAa rfl rfl rfl (uAn rfl gU rfl rfl rfl rfl) ?_;refine uAR rfl rfl rfl rfl rfl gU rfl rfl ?_ (fun hh=>by simp at hh); intro hlen;refine uAa rfl rfl rfl (uAc rfl gU) ?_;refine uAf ?_;refine uAs ?_;refine uAZ (ι:=Nat) { t:=[(1,_,_),(100,_,_),(101,_,_)],bx:=[(.l 1,_)],ow:=[(.t 5,_)] } (fun j=>[(102,true,xi (j : Int)),(5,true,xss (n.rest j 0))]) (fun j=>[]) (fun j=>j≤n.steps.length) (fun j=>n.steps.length - j) (0) (by simp) (uAj (⟨sx rfl,⟨⟨_,rfl,by rw [e0]⟩,⟨sx rfl,sx rfl,sx rfl,trivial⟩⟩⟩) (⟨sx rfl,trivial⟩) (⟨rfl,trivial⟩)) ?_
    intro j hokj
    dsimp only [List.cons_append,List.nil_append]
    have hm1:=uE0 hok j 0
    refine uAe (uAb ?_);refine uAa rfl rfl rfl (uAk rfl rfl gU gU rfl) ?_;refine uAf ?_;refine uAe ?_;refine uAl rfl (fun hc5=>?_) (fun hc5=>?_)
    ·try simp only [nn,uAi,T.rows_len,Gl.rows_len,Fs.rows_len,Sp.rows_len] at hc5
     have hlt : j < n.steps.length:=by omega
     obtain ⟨s1,s2,s3⟩:=hok.steps _ (uCB (d:=default) hlt)
     have s4:=uCm s1
     have s5:=uCm s2
     have s6:=s3.len
     refine uAp ?_;refine uAe ?_;refine uAs ?_;refine uAe (uAb ?_);refine uAa rfl rfl rfl (uAu rfl rfl gU gU rfl rfl rfl (fun hh=>Sp.rows_at (by first | omega | (simp at hh ⊢; omega)))) ?_;refine uAa rfl rfl rfl (uAK rfl gU rfl rfl rfl rfl) ?_;refine uAt rfl (uAN rfl rfl rfl) ?_;refine uAt rfl (uAx rfl rfl rfl rfl rfl rfl rfl) ?_;refine uAf ?_;refine awp_drawn' (by kernel_rfl) ?_;refine uFc rfl (.inl rfl) rfl rfl rfl rfl rfl ?_;refine uAg rfl rfl rfl rfl (uAh rfl gU rfl rfl) ?_;refine uAS rfl rfl rfl rfl rfl rfl rfl gU rfl rfl rfl rfl ?_;refine uAg rfl rfl rfl rfl (uAB rfl rfl gU gU (by first | omega | (simp only [List.length_append,List.length_cons,List.length_nil]; omega))) ?_;refine uAg rfl rfl rfl rfl (uAB rfl rfl gU gU (by first | omega | (simp only [List.length_append,List.length_cons,List.length_nil]; omega))) ?_;refine uAg rfl rfl rfl rfl (uAh rfl gU rfl rfl) ?_;refine uAS rfl rfl rfl rfl rfl rfl rfl gU rfl rfl rfl rfl ?_;refine uAg rfl rfl rfl rfl (uAB rfl rfl gU gU (by first | omega | (simp only [List.length_append,List.length_cons,List.length_nil]; omega))) ?_;refine uAg rfl rfl rfl rfl (uAB rfl rfl gU gU (by first | omega | (simp only [List.length_append,List.length_cons,List.length_nil]; omega))) ?_;refine uAg rfl rfl rfl rfl (uAh rfl gU rfl rfl) ?_;refine uB1 rfl rfl rfl rfl rfl rfl rfl gU rfl rfl rfl rfl rfl ?_
     refine uBd rfl rfl rfl rfl rfl rfl rfl gU gU (uDw (n.steps.getD j default).msg (by have := s3.size; omega) s3.ok) rfl ?_;refine uAg rfl rfl rfl rfl (uAB rfl rfl gU gU (by first | omega | (simp only [List.length_append,List.length_cons,List.length_nil]; omega))) ?_;refine uAg rfl rfl rfl rfl (uAB rfl rfl gU gU (by first | omega | (simp only [List.length_append,List.length_cons,List.length_nil]; omega))) ?_;refine uCr (xs := [_]) rfl rfl rfl rfl rfl rfl rfl rfl rfl rfl gU rfl ?_;refine uB6 rfl rfl rfl rfl rfl (rko (ak2 rfl (ak rfl (ak rfl (ak rfl (ak rfl (ak rfl (ak rfl (ak rfl (ak rfl (ak rfl (ak rfl (ak rfl (ak rfl (ak rfl (rfl)))))))))))))))) rfl rfl rfl rfl rfl (by first | omega | (simp only [List.length_append,List.length_singleton,uAi]; omega)) (by first | omega | (simp only [List.length_append,List.length_singleton,uAi]; omega)) ?_;refine uFc rfl (.inr rfl) rfl rfl rfl rfl rfl ?_;refine uBf (by kernel_rfl) ?_;refine uAm (s := ⟨[(1,_,_),(5,_,_),(100,_,_),(101,_,_),(102,_,_)],[(.l 1,_)],[(.t 5,_)],[]⟩) (uAj (⟨sx rfl,sx rfl,sx rfl,sx rfl,sx rfl,trivial⟩) (⟨sx rfl,trivial⟩) (⟨rfl,trivial⟩)) ?_;refine uAb ?_;refine uAa rfl rfl rfl (uAq rfl rfl gU gU rfl (IntWalk.i64_in _ (by omega))) ?_;refine uAa rfl rfl rfl (uAc rfl gU) ?_;refine uAf ?_;refine ⟨j + 1,?_,?_,uAj (⟨⟨_,rfl,?_⟩,⟨⟨_,rfl,?_⟩,⟨sx rfl,sx rfl,sx rfl,trivial⟩⟩⟩) (⟨sx rfl,trivial⟩) (⟨rfl,trivial⟩)⟩
     all_goals first
      | rfl
      | omega
      | exact tx ((uCe _ _).trans (by rw [uH1 n hlt]; simp [Itm.text,hMsg,arrow]))
    ·try simp only [nn,uAi,T.rows_len,Gl.rows_len,Fs.rows_len,Sp.rows_len] at hc5
     have hje : j=n.steps.length:=by omega
     subst hje
     refine uAL ?_
     repeat (first | refine uAF ?_ | refine uAG ?_ | refine uAC rfl ?_)
     refine uAe ?_;refine uAe (uAb ?_);refine uAa rfl rfl rfl (uAh rfl gU rfl rfl) ?_;refine uAa rfl rfl rfl (uAn rfl gU rfl rfl rfl rfl) ?_;refine uAR rfl rfl rfl rfl rfl gU rfl rfl ?_ (fun hh=>by simp at hh); intro hlen;refine uAa rfl rfl rfl (uAc rfl gU) ?_;refine uAf ?_;refine uAm (s:=⟨[(5,_,_),(124,_,_),(125,_,_),(126,_,_)],[],[(.t 5,_)],[]⟩) (uAj (⟨sx rfl,sx rfl,sx rfl,sx rfl,trivial⟩) trivial (⟨rfl,trivial⟩)) ?_;refine uAs ?_;refine uAZ (ι:=Nat) { t:=[(124,_,_),(125,_,_)],bx:=[],ow:=[(.t 5,_)] } (fun k=>[(126,true,xi (k : Int)),(5,true,xss (n.rest n.steps.length k))]) (fun k=>[]) (fun k=>k≤n.goals.length) (fun k=>n.goals.length - k) (0) (by simp) (uAj (⟨sx rfl,sx rfl,sx rfl,sx rfl,trivial⟩) trivial (⟨rfl,trivial⟩)) ?_
     intro k hokk2
     dsimp only [List.cons_append,List.nil_append]
     have hm2:=uE0 hok n.steps.length k
     refine uAe (uAb ?_);refine uAa rfl rfl rfl (uAk rfl rfl gU gU rfl) ?_;refine uAf ?_;refine uAe ?_;refine uAl rfl (fun hc6=>?_) (fun hc6=>?_)
     ·try simp only [nn,uAi,T.rows_len,Gl.rows_len,Fs.rows_len,Sp.rows_len] at hc6
      have hlt : k < n.goals.length:=by omega
      have hgk:=hok.goals _ (uCB (d:=default) hlt)
      have g1:=uFy hgk
      have g2:=uGP (n.goals.getD k default)
      have g3 : (uG6 (n.goals.getD k default)).length≤4600:=by
       rw [g2] at g1; simp only [List.length_append] at g1; omega
      refine uAp ?_;refine uAe ?_;refine uAs ?_;refine uAe (uAb ?_);refine uAa rfl rfl rfl (uAu rfl rfl gU gU rfl rfl rfl (fun hh=>Gl.rows_at (by first | omega | (simp at hh ⊢; omega)))) ?_;refine uAa rfl rfl rfl (uAK rfl gU rfl rfl rfl rfl) ?_;refine uAt rfl (uAN rfl rfl rfl) ?_;refine uAt rfl (uAx rfl rfl rfl rfl rfl rfl rfl) ?_;refine uAf ?_;refine uAb ?_;refine uAt rfl (uAI (.inl rfl) rfl rfl rfl) ?_;refine uAa rfl rfl rfl (uAy rfl gU rfl rfl rfl rfl rfl) ?_;refine uAA rfl rfl rfl rfl rfl rfl gU gU (uEv _ hgk) rfl ?_;refine uAa rfl rfl rfl (uAB rfl rfl gU gU (by first | omega | (simp only [List.length_append,List.length_cons,List.length_nil]; omega))) ?_;refine uAa rfl rfl rfl (uAB rfl rfl gU gU (by first | omega | (simp only [List.length_append,List.length_cons,List.length_nil]; omega))) ?_;refine uAM (xs:=[_]) rfl rfl rfl rfl rfl rfl rfl rfl rfl gU rfl ?_;refine uAt rfl (uA2 rfl rfl rfl rfl rfl rfl rfl (by first | omega | (simp only [List.length_append,List.length_singleton,uAi]; omega)) (by first | omega | (simp only [List.length_append,List.length_singleton,uAi]; omega))) ?_;refine uAt rfl (uAI (.inr rfl) rfl rfl rfl) ?_;refine uAf ?_;refine uAm (s:=⟨[(5,_,_),(124,_,_),(125,_,_),(126,_,_)],[],[(.t 5,_)],[]⟩) (uAj (⟨sx rfl,sx rfl,sx rfl,sx rfl,trivial⟩) trivial (⟨rfl,trivial⟩)) ?_
      refine uAb ?_;refine uAa rfl rfl rfl (uAq rfl rfl gU gU rfl (IntWalk.i64_in _ (by omega))) ?_;refine uAa rfl rfl rfl (uAc rfl gU) ?_;refine uAf ?_;refine ⟨k + 1,?_,?_,uAj (⟨⟨_,rfl,?_⟩,⟨⟨_,rfl,?_⟩,⟨sx rfl,sx rfl,trivial⟩⟩⟩) trivial (⟨rfl,trivial⟩)⟩
      all_goals first
       | rfl
       | omega
       | exact tx ((uCe _ _).trans (by rw [uHs n hlt,g2]; simp [hGoal]))
     ·try simp only [nn,uAi,T.rows_len,Gl.rows_len,Fs.rows_len,Sp.rows_len] at hc6
      have hke : k=n.goals.length:=by omega
      subst hke
      have hj1:=uJJ n
      have hj2 : (Lib.join n.lines [10]).length≤60000:=by
       have := hok.text_len
       simp only [Nar.text,List.length_append] at this; omega
      have hj3 : X.v (.c (.sl 1 (strR (n.rest n.steps.length n.goals.length)++[[C.s [125]]])))=xss n.lines:=by rw [← hj1]; exact uCe _ _
      have hjn : Ctr sys 40 [.v (.c (.sl 1 (strR (n.rest n.steps.length n.goals.length)++[[C.s [125]]]))),xs [10]] [] (xs (Lib.join n.lines [10])) none []:=by
       rw [hj3]; exact uDr n.lines [10] (by have := hok.lines_len; omega) (by decide) (by omega)
      refine uAL ?_
      repeat (first | refine uAF ?_ | refine uAG ?_ | refine uAC rfl ?_)
      refine uAe (uAb ?_);refine uAt rfl (uAI (.inl rfl) rfl rfl rfl) ?_;refine uAM (xs:=[_]) rfl rfl rfl rfl rfl rfl rfl rfl rfl gU rfl ?_;refine uAt rfl (uA2 rfl rfl rfl rfl rfl rfl rfl (by first | omega | (simp only [List.length_append,List.length_singleton,uAi]; omega)) (by first | omega | (simp only [List.length_append,List.length_singleton,uAi]; omega))) ?_;refine uAA rfl rfl rfl rfl rfl rfl gU gU (hjn) rfl ?_;refine uAa rfl rfl rfl (uAB rfl rfl gU gU (by first | omega | (simp only [List.length_append,List.length_cons,List.length_nil]; omega))) ?_;refine uAa rfl rfl rfl (uAd rfl gU) ?_;refine uAa rfl rfl rfl (uAd rfl gU) ?_;refine uAf ?_;refine uAo ?_
      repeat (first | refine tR ?_ | refine bR ?_)
      refine uAr rfl ?_ trivial
      rfl
end Go.Proofs.YtnjjdbapadkomaaGreatDoor
namespace Go.Proofs.YtnjjdbapadkomaaGreatDoor
open Go Go.Abs
end Go.Proofs.YtnjjdbapadkomaaGreatDoor
namespace Go.Proofs.YtnjjdbapadkomaaGreatDoor
open Go Go.Abs
end Go.Proofs.YtnjjdbapadkomaaGreatDoor
namespace Go.Proofs.YtnjjdbapadkomaaGreatDoor
open Go Go.Abs
end Go.Proofs.YtnjjdbapadkomaaGreatDoor
namespace Go.Proofs.YtnjjdbapadkomaaGreatDoor
open Go Go.Abs
theorem uLP (s : List UInt8) (k : Int) : Ctr sys 38 [xs s,xi k] [] (xm ⟨2,s,k,[]⟩) none []:=by
 refine uAz Tryz.func38 rfl rfl rfl rfl rfl rfl ?_;refine uAe (uAb ?_);refine uAt rfl (uAN rfl rfl rfl) ?_;refine uAf ?_;refine uAe (uAb ?_);refine uAa rfl rfl rfl (uAc rfl gU) ?_;refine uAa rfl rfl rfl (uAc rfl gU) ?_;refine uAa rfl rfl rfl (uAU rfl Tryz.underlying39 rfl gU) ?_;refine uAt rfl (uAx rfl rfl rfl rfl rfl rfl rfl) ?_;refine uAf ?_;refine uAo ?_
 repeat (first | refine tR ?_ | refine bR ?_)
 refine uAr rfl ?_ trivial
 rfl
theorem uMT (s : List UInt8) (ks : List T) (hk : ks.length≤3000000) : Ctr sys 39 [xs s,xl ks] [] (xm ⟨3,s,0,ks⟩) none []:=by
 have hrl:=T.rows_len ks
 refine uAz Tryz.func39 rfl rfl rfl rfl rfl rfl ?_;refine uAe (uAb ?_);refine uAt rfl (uAN rfl rfl rfl) ?_;refine uAf ?_;refine uAe (uAb ?_);refine uAa rfl rfl rfl (uAc rfl gU) ?_;refine uAM (xs:=[]) rfl rfl rfl rfl rfl rfl rfl rfl rfl gU rfl ?_;refine uAa rfl rfl rfl (uAc rfl gU) ?_;refine uAt rfl (uA2 rfl rfl rfl rfl rfl rfl rfl (by first | omega | (simp only [List.length_nil]; omega)) (by first | omega | (simp only [List.length_nil]; omega))) ?_;refine uAa rfl rfl rfl (uAU rfl Tryz.underlying39 rfl gU) ?_;refine uAt rfl (uAx rfl rfl rfl rfl rfl rfl rfl) ?_;refine uAf ?_;refine uAo ?_
 repeat (first | refine tR ?_ | refine bR ?_)
 refine uAr rfl ?_ trivial
 rfl
theorem uFi (s : List UInt8) (rs : List (List C)) (ks : List T) (h : rs=T.rows ks) (hk : ks.length≤3000000) : Ctr sys 39 [xs s, .v (.c (.sl 4 rs))] [] (xm ⟨3,s,0,ks⟩) none []:=by
 subst h; exact uMT s ks hk
end Go.Proofs.YtnjjdbapadkomaaGreatDoor
namespace Go.Proofs.YtnjjdbapadkomaaGreatDoor
open Go Go.Abs
theorem uEk (s : List UInt8) : Ctr sys 37 [xs s] [] (xm ⟨2,s,0,[]⟩) none []:=by
 refine uAz Tryz.func37 rfl rfl rfl rfl rfl rfl ?_;refine uAe (uAb ?_);refine uAt rfl (uAN rfl rfl rfl) ?_;refine uAf ?_;refine uAe (uAb ?_);refine uAa rfl rfl rfl (uAc rfl gU) ?_;refine uAA rfl rfl rfl rfl rfl rfl gU gU (uLP _ _) rfl ?_;refine uAt rfl (uAx rfl rfl rfl rfl rfl rfl rfl) ?_;refine uAf ?_;refine uAo ?_
 repeat (first | refine tR ?_ | refine bR ?_)
 refine uAr rfl ?_ trivial
 rfl
def exS : List UInt8:=[112,114,111,116,111,99,111,108,32,80,32,123,32,114,111,108,101,32,65,44,32,66,59,32,102,114,101,115,104,32,65,58,32,110,97,32,110,111,110,99,101,59,32,109,101,115,115,97,103,101,32,65,32,45,62,32,66,58,32,101,110,99,40,60,110,97,44,32,65,62,44,32,115,104,107,40,65,44,32,66,41,41,59,32,103,111,97,108,32,115,101,99,114,101,116,32,66,58,32,110,97,59,32,125]
def exM : T:=⟨3,[101,110,99],0,[⟨3,wPair,0,[⟨2,[110,97],0,[]⟩,⟨2,[65],0,[]⟩]⟩,⟨3,[115,104,107],0,[⟨2,[65],0,[]⟩,⟨2,[66],0,[]⟩]⟩]⟩
def exN : Nar:=⟨[80],[[65],[66]],[⟨[65],[110,97],2⟩],[],[⟨[65],[66],exM,1⟩],[⟨1,[66],[],[⟨2,[110,97],0,[]⟩],1⟩]⟩
def exV : List UInt8:=[60,97,44,32,60,98,44,32,99,62,62]
def exT : T:=⟨3,wPair,0,[⟨2,[97],0,[]⟩,⟨3,wPair,0,[⟨2,[98],0,[]⟩,⟨2,[99],0,[]⟩]⟩]⟩
set_option maxRecDepth 100000 in
theorem ex1 : uB3 exS=(exN,0,0):=by kernel_rfl
set_option maxRecDepth 100000 in
theorem ex2 : narE uAO exN=0:=by decide +kernel
set_option maxRecDepth 100000 in
theorem ex3 : (lnsP exN.text).length=6∧exN.text.length≤1000:=by decide +kernel
set_option maxRecDepth 100000 in
theorem ex4 : uHx exV=(exT,0,0):=by kernel_rfl
set_option maxRecDepth 100000 in
theorem ex5 : ftE exT=([60,97,44,32,98,44,32,99,62],0):=by decide +kernel
theorem uGt : Ctr sys 10 [] [] (xb true) none []:=by
 have h1:=uEw exS (by decide)
 rw [ex1] at h1
 have h2:=uJr exN (by decide) (by decide)
 rw [uE6,if_neg (by rw [ex2]; simp)] at h2
 have h3:=uL3 exV (by decide)
 rw [ex4] at h3
 have h4:=uFZ exT (by decide)
 rw [ex5] at h4
 obtain ⟨x1,x2⟩:=ex3
 have h5:=uIZ exN.text (by omega)
 have l5:=uAi (lnsP exN.text)
 have h6 : Ctr sys 20 [xm exM,xm exM] [] (xb true) none []:=by
  have := uFl exM exM (by decide) (by decide)
  rwa [T.cmp_self] at this
 refine uAz Tryz.func10 rfl rfl rfl rfl rfl rfl ?_;refine uAe (uAb ?_);refine uAa rfl rfl rfl (uAd rfl gU) ?_;refine uAf ?_;refine uAe (uAb ?_);refine uAA rfl rfl rfl rfl rfl rfl gU gU (h1) rfl ?_;refine uAa rfl rfl rfl (uAc rfl gU) ?_;refine uAa rfl rfl rfl (uAE rfl gU rfl) ?_;refine uAa rfl rfl rfl (uAE rfl gU rfl) ?_;refine uAa rfl rfl rfl (uAE rfl gU rfl) ?_;refine uAt rfl (uAN rfl rfl rfl) ?_;refine uAt rfl (uAx rfl rfl rfl rfl rfl rfl rfl) ?_;refine uAa rfl rfl rfl (uAd rfl gU) ?_;refine uAa rfl rfl rfl (uAd rfl gU) ?_;refine uAf ?_;refine uAm (s:=⟨[(1,_,_),(3,_,_)],[(.l 1,_)],[],[]⟩) (uAj (⟨sx rfl,sx rfl,trivial⟩) (⟨sx rfl,trivial⟩) trivial) ?_;refine uAe (uAb ?_);refine uAa rfl rfl rfl (uAy rfl gU rfl rfl rfl rfl rfl) ?_;refine uAA rfl rfl rfl rfl rfl rfl gU gU (h2) rfl ?_;refine uAa rfl rfl rfl (uAc rfl gU) ?_;refine uAa rfl rfl rfl (uAE rfl gU rfl) ?_;refine uAa rfl rfl rfl (uAE rfl gU rfl) ?_;refine uAa rfl rfl rfl (uAd rfl gU) ?_;refine uAa rfl rfl rfl (uAd rfl gU) ?_;refine uAf ?_;refine uAm (s:=⟨[(1,_,_),(3,_,_),(4,_,_),(5,_,_)],[(.l 1,_)],[],[]⟩) (uAj (⟨sx rfl,sx rfl,sx rfl,sx rfl,trivial⟩) (⟨sx rfl,trivial⟩) trivial) ?_;refine uAe (uAb ?_)
 refine uAA rfl rfl rfl rfl rfl rfl gU gU (h3) rfl ?_;refine uAa rfl rfl rfl (uAc rfl gU) ?_;refine uAa rfl rfl rfl (uAE rfl gU rfl) ?_;refine uAa rfl rfl rfl (uAE rfl gU rfl) ?_;refine uAa rfl rfl rfl (uAE rfl gU rfl) ?_;refine uAt rfl (uAN rfl rfl rfl) ?_;refine uAt rfl (uAx rfl rfl rfl rfl rfl rfl rfl) ?_;refine uAa rfl rfl rfl (uAd rfl gU) ?_;refine uAa rfl rfl rfl (uAd rfl gU) ?_;refine uAf ?_;refine uAm (s:=⟨[(1,_,_),(3,_,_),(4,_,_),(5,_,_),(6,_,_),(8,_,_)],[(.l 1,_),(.l 6,_)],[],[]⟩) (uAj (⟨sx rfl,sx rfl,sx rfl,sx rfl,sx rfl,sx rfl,trivial⟩) (⟨sx rfl,sx rfl,trivial⟩) trivial) ?_;refine uAe (uAb ?_);refine uAa rfl rfl rfl (uAy rfl gU rfl rfl rfl rfl rfl) ?_;refine uAA rfl rfl rfl rfl rfl rfl gU gU (h4) rfl ?_;refine uAa rfl rfl rfl (uAc rfl gU) ?_;refine uAa rfl rfl rfl (uAE rfl gU rfl) ?_;refine uAa rfl rfl rfl (uAE rfl gU rfl) ?_;refine uAa rfl rfl rfl (uAd rfl gU) ?_;refine uAa rfl rfl rfl (uAd rfl gU) ?_;refine uAf ?_;refine uAm (s:=⟨[(1,_,_),(3,_,_),(4,_,_),(5,_,_),(8,_,_),(9,_,_),(10,_,_)],[(.l 1,_)],[],[]⟩) (uAj (⟨sx rfl,sx rfl,sx rfl,sx rfl,sx rfl,sx rfl,sx rfl,trivial⟩) (⟨sx rfl,trivial⟩) trivial) ?_;refine uAe ?_;refine uAe (uAb ?_)
 refine uAa rfl rfl rfl (uAc rfl gU) ?_;refine uAa rfl rfl rfl (uAk rfl rfl gU gU rfl) ?_;refine uAa rfl rfl rfl (uAc rfl gU) ?_;refine uAa rfl rfl rfl (uAc rfl gU) ?_;refine uAa rfl rfl rfl (uAk rfl rfl (fun hh=>hh) gU rfl) ?_;refine uAa rfl rfl rfl (uAJ rfl rfl gU (fun _ hi=>gP rfl hi)) ?_;refine uAa rfl rfl rfl (uAc rfl gU) ?_;refine uAa rfl rfl rfl (uAc rfl gU) ?_;refine uAa rfl rfl rfl (uAk rfl rfl (fun hh=>hh) gU rfl) ?_;refine uAa rfl rfl rfl (uAJ rfl rfl gU (fun _ hi=>gP rfl hi)) ?_;refine uAa rfl rfl rfl (uAc rfl gU) ?_;refine uAa rfl rfl rfl (uAc rfl gU) ?_;refine uBB (s:=⟨[(1,_,_),(4,_,_),(9,_,_),(42,_,_),(43,_,_)],[(.l 1,_)],[],[]⟩) (uAj (⟨sx rfl,sx rfl,sx rfl,sx rfl,sx rfl,trivial⟩) (⟨sx rfl,trivial⟩) trivial) ?_;refine uAa rfl rfl rfl (uAk rfl rfl (fun hh=>hh) gU rfl) ?_;refine uAa rfl rfl rfl (uAJ rfl rfl gU (fun _ hi=>gP rfl hi)) ?_;refine uAa rfl rfl rfl (uAc rfl gU) ?_;refine uAa rfl rfl rfl (uAc rfl gU) ?_;refine uAa rfl rfl rfl (uAW rfl rfl (fun hh=>hh) gU rfl) ?_;refine uAa rfl rfl rfl (uAJ rfl rfl gU (fun _ hi=>gP rfl hi)) ?_;refine uAa rfl rfl rfl (uAc rfl gU) ?_;refine uAa rfl rfl rfl (uAh rfl gU rfl rfl) ?_;refine uAa rfl rfl rfl (uAn rfl (fun hh=>hh) rfl rfl rfl rfl) ?_;refine uAa rfl rfl rfl (uA9 rfl (fun hh=>hh) rfl rfl) ?_
 refine uAa rfl rfl rfl (uAk rfl rfl (fun hh=>hh) gU rfl) ?_;refine uAa rfl rfl rfl (uAJ rfl rfl gU (fun _ hi=>gP rfl hi)) ?_;refine uBB (s:=⟨[(1,_,_),(4,_,_),(55,_,_)],[(.l 1,_)],[],[]⟩) (uAj (⟨sx rfl,sx rfl,sx rfl,trivial⟩) (⟨sx rfl,trivial⟩) trivial) ?_;refine uAa rfl rfl rfl (uAc rfl gU) ?_;refine uAa rfl rfl rfl (uAc rfl gU) ?_;refine uAA rfl rfl rfl rfl rfl rfl gU (fun hh=>gA ((fun hh=>hh) hh) (rfl)) (h5) rfl ?_;refine uAa rfl rfl rfl (uA9 rfl (fun hh=>hh) rfl rfl) ?_;refine uAa rfl rfl rfl (uAk rfl rfl (fun hh=>hh) gU rfl) ?_;refine uAa rfl rfl rfl (uAJ rfl rfl gU (fun _ hi=>gP rfl hi)) ?_;refine uAf ?_;refine uAm (s:=⟨[(1,_,_),(61,_,_)],[(.l 1,_)],[],[]⟩) (uAj (⟨sx rfl,sx rfl,trivial⟩) (⟨sx rfl,trivial⟩) trivial) ?_;refine uAl rfl (fun hc=>?_) (fun hc=>?_)
 ·exfalso
  rw [l5,x1] at hc
  simp [exN,Sp.rows] at hc
 ·refine uAp ?_
  refine uAe (uAb ?_);refine uAa rfl rfl rfl (uAd rfl gU) ?_;refine uAf ?_;refine uAe ?_;refine awp_drawn' (by kernel_rfl) ?_;refine uAg rfl rfl rfl rfl (uAh rfl gU rfl rfl) ?_;refine uAS rfl rfl rfl rfl rfl rfl rfl gU rfl rfl rfl rfl ?_;refine uAg rfl rfl rfl rfl (uAu (j:=0) rfl rfl gU gU rfl rfl (by first | omega | (simp at hh ⊢; omega) | decide) (fun hh=>Sp.rows_at (by first | omega | (simp at hh ⊢; omega) | decide))) ?_;refine uAg rfl rfl rfl rfl (uAV rfl gU rfl rfl) ?_;refine uAg rfl rfl rfl rfl (uAK rfl gU rfl rfl rfl rfl) ?_;refine uAg rfl rfl rfl rfl (uAc rfl gU) ?_;refine uBd rfl rfl rfl rfl rfl rfl rfl gU gU (uEk [110,97]) rfl ?_;refine uAg rfl rfl rfl rfl (uAc rfl gU) ?_;refine uBd rfl rfl rfl rfl rfl rfl rfl gU gU (uEk [65]) rfl ?_;refine uCr (xs:=[_,_]) rfl rfl rfl rfl rfl rfl rfl rfl rfl rfl gU rfl ?_;refine uBd rfl rfl rfl rfl rfl rfl rfl gU gU (uFi _ _ [⟨2,[110,97],0,[]⟩,⟨2,[65],0,[]⟩] (by simp [T.rows_eq,T.cells]) (by simp)) rfl ?_;refine uAg rfl rfl rfl rfl (uAc rfl gU) ?_;refine uBd rfl rfl rfl rfl rfl rfl rfl gU gU (uEk [65]) rfl ?_;refine uAg rfl rfl rfl rfl (uAc rfl gU) ?_;refine uBd rfl rfl rfl rfl rfl rfl rfl gU gU (uEk [66]) rfl ?_;refine uCr (xs:=[_,_]) rfl rfl rfl rfl rfl rfl rfl rfl rfl rfl gU rfl ?_;refine uBd rfl rfl rfl rfl rfl rfl rfl gU gU (uFi _ _ [⟨2,[65],0,[]⟩,⟨2,[66],0,[]⟩] (by simp [T.rows_eq,T.cells]) (by simp)) rfl ?_
  refine uCr (xs:=[_,_]) rfl rfl rfl rfl rfl rfl rfl rfl rfl rfl gU rfl ?_;refine uBd rfl rfl rfl rfl rfl rfl rfl gU gU (uFi _ _ exM.kids (by rfl) (by decide)) rfl ?_;refine uBd rfl rfl rfl rfl rfl rfl rfl gU gU (h6) rfl ?_;refine uAg rfl rfl rfl rfl (uAd rfl gU) ?_;refine uBf (by kernel_rfl) ?_;refine uAo ?_
  repeat (first | refine tR ?_ | refine bR ?_)
  refine uAr rfl ?_ trivial
  rfl
end Go.Proofs.YtnjjdbapadkomaaGreatDoor
namespace Go.Proofs.YtnjjdbapadkomaaGreatDoor
open Go Go.Abs
namespace T
end T
end Go.Proofs.YtnjjdbapadkomaaGreatDoor
namespace Go.Proofs.YtnjjdbapadkomaaGreatDoor
open Go Go.Abs
namespace T
mutual
def all : T→List T
 | mk k n s ks=>mk k n s ks :: alls ks
def alls : List T→List T
 | []=>[]
 | t :: ts=>all t++alls ts
end
end T
end Go.Proofs.YtnjjdbapadkomaaGreatDoor
namespace Go.Abs
end Go.Abs
namespace Go.Proofs.YtnjjdbapadkomaaGreatDoor
open Go Go.Abs
end Go.Proofs.YtnjjdbapadkomaaGreatDoor
namespace Go.Proofs.YtnjjdbapadkomaaGreatDoor
open Go Go.Abs
end Go.Proofs.YtnjjdbapadkomaaGreatDoor
namespace Go.Proofs.YtnjjdbapadkomaaGreatDoor
open Go Go.Abs
end Go.Proofs.YtnjjdbapadkomaaGreatDoor
namespace Go.Proofs.YtnjjdbapadkomaaGreatDoor
open Go Go.Abs
end Go.Proofs.YtnjjdbapadkomaaGreatDoor
namespace Go.Proofs.YtnjjdbapadkomaaGreatDoor
open Go Go.Abs
theorem uLs (s : List UInt8) (hs : s.length≤9223372036854775807) : Ctr sys 22 [xs s] [] (uMp (tokP s)) none []:=by rw [← uOa s]; exact uIg s hs
end Go.Proofs.YtnjjdbapadkomaaGreatDoor
namespace Go.Proofs.YtnjjdbapadkomaaGreatDoor
open Go Go.Abs
def gapS : List (List UInt8):=[[32],[10],[32,35,35,32,120,59,10],[9,32,13]]
theorem uJT {j : Nat} (h : j < 4) : (gapS.getD j []).length≤7:=by
 match j,h with
 | 0,_=>decide
 | 1,_=>decide
 | 2,_=>decide
 | 3,_=>decide
theorem uM2 {j : Nat} (h : j < 4) (r : List UInt8) (k : Nat) (out : List Tk) : ∃ d,TT (gapS.getD j []++r) k out=TT r (k + d) out:=by
 match j,h with
 | 0,_=>exact ⟨0,uDk (.inl rfl) r k out⟩
 | 1,_=>exact ⟨1,uNE rfl r k out⟩
 | 2,_ =>
  refine ⟨1,?_⟩
  show TT (32 :: (35 :: 35 :: [32,120,59]++10 :: r)) k out=_
  rw [uDk (.inl rfl),uKg (by decide) rfl]
 | 3,_ =>
  refine ⟨0,?_⟩
  show TT (9 :: 32 :: 13 :: r) k out=_
  rw [uDk (.inr (.inl rfl)),uDk (.inl rfl),uDk (.inr (.inr rfl))]; rfl
theorem uJ6 {j : Nat} (h : j < 4) (r : List UInt8) : Apart (gapS.getD j []++r):=by
 right
 match j,h with
 | 0,_=>rfl
 | 1,_=>rfl
 | 2,_=>rfl
 | 3,_=>rfl
def gapJ (g : List UInt8) (i : Nat) : Nat:=(g.getD (i % g.length) 0).toNat % 4
def uCU (l : List Tk) (g : List UInt8) : Nat→List UInt8
 | 0=>[]
 | k + 1=>uCU l g k++(uBs (l.getD k tk0)++gapS.getD (gapJ g k) [])
theorem uJA {N : Nat} {l : List Tk} (hl : ∀ t ∈ l,GoodTk N t) (g : List UInt8) : ∀ (k : Nat),k≤l.length → ∀ r,∃ d l',l'.map (·.nl false)=(l.take k).map (·.nl false)∧TT (uCU l g k++r) 1 []=TT r d l'
 | 0,_,r=>⟨1,[],rfl,rfl⟩
 | k + 1,hk,r=>by
  have hj : gapJ g k < 4:=Nat.mod_lt _ (by omega)
  obtain ⟨d,l',h1,h2⟩:=uJA hl g k (by omega) (uBs (l.getD k tk0)++(gapS.getD (gapJ g k) []++r))
  have hg : GoodTk N (l.getD k tk0):=hl _ (by
   rw [List.getD_eq_getElem?_getD,List.getElem?_eq_getElem (by omega)]; exact List.getElem_mem _)
  obtain ⟨d2,h3⟩:=uM2 hj r d (l'++[(l.getD k tk0).onl d])
  refine ⟨d + d2,l'++[(l.getD k tk0).onl d],?_,?_⟩
  ·rw [uDp (d:=tk0) (by omega),List.map_append,List.map_append,h1]; rfl
  ·have e : uCU l g (k + 1)++r=uCU l g k++(uBs (l.getD k tk0)++(gapS.getD (gapJ g k) []++r)):=by rw [uCU,List.append_assoc,List.append_assoc]
   rw [e,h2,uNm hg (uJ6 hj r),h3]
theorem uH2 (l : List Tk) (g : List UInt8) : ∀ (k : Nat),k≤l.length→(uCU l g k).length≤sumW (l.take k) + 7 * k
 | 0,_=>by simp [uCU]
 | k + 1,hk=>by
  have ih:=uH2 l g k (by omega)
  have hg:=uJT (j:=gapJ g k) (Nat.mod_lt _ (by omega))
  rw [uCU,uDp (d:=tk0) (by omega),uG0]
  simp only [List.length_append,sumW,List.map_cons,List.map_nil,List.sum_cons,List.sum_nil,wl] at ih ⊢
  omega
theorem uH5 {s : List UInt8} (g : List UInt8) (hs : s.length≤1500) {k : Nat} (hk : k≤(tokP s).1.length) : (uCU (tokP s).1 g k).length≤45000:=by
 have h1:=uH2 (tokP s).1 g k hk
 have h2:=uGs s
 have h3:=uDD s
 have h4:=uLb (tokP s).1 k
 omega
theorem uJV (s g : List UInt8) (hs : s.length≤1500) : (tokP (uCU (tokP s).1 g (tokP s).1.length)).2.2=0 ∧
  (tokP (uCU (tokP s).1 g (tokP s).1.length)).1.map (·.nl false)=(tokP s).1.map (·.nl false):=by
 have h1:=uH5 (s:=s) g hs (Nat.le_refl _)
 obtain ⟨d,l',h4,h5⟩:=uJA (uHA s) g (tokP s).1.length (Nat.le_refl _) []
 rw [List.take_length] at h4
 have h7 : tokP (uCU (tokP s).1 g (tokP s).1.length)=(l',0,0):=by
  rw [uNt (by omega)]
  rw [List.append_nil] at h5
  rw [h5,uN1]
 rw [h7]
 exact ⟨rfl,h4⟩
def Itm.fst (b : Bool) : Itm→Bool
 | .goal _=>true
 | .roles _=>b
 | _=>false
def turned (b : Bool) (L : List Itm) : List Itm:=L.filter (Itm.fst b)++L.filter (fun i=>!Itm.fst b i)
def N10 (s : List UInt8) : Prop:=∀ b ∈ s,b.toNat≠10
theorem N10.app {a b : List UInt8} (h : N10 a) (h' : N10 b) : N10 (a++b):=fun x hx=>(List.mem_append.1 hx).elim (h x) (h' x)
theorem N10.nm {w : List UInt8} (h : uAO w=true) : N10 w:=uKV h
theorem N10.join {L : List (List UInt8)} (h : ∀ x ∈ L,N10 x) : N10 (Lib.join L [44,32]):=by
 have hs : N10 [44,32]:=by unfold N10; decide
 have tail : ∀ {L : List (List UInt8)},(∀ x ∈ L,N10 x)→N10 (Lib.joinTail [44,32] L):=by
  intro L
  induction L with
  | nil=>intro _ b hb; simp [Lib.joinTail] at hb
  | cons x L ih =>
   intro h
   have e : Lib.joinTail [44,32] (x :: L)=[44,32]++(x++Lib.joinTail [44,32] L):=by simp [Lib.joinTail]
   rw [e]
   exact hs.app ((h x (by simp)).app (ih fun y hy=>h y (by simp [hy])))
 cases L with
 | nil=>intro b hb; rw [Lib.join_nil] at hb; simp at hb
 | cons x L =>
  rw [Lib.join_cons]
  exact (h x (by simp)).app (tail fun y hy=>h y (by simp [hy]))
end Go.Proofs.YtnjjdbapadkomaaGreatDoor
namespace Go.Proofs.YtnjjdbapadkomaaGreatDoor
open Go Go.Abs
theorem uJx (s : List UInt8) : (uB3 s).1.steps.length≤8∧(uB3 s).1.goals.length≤8∧(∀ x ∈ (uB3 s).1.steps,x.msg.size≤900000) ∧ ∀ g ∈ (uB3 s).1.goals,T.sizes g.data≤900000:=by
 have h0 : nar0.steps.length≤8∧nar0.goals.length≤8∧(∀ x ∈ nar0.steps,x.msg.size≤900000) ∧ ∀ g ∈ nar0.goals,T.sizes g.data≤900000:=by
  refine ⟨by decide,by decide,fun x hx=>?_,fun x hx=>?_⟩ <;> simp [nar0] at hx
 unfold uB3 uC6
 split
 ·exact h0
 split
 ·exact h0
 split
 ·exact h0
 ·rename_i h
  have hok:=uMO (n:=(uCp (tokP s).1).1) (by simpa using h)
  exact ⟨hok.s2,hok.g2,fun x hx=>by have := (hok.steps x hx).2.2.size; omega,fun g hg=>by have := (hok.goals g hg).sizes; omega⟩
end Go.Proofs.YtnjjdbapadkomaaGreatDoor
namespace Go.Proofs.YtnjjdbapadkomaaGreatDoor
open Go Go.Abs
theorem uLj {s : List UInt8} {k : Nat} (h : k < s.length) : quoB (s.take (k + 1))=quoB (s.take k)++quo1 (s.getD k 0):=by
 rw [uDp (d:=0) h,uHI]
theorem uJt (s : List UInt8) (hs : s.length≤100000) : Ctr sys 76 [xs s] [] (xs (quoE s)) none []:=by
 have hq : ∀ k,(quoB (s.take k)).length≤400000:=by
  intro k
  have := (uDO (s.take k)).2
  rw [List.length_take] at this
  omega
 refine uAz Tryz.func76 rfl rfl rfl rfl rfl rfl ?_;refine uAe (uAb ?_);refine uAa rfl rfl rfl (uAd rfl gU) ?_;refine uAf ?_;refine uAe (uAb ?_);refine uAa rfl rfl rfl (uAd rfl gU) ?_;refine uAf ?_;refine uAe ?_;refine uAe (uAb ?_);refine uAa rfl rfl rfl (uAd rfl gU) ?_;refine uAf ?_;refine uAs ?_;refine uAZ (ι:=Nat) { t:=[(0,_,_)],bx:=[],ow:=[] } (fun k=>[(4,true,xi (k : Int)),(3,true,xs ([34]++quoB (s.take k)))]) (fun k=>[]) (fun k=>k≤s.length) (fun k=>s.length - k) (0) (by simp) (uAj (⟨sx rfl,sx rfl,sx rfl,trivial⟩) trivial trivial) ?_
 intro k hok
 dsimp only [List.cons_append,List.nil_append]
 have hqk:=hq k
 have hu:=(s.getD k 0).toNat_lt
 refine uAe ?_;refine uAe (uAb ?_);refine uAa rfl rfl rfl (uAc rfl gU) ?_;refine uAa rfl rfl rfl (uAc rfl gU) ?_;refine uBk rfl rfl rfl rfl rfl gU (Tryz.underlying9) ?_ (fun hh=>by simp at hh); intro hlen;refine uAa rfl rfl rfl (uAk rfl rfl gU gU rfl) ?_;refine uAf ?_;refine uAl rfl (fun hc=>?_) (fun hc=>?_)
 ·try simp only [nn,uAi,Tk.rows_len] at hc
  have hT:=uLj (s:=s) (k:=k) (by omega)
  have e1 : (s.take (k + 1)).drop k=[s.getD k 0]:=by
   rw [uA6 (by simp; omega),List.drop_of_length_le (by simp; omega),uEg _ _ (by omega)]
  refine uAp ?_;refine uAe ?_;refine uAs ?_;refine uAe (uAb ?_);refine uAa rfl rfl rfl (uAc rfl gU) ?_;refine uAa rfl rfl rfl (uAc rfl gU) ?_;refine uAa rfl rfl rfl (uAD (j:=k) rfl rfl gU gU Tryz.underlying9 (by first | omega | (show _≤16; omega) | (simp; omega) | (simp at hh ⊢; omega)) (fun hh=>by first | omega | (show _≤16; omega) | (simp; omega) | (simp at hh ⊢; omega))) ?_;refine uAa rfl rfl rfl (uAd rfl gU) ?_;refine uAf ?_;refine uAm (s:=⟨[(0,_,_),(3,_,_),(4,_,_),(5,_,_)],[],[],[]⟩) (uAj (⟨sx rfl,sx rfl,sx rfl,sx rfl,trivial⟩) trivial trivial) ?_;refine uAs ?_;refine uAe (uAb ?_);refine uAa rfl rfl rfl (uAc rfl gU) ?_;refine uAa rfl rfl rfl (uAk rfl rfl gU gU rfl) ?_;refine uAa rfl rfl rfl (uAd rfl gU) ?_;refine uAf ?_;refine uAl rfl (fun hc2=>?_) (fun hc2=>?_)
  ·try simp only [nn,uAi,Tk.rows_len] at hc2
   have h1 : quo1 (s.getD k 0)=[92,110]:=by unfold quo1; rw [if_pos (by omega)]
   refine uAb ?_;refine uAa rfl rfl rfl (uAc rfl gU) ?_;refine uAa rfl rfl rfl (uAB rfl rfl gU gU (by (try simp only [List.length_append,List.length_singleton]); (try simp); omega)) ?_;refine uAa rfl rfl rfl (uAd rfl gU) ?_;refine uAf ?_;refine uAm (s:=⟨[(0,_,_),(3,_,_),(4,_,_)],[],[],[]⟩) (uAj (⟨sx rfl,sx rfl,sx rfl,trivial⟩) trivial trivial) ?_;refine uAb ?_;refine uAa rfl rfl rfl (uAc rfl gU) ?_;refine uAa rfl rfl rfl (uAq rfl rfl gU gU rfl (IntWalk.i64_in _ (by omega))) ?_;refine uAa rfl rfl rfl (uAd rfl gU) ?_;refine uAf ?_;refine ⟨k + 1,?_,?_,uAj (⟨⟨_,rfl,?_⟩,⟨⟨_,rfl,?_⟩,⟨sx rfl,trivial⟩⟩⟩) trivial trivial⟩
   all_goals (first | rfl | omega | exact tx (congrArg xs (by rw [hT,h1]; simp only [List.append_assoc,List.cons_append,List.nil_append] <;> rfl)))
  ·try simp only [nn,uAi,Tk.rows_len] at hc2
   refine uAe (uAb ?_);refine uAa rfl rfl rfl (uAc rfl gU) ?_;refine uAa rfl rfl rfl (uAk rfl rfl gU gU rfl) ?_;refine uAa rfl rfl rfl (uAd rfl gU) ?_;refine uAf ?_;refine uAm (s:=⟨[(0,_,_),(3,_,_),(4,_,_),(5,_,_),(36,_,_)],[],[],[]⟩) (uAj (⟨sx rfl,sx rfl,sx rfl,sx rfl,sx rfl,trivial⟩) trivial trivial) ?_;refine uAl rfl (fun hc3=>?_) (fun hc3=>?_)
   ·try simp only [nn,uAi,Tk.rows_len] at hc3
    have h1 : quo1 (s.getD k 0)=[92,116]:=by unfold quo1; rw [if_neg (by omega),if_pos (by omega)]
    refine uAb ?_;refine uAa rfl rfl rfl (uAc rfl gU) ?_;refine uAa rfl rfl rfl (uAB rfl rfl gU gU (by (try simp only [List.length_append,List.length_singleton]); (try simp); omega)) ?_;refine uAa rfl rfl rfl (uAd rfl gU) ?_;refine uAf ?_;refine uAb ?_;refine uAa rfl rfl rfl (uAc rfl gU) ?_;refine uAa rfl rfl rfl (uAq rfl rfl gU gU rfl (IntWalk.i64_in _ (by omega))) ?_;refine uAa rfl rfl rfl (uAd rfl gU) ?_;refine uAf ?_;refine ⟨k + 1,?_,?_,uAj (⟨⟨_,rfl,?_⟩,⟨⟨_,rfl,?_⟩,⟨sx rfl,trivial⟩⟩⟩) trivial trivial⟩
    all_goals (first | rfl | omega | exact tx (congrArg xs (by rw [hT,h1]; simp only [List.append_assoc,List.cons_append,List.nil_append] <;> rfl)))
   ·try simp only [nn,uAi,Tk.rows_len] at hc3
    refine uAe (uAb ?_);refine uAa rfl rfl rfl (uAc rfl gU) ?_;refine uAa rfl rfl rfl (uAk rfl rfl gU gU rfl) ?_;refine uAa rfl rfl rfl (uAc rfl gU) ?_;refine uAa rfl rfl rfl (uAc rfl gU) ?_;refine uAa rfl rfl rfl (uAk rfl rfl (fun hh=>hh) gU rfl) ?_;refine uAa rfl rfl rfl (uAJ rfl rfl gU (fun _ hi=>gP rfl hi)) ?_;refine uAa rfl rfl rfl (uAd rfl gU) ?_;refine uAf ?_;refine uAm (s:=⟨[(0,_,_),(3,_,_),(4,_,_),(5,_,_),(41,_,_)],[],[],[]⟩) (uAj (⟨sx rfl,sx rfl,sx rfl,sx rfl,sx rfl,trivial⟩) trivial trivial) ?_;refine uAl rfl (fun hc4=>?_) (fun hc4=>?_)
    ·try simp only [nn,uAi,Tk.rows_len] at hc4
     have h1 : quo1 (s.getD k 0)=[92,s.getD k 0]:=by unfold quo1; rw [if_neg (by omega),if_neg (by omega),if_pos (by omega)]
     refine uAb ?_;refine uAa rfl rfl rfl (uAc rfl gU) ?_;refine uAa rfl rfl rfl (uAB rfl rfl gU gU (by (try simp only [List.length_append,List.length_singleton]); (try simp); omega)) ?_;refine uAa rfl rfl rfl (uAc rfl gU) ?_;refine uAa rfl rfl rfl (uAc rfl gU) ?_;refine uAa rfl rfl rfl (uAc rfl gU) ?_;refine uAa rfl rfl rfl (uAq rfl rfl gU gU rfl (IntWalk.i64_in _ (by omega))) ?_;refine uAa rfl rfl rfl (uA3 (l:=k) (h':=(k + 1)) rfl gU Tryz.underlying9 (fun _=>⟨_,_,_,rfl,gU,by first | omega | (show _≤16; omega) | (simp; omega) | (simp at hh ⊢; omega)⟩) (fun _=>⟨_,_,_,rfl,gU,by first | omega | (show _≤16; omega) | (simp; omega) | (simp at hh ⊢; omega)⟩) (fun hh=>by first | omega | (show _≤16; omega) | (simp; omega) | (simp at hh ⊢; omega)) (fun hh=>by first | omega | (show _≤16; omega) | (simp; omega) | (simp at hh ⊢; omega))) ?_;refine uAa rfl rfl rfl (uAB rfl rfl gU gU (by (try simp only [List.length_append,List.length_singleton]); (try simp); omega)) ?_;refine uAa rfl rfl rfl (uAd rfl gU) ?_;refine uAf ?_;refine uAm (s:=⟨[(0,_,_),(3,_,_),(4,_,_)],[],[],[]⟩) (uAj (⟨sx rfl,sx rfl,sx rfl,trivial⟩) trivial trivial) ?_;refine uAb ?_;refine uAa rfl rfl rfl (uAc rfl gU) ?_;refine uAa rfl rfl rfl (uAq rfl rfl gU gU rfl (IntWalk.i64_in _ (by omega))) ?_;refine uAa rfl rfl rfl (uAd rfl gU) ?_
     refine uAf ?_;refine ⟨k + 1,?_,?_,uAj (⟨⟨_,rfl,?_⟩,⟨⟨_,rfl,?_⟩,⟨sx rfl,trivial⟩⟩⟩) trivial trivial⟩
     all_goals (first | rfl | omega | exact tx (congrArg xs (by rw [hT,h1,e1]; simp only [List.append_assoc,List.cons_append,List.nil_append] <;> rfl)))
    ·try simp only [nn,uAi,Tk.rows_len] at hc4
     refine uAe (uAb ?_);refine uAa rfl rfl rfl (uAc rfl gU) ?_;refine uAa rfl rfl rfl (uAk rfl rfl gU gU rfl) ?_;refine uAa rfl rfl rfl (uAc rfl gU) ?_;refine uAa rfl rfl rfl (uAc rfl gU) ?_;refine uAa rfl rfl rfl (uAk rfl rfl (fun hh=>hh) gU rfl) ?_;refine uAa rfl rfl rfl (uAX rfl rfl gU (fun _ hi=>gP rfl hi)) ?_;refine uAa rfl rfl rfl (uAd rfl gU) ?_;refine uAf ?_;refine uAm (s:=⟨[(0,_,_),(3,_,_),(4,_,_),(5,_,_),(56,_,_)],[],[],[]⟩) (uAj (⟨sx rfl,sx rfl,sx rfl,sx rfl,sx rfl,trivial⟩) trivial trivial) ?_;refine uAl rfl (fun hc5=>?_) (fun hc5=>?_)
     ·try simp only [nn,uAi,Tk.rows_len] at hc5
      have h1 : quo1 (s.getD k 0)=[s.getD k 0]:=by unfold quo1; rw [if_neg (by omega),if_neg (by omega),if_neg (by omega),if_pos (by omega)]
      refine uAb ?_;refine uAa rfl rfl rfl (uAc rfl gU) ?_;refine uAa rfl rfl rfl (uAc rfl gU) ?_;refine uAa rfl rfl rfl (uAc rfl gU) ?_;refine uAa rfl rfl rfl (uAc rfl gU) ?_;refine uAa rfl rfl rfl (uAq rfl rfl gU gU rfl (IntWalk.i64_in _ (by omega))) ?_;refine uAa rfl rfl rfl (uA3 (l:=k) (h':=(k + 1)) rfl gU Tryz.underlying9 (fun _=>⟨_,_,_,rfl,gU,by first | omega | (show _≤16; omega) | (simp; omega) | (simp at hh ⊢; omega)⟩) (fun _=>⟨_,_,_,rfl,gU,by first | omega | (show _≤16; omega) | (simp; omega) | (simp at hh ⊢; omega)⟩) (fun hh=>by first | omega | (show _≤16; omega) | (simp; omega) | (simp at hh ⊢; omega)) (fun hh=>by first | omega | (show _≤16; omega) | (simp; omega) | (simp at hh ⊢; omega))) ?_;refine uAa rfl rfl rfl (uAB rfl rfl gU gU (by (try simp only [List.length_append,List.length_singleton]); (try simp); omega)) ?_;refine uAa rfl rfl rfl (uAd rfl gU) ?_;refine uAf ?_;refine uAm (s:=⟨[(0,_,_),(3,_,_),(4,_,_)],[],[],[]⟩) (uAj (⟨sx rfl,sx rfl,sx rfl,trivial⟩) trivial trivial) ?_;refine uAb ?_;refine uAa rfl rfl rfl (uAc rfl gU) ?_;refine uAa rfl rfl rfl (uAq rfl rfl gU gU rfl (IntWalk.i64_in _ (by omega))) ?_;refine uAa rfl rfl rfl (uAd rfl gU) ?_;refine uAf ?_;refine ⟨k + 1,?_,?_,uAj (⟨⟨_,rfl,?_⟩,⟨⟨_,rfl,?_⟩,⟨sx rfl,trivial⟩⟩⟩) trivial trivial⟩
      all_goals (first | rfl | omega | exact tx (congrArg xs (by rw [hT,h1,e1]; simp only [List.append_assoc,List.cons_append,List.nil_append] <;> rfl)))
     ·try simp only [nn,uAi,Tk.rows_len] at hc5
      have h1 : quo1 (s.getD k 0)=[92,120]++(hexs.take ((s.getD k 0).toNat / 16 + 1)).drop ((s.getD k 0).toNat / 16)++(hexs.take ((s.getD k 0).toNat % 16 + 1)).drop ((s.getD k 0).toNat % 16):=by unfold quo1; rw [if_neg (by omega),if_neg (by omega),if_neg (by omega),if_neg (by omega)]
      refine awp_drawn' (by kernel_rfl) ?_;refine uAg rfl rfl rfl rfl (uAc rfl gU) ?_;refine uAg rfl rfl rfl rfl (uAB rfl rfl gU gU (by (try simp only [List.length_append,List.length_singleton]); (try simp); omega)) ?_;refine uAg rfl rfl rfl rfl (uAc rfl gU) ?_;refine uAg rfl rfl rfl rfl (uDm rfl rfl gU gU (fun hh=>by first | omega | (show _≤16; omega) | (simp; omega) | (simp at hh ⊢; omega)) (fun hh=>(congrArg IntKind.u8.wrap (Int.tdiv_eq_ediv_of_nonneg (by first | omega | (show _≤16; omega) | (simp; omega) | (simp at hh ⊢; omega)))).trans (IntWalk.u8_in _ (by omega)))) ?_;refine uAg rfl rfl rfl rfl (uAc rfl gU) ?_;refine uAg rfl rfl rfl rfl (uDm rfl rfl gU gU (fun hh=>by first | omega | (show _≤16; omega) | (simp; omega) | (simp at hh ⊢; omega)) (fun hh=>(congrArg IntKind.u8.wrap (Int.tdiv_eq_ediv_of_nonneg (by first | omega | (show _≤16; omega) | (simp; omega) | (simp at hh ⊢; omega)))).trans (IntWalk.u8_in _ (by omega)))) ?_;refine uAg rfl rfl rfl rfl (uAq rfl rfl gU gU rfl (IntWalk.u8_in _ (by omega))) ?_;refine uAg rfl rfl rfl rfl (uA3 (l:=((s.getD k 0).toNat / 16)) (h':=((s.getD k 0).toNat / 16 + 1)) rfl gU Tryz.underlying9 (fun _=>⟨_,_,_,rfl,gU,by first | omega | (show _≤16; omega) | (simp; omega) | (simp at hh ⊢; omega)⟩) (fun _=>⟨_,_,_,rfl,gU,by first | omega | (show _≤16; omega) | (simp; omega) | (simp at hh ⊢; omega)⟩) (fun hh=>by first | omega | (show _≤16; omega) | (simp; omega) | (simp at hh ⊢; omega)) (fun hh=>by first | omega | (show _≤16; omega) | (simp; omega) | (simp at hh ⊢; omega))) ?_
      refine uAg rfl rfl rfl rfl (uAB rfl rfl gU gU (by (try simp only [List.length_append,List.length_singleton]); (try simp); omega)) ?_;refine uAg rfl rfl rfl rfl (uAc rfl gU) ?_;refine uAg rfl rfl rfl rfl (uDj rfl rfl gU gU (fun hh=>by first | omega | (show _≤16; omega) | (simp; omega) | (simp at hh ⊢; omega)) (fun hh=>Int.tmod_eq_emod_of_nonneg (by first | omega | (show _≤16; omega) | (simp; omega) | (simp at hh ⊢; omega)))) ?_;refine uAg rfl rfl rfl rfl (uAc rfl gU) ?_;refine uAg rfl rfl rfl rfl (uDj rfl rfl gU gU (fun hh=>by first | omega | (show _≤16; omega) | (simp; omega) | (simp at hh ⊢; omega)) (fun hh=>Int.tmod_eq_emod_of_nonneg (by first | omega | (show _≤16; omega) | (simp; omega) | (simp at hh ⊢; omega)))) ?_;refine uAg rfl rfl rfl rfl (uAq rfl rfl gU gU rfl (IntWalk.u8_in _ (by omega))) ?_;refine uAg rfl rfl rfl rfl (uA3 (l:=((s.getD k 0).toNat % 16)) (h':=((s.getD k 0).toNat % 16 + 1)) rfl gU Tryz.underlying9 (fun _=>⟨_,_,_,rfl,gU,by first | omega | (show _≤16; omega) | (simp; omega) | (simp at hh ⊢; omega)⟩) (fun _=>⟨_,_,_,rfl,gU,by first | omega | (show _≤16; omega) | (simp; omega) | (simp at hh ⊢; omega)⟩) (fun hh=>by first | omega | (show _≤16; omega) | (simp; omega) | (simp at hh ⊢; omega)) (fun hh=>by first | omega | (show _≤16; omega) | (simp; omega) | (simp at hh ⊢; omega))) ?_;refine uAg rfl rfl rfl rfl (uAB rfl rfl gU gU (by (try simp only [List.length_append,List.length_singleton]); (try simp); omega)) ?_
      refine uAg rfl rfl rfl rfl (uAd rfl gU) ?_;refine uBf (by kernel_rfl) ?_;refine uAm (s:=⟨[(0,_,_),(3,_,_),(4,_,_)],[],[],[]⟩) (uAj (⟨sx rfl,sx rfl,sx rfl,trivial⟩) trivial trivial) ?_;refine uAb ?_;refine uAa rfl rfl rfl (uAc rfl gU) ?_;refine uAa rfl rfl rfl (uAq rfl rfl gU gU rfl (IntWalk.i64_in _ (by omega))) ?_;refine uAa rfl rfl rfl (uAd rfl gU) ?_;refine uAf ?_;refine ⟨k + 1,?_,?_,uAj (⟨⟨_,rfl,?_⟩,⟨⟨_,rfl,?_⟩,⟨sx rfl,trivial⟩⟩⟩) trivial trivial⟩
      all_goals (first | rfl | omega | exact tx (congrArg xs (by rw [hT,h1]; simp only [List.append_assoc,List.cons_append,List.nil_append] <;> rfl)))
 ·try simp only [nn,uAi,Tk.rows_len] at hc
  have hk : k=s.length:=by omega
  rw [hk,List.take_length] at hqk ⊢
  refine uAL ?_
  repeat (first | refine uAF ?_ | refine uAG ?_ | refine uAC rfl ?_)
  refine uAe (uAb ?_);refine uAa rfl rfl rfl (uAc rfl gU) ?_;refine uAa rfl rfl rfl (uAB rfl rfl gU gU (by (try simp only [List.length_append,List.length_singleton]); (try simp); omega)) ?_;refine uAa rfl rfl rfl (uAd rfl gU) ?_;refine uAf ?_;refine uAo ?_
  repeat (first | refine tR ?_ | refine bR ?_)
  refine uAr rfl ?_ trivial
  rfl
theorem uGa : ∀ (k u : Nat),u < 10 ^ (k + 1)→(Lib.decDigits u).length≤k + 1
 | 0,u,h=>by rw [Lib.decDigits,dif_pos (by simpa using h)]; simp
 | k + 1,u,h=>by
  rw [Lib.decDigits]
  split
  ·simp
  ·have := uGa k (u / 10) (by rw [Nat.pow_succ] at h; omega)
   simp only [List.length_append,List.length_singleton]
   omega
theorem uLH {n : Int} (h0 : 0≤n) (h1 : n≤9223372036854775807) : (Lib.decDigits n.toNat).length≤20:=uGa 19 n.toNat (by omega)
theorem uOc : ∀ n : Fin 10,(([48,49,50,51,52,53,54,55,56,57] : List UInt8).take (n.val + 1)).drop n.val=[UInt8.ofNat (48 + n.val)]:=by decide +kernel
theorem uLu (u : Nat) : u≤9223372036854775807 → ∀ n : Int,n=u→Ctr sys 75 [xi n] [] (xs (Lib.decDigits u)) none []:=by
 induction u using Nat.strongRecOn with
 | ind u ih =>
  intro hu n hn
  subst hn
  refine uAz Tryz.func75 rfl rfl rfl rfl rfl rfl ?_;refine uAe (uAb ?_);refine uAa rfl rfl rfl (uAd rfl gU) ?_;refine uAf ?_;refine uAe ?_;refine uAe (uAb ?_);refine uAa rfl rfl rfl (uAc rfl gU) ?_;refine uAa rfl rfl rfl (uAk rfl rfl gU gU rfl) ?_;refine uAf ?_;refine uAl rfl (fun hc=>?_) (fun hc=>?_)
  ·try simp only [nn,uAi,Tk.rows_len] at hc
   have e:=uOc ⟨u,by omega⟩
   refine uAe (uAb ?_);refine uAa rfl rfl rfl (uAc rfl gU) ?_;refine uAa rfl rfl rfl (uAc rfl gU) ?_;refine uAa rfl rfl rfl (uAq rfl rfl gU gU rfl (IntWalk.i64_in _ (by omega))) ?_;refine uAa rfl rfl rfl (uA3 (l:=u) (h':=(u + 1)) rfl gU Tryz.underlying9 (fun _=>⟨_,_,_,rfl,gU,by first | omega | (show _≤10; omega) | (simp at hh ⊢; omega)⟩) (fun _=>⟨_,_,_,rfl,gU,by first | omega | (show _≤10; omega) | (simp at hh ⊢; omega)⟩) (fun hh=>by first | omega | (show _≤10; omega) | (simp at hh ⊢; omega)) (fun hh=>by first | omega | (show _≤10; omega) | (simp at hh ⊢; omega))) ?_;refine uAa rfl rfl rfl (uAd rfl gU) ?_;refine uAf ?_;refine uAo ?_
   repeat (first | refine tR ?_ | refine bR ?_)
   refine uAr rfl ?_ trivial
   (rw [Lib.decDigits,dif_pos (by omega)]; exact congrArg xs e)
  ·try simp only [nn,uAi,Tk.rows_len] at hc
   have h1:=ih (u / 10) (by omega) (by omega) ((u : Int) / 10) (by omega)
   have h2:=ih (u % 10) (by omega) (by omega) ((u : Int) % 10) (by omega)
   have l1:=uGa 19 (u / 10) (by omega)
   have l2:=uGa 19 (u % 10) (by omega)
   refine uAp ?_;refine uAe (uAb ?_);refine uAa rfl rfl rfl (uAc rfl gU) ?_;refine uAa rfl rfl rfl (uDm rfl rfl gU gU (fun hh=>by first | omega | (show _≤10; omega) | (simp at hh ⊢; omega)) (fun hh=>(congrArg IntKind.i64.wrap (Int.tdiv_eq_ediv_of_nonneg (by first | omega | (show _≤10; omega) | (simp at hh ⊢; omega)))).trans (IntWalk.i64_in _ (by omega)))) ?_;refine uAA rfl rfl rfl rfl rfl rfl gU gU (h1) rfl ?_;refine uAa rfl rfl rfl (uAc rfl gU) ?_;refine uAa rfl rfl rfl (uDj rfl rfl gU gU (fun hh=>by first | omega | (show _≤10; omega) | (simp at hh ⊢; omega)) (fun hh=>Int.tmod_eq_emod_of_nonneg (by first | omega | (show _≤10; omega) | (simp at hh ⊢; omega)))) ?_;refine uAA rfl rfl rfl rfl rfl rfl gU gU (h2) rfl ?_;refine uAa rfl rfl rfl (uAB rfl rfl gU gU (by first | omega | (simp only [List.length_append]; omega))) ?_;refine uAa rfl rfl rfl (uAd rfl gU) ?_;refine uAf ?_;refine uAo ?_
   repeat (first | refine tR ?_ | refine bR ?_)
   refine uAr rfl ?_ trivial
   rw [show Lib.decDigits u=Lib.decDigits (u / 10)++[UInt8.ofNat (48 + u % 10)] by rw [Lib.decDigits,dif_neg (by omega)],show Lib.decDigits (u % 10)=[UInt8.ofNat (48 + u % 10)] by rw [Lib.decDigits,dif_pos (by omega)]]
   rfl
structure TkS (t : Tk) : Prop where
 i : t.int≤9223372036854775807
 s : t.str.length≤100000
 x : t.text.length≤2000000
theorem uLq {t : Tk} (h : TkS t) : (uBs t).length≤2000000:=by
 obtain ⟨h1,h2,h3⟩:=h
 have := uDO t.str
 have := uER t.str
 unfold uBs
 split
 ·omega
 split
 ·omega
 split
 ·rename_i q; have := uLH q.2 h1; omega
 ·simp
theorem uKd (t : Tk) (h : TkS t) : Ctr sys 23 [xt t] [] (xs (uBs t)) none []:=by
 obtain ⟨h1,h2,h3⟩:=h
 refine uAz Tryz.func23 rfl rfl rfl rfl rfl rfl ?_;refine uAe (uAb ?_);refine uAt rfl (uBa rfl rfl rfl rfl) ?_;refine uAa rfl rfl rfl (uAd rfl gU) ?_;refine uAf ?_;refine uAe ?_;refine uAe (uAb ?_);refine uAa rfl rfl rfl (uAh rfl gU rfl rfl) ?_;refine uAa rfl rfl rfl (uAn rfl gU rfl rfl rfl rfl) ?_;refine uAf ?_;refine uAs ?_;refine uAe ?_;refine uAe (uAb ?_);refine uAa rfl rfl rfl (uAk rfl rfl gU gU rfl) ?_;refine uAa rfl rfl rfl (uAd rfl gU) ?_;refine uAf ?_;refine uAm (s:=⟨[(1,_,_),(4,_,_),(5,_,_)],[(.l 1,_)],[],[]⟩) (uAj (⟨sx rfl,sx rfl,sx rfl,trivial⟩) (⟨sx rfl,trivial⟩) trivial) ?_;refine uAl rfl (fun hc=>?_) (fun hc=>?_)
 ·try simp only [nn,uAi,Tk.rows_len] at hc
  rw [uBs,if_pos (.inl hc)]
  refine uAp ?_;refine uAl rfl (fun hc2=>?_) (fun hc2=>?_)
  ·refine uAe (uAb ?_)
   refine uAa rfl rfl rfl (uAh rfl gU rfl rfl) ?_;refine uAa rfl rfl rfl (uAn rfl gU rfl rfl rfl rfl) ?_;refine uAa rfl rfl rfl (uAd rfl gU) ?_;refine uAf ?_;refine uAo ?_
   repeat (first | refine tR ?_ | refine bR ?_)
   refine uAr rfl ?_ trivial
   rfl
  ·try simp only [nn,uAi,Tk.rows_len] at hc2
   exact absurd hc hc2
 ·try simp only [nn,uAi,Tk.rows_len] at hc
  refine uAb ?_;refine uAa rfl rfl rfl (uAk rfl rfl gU gU rfl) ?_;refine uAa rfl rfl rfl (uAd rfl gU) ?_;refine uAf ?_;refine uAl rfl (fun hc2=>?_) (fun hc2=>?_)
  ·try simp only [nn,uAi,Tk.rows_len] at hc2
   refine uAe (uAb ?_);refine uAa rfl rfl rfl (uAh rfl gU rfl rfl) ?_;refine uAa rfl rfl rfl (uAn rfl gU rfl rfl rfl rfl) ?_;refine uAa rfl rfl rfl (uAd rfl gU) ?_;refine uAf ?_;refine uAo ?_
   repeat (first | refine tR ?_ | refine bR ?_)
   refine uAr rfl ?_ trivial
   (rw [uBs,if_pos (.inr hc2)]; rfl)
  ·try simp only [nn,uAi,Tk.rows_len] at hc2
   rw [uBs,if_neg (by omega)]
   refine uAe (uAb ?_);refine uAa rfl rfl rfl (uAk rfl rfl gU gU rfl) ?_;refine uAa rfl rfl rfl (uAd rfl gU) ?_;refine uAf ?_;refine uAl rfl (fun hc3=>?_) (fun hc3=>?_)
   ·try simp only [nn,uAi,Tk.rows_len] at hc3
    rw [if_neg (by omega)]
    refine uAe (uAb ?_);refine uAa rfl rfl rfl (uAh rfl gU rfl rfl) ?_;refine uAa rfl rfl rfl (uAn rfl gU rfl rfl rfl rfl) ?_;refine uAa rfl rfl rfl (uAk rfl rfl gU gU rfl) ?_;refine uAf ?_;refine uAm (s:=⟨[(1,_,_),(14,_,_)],[(.l 1,_)],[],[]⟩) (uAj (⟨sx rfl,sx rfl,trivial⟩) (⟨sx rfl,trivial⟩) trivial) ?_;refine uAl rfl (fun hc4=>?_) (fun hc4=>?_)
    ·try simp only [nn,uAi,Tk.rows_len] at hc4
     refine uAe (uAb ?_);refine uAa rfl rfl rfl (uAh rfl gU rfl rfl) ?_;refine uAa rfl rfl rfl (uAn rfl gU rfl rfl rfl rfl) ?_;refine uAA rfl rfl rfl rfl rfl rfl gU gU (uLu t.int.toNat (by omega) _ (by omega)) rfl ?_;refine uAa rfl rfl rfl (uAd rfl gU) ?_;refine uAf ?_;refine uAo ?_
     repeat (first | refine tR ?_ | refine bR ?_)
     refine uAr rfl ?_ trivial
     (rw [if_pos ⟨hc3,hc4⟩]; rfl)
    ·try simp only [nn,uAi,Tk.rows_len] at hc4
     refine uAp ?_;refine uAe (uAb ?_);refine uAa rfl rfl rfl (uAd rfl gU) ?_;refine uAf ?_;refine uAo ?_
     repeat (first | refine tR ?_ | refine bR ?_)
     refine uAr rfl ?_ trivial
     (rw [if_neg (by omega)]; rfl)
   ·try simp only [nn,uAi,Tk.rows_len] at hc3
    refine uAe (uAb ?_);refine uAa rfl rfl rfl (uAk rfl rfl gU gU rfl) ?_;refine uAa rfl rfl rfl (uAd rfl gU) ?_;refine uAf ?_;refine uAm (s:=⟨[(1,_,_),(18,_,_)],[(.l 1,_)],[],[]⟩) (uAj (⟨sx rfl,sx rfl,trivial⟩) (⟨sx rfl,trivial⟩) trivial) ?_;refine uAl rfl (fun hc4=>?_) (fun hc4=>?_)
    ·try simp only [nn,uAi,Tk.rows_len] at hc4
     refine uAe (uAb ?_);refine uAa rfl rfl rfl (uAh rfl gU rfl rfl) ?_;refine uAa rfl rfl rfl (uAn rfl gU rfl rfl rfl rfl) ?_;refine uAA rfl rfl rfl rfl rfl rfl gU gU (uJt _ (by omega)) rfl ?_;refine uAa rfl rfl rfl (uAd rfl gU) ?_;refine uAf ?_;refine uAo ?_
     repeat (first | refine tR ?_ | refine bR ?_)
     refine uAr rfl ?_ trivial
     (rw [if_pos hc4]; rfl)
    ·try simp only [nn,uAi,Tk.rows_len] at hc4
     refine uAp ?_;refine uAe (uAb ?_);refine uAa rfl rfl rfl (uAd rfl gU) ?_;refine uAf ?_;refine uAo ?_
     repeat (first | refine tR ?_ | refine bR ?_)
     refine uAr rfl ?_ trivial
     (rw [if_neg hc4,if_neg (by omega)]; rfl)
end Go.Proofs.YtnjjdbapadkomaaGreatDoor
