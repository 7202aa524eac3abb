/- Our abstract program logic and contracts of this seat's functions, part 5: no statement of its own (long names of ours are shortened by a program). -/
import Derived.Test.YtnjjdbapadkomaaGreatDoorM4
import Derived.RangeFuncNested
import Derived.RangeFuncLeaves
import Derived.Shelf.Abstract
import Derived.WalkKit
import Derived.OwnWalkIn
import Derived.TacticsInMore
import Derived.LoopNIn
import Derived.LoopIn
import Derived.KernelRfl
set_option linter.unusedVariables false
set_option linter.unusedSimpArgs false
namespace Go.Proofs.YtnjjdbapadkomaaGreatDoor
open Go Go.Abs
def Itm.more (f : List UInt8 × Int) : Itm→Itm
 | .fresh r l=>.fresh r (l++[f])
 | i=>i
def glue (f : List UInt8 × Int) : List Itm→List Itm
 | []=>[]
 | [i]=>[i.more f]
 | i :: j :: r=>i :: glue f (j :: r)
theorem uFv (f : List UInt8 × Int) (r : List UInt8) (l : List (List UInt8 × Int)) : ∀ I : List Itm,glue f (I++[.fresh r l])=I++[.fresh r (l++[f])]
 | []=>rfl
 | [i]=>rfl
 | i :: j :: I=>by
  have ih:=uFv f r l (j :: I)
  rw [List.cons_append,List.cons_append] at ih
  rw [List.cons_append,List.cons_append,glue,ih]
  rfl
def uD9 (fs : List Fs) (k : Nat) : Prop:=0 < k∧(fs.getD (k - 1) default).role=(fs.getD k default).role
instance (fs : List Fs) (k : Nat) : Decidable (uD9 fs k):=by unfold uD9; infer_instance
def Fs.pr (f : Fs) : List UInt8 × Int:=(f.name,f.sort)
def frI (fs : List Fs) : Nat→List Itm
 | 0=>[]
 | k + 1=>if uD9 fs k then glue (fs.getD k default).pr (frI fs k) else frI fs k++[.fresh (fs.getD k default).role [(fs.getD k default).pr]]
theorem uIV (fs : List Fs) : ∀ k,0 < k → ∃ I l,l≠[]∧frI fs k=I++[.fresh (fs.getD (k - 1) default).role l]
 | 0,h=>by omega
 | k + 1,_=>by
  rw [frI,Nat.add_sub_cancel]
  split
  ·rename_i hs
   obtain ⟨I,l,h1,h2⟩:=uIV fs k hs.1
   rw [h2,uFv,hs.2]
   exact ⟨I,_,by simp,rfl⟩
  ·exact ⟨_,_,by simp,rfl⟩
theorem uGr {fs : List Fs} {k : Nat} (hs : uD9 fs k) : ∃ I l,l≠[]∧frI fs k=I++[.fresh (fs.getD k default).role l]∧frI fs (k + 1)=I++[.fresh (fs.getD k default).role (l++[(fs.getD k default).pr])]:=by
 obtain ⟨I,l,h1,h2⟩:=uIV fs k hs.1
 rw [hs.2] at h2
 exact ⟨I,l,h1,h2,by rw [frI,if_pos hs,h2,uFv]⟩
theorem uIo {fs : List Fs} {k : Nat} (hs : ¬uD9 fs k) : frI fs (k + 1)=frI fs k++[.fresh (fs.getD k default).role [(fs.getD k default).pr]]:=by rw [frI,if_neg hs]
theorem uER (fs : List Fs) : ∀ k,(frI fs k).length≤k
 | 0=>by simp [frI]
 | k + 1=>by
  have ih:=uER fs k
  by_cases hs : uD9 fs k
  ·obtain ⟨I,l,_,h2,h3⟩:=uGr hs
   rw [h2] at ih
   rw [h3]
   simp only [List.length_append,List.length_singleton] at ih ⊢; omega
  ·rw [uIo hs]
   simp only [List.length_append,List.length_singleton]; omega
theorem uLw (sep x : List UInt8) : ∀ l : List (List UInt8),l≠[]→Lib.join (l++[x]) sep=Lib.join l sep++(sep++x)
 | [],h=>absurd rfl h
 | y :: l,_=>by
  rw [List.cons_append,Lib.join_cons,Lib.join_cons]
  have : ∀ l : List (List UInt8),Lib.joinTail sep (l++[x])=Lib.joinTail sep l++(sep++x):=by
   intro l
   simp [Lib.joinTail]
  rw [this,List.append_assoc]
theorem uJE (sep x : List UInt8) : Lib.join [x] sep=x:=by rw [Lib.join_cons]; simp [Lib.joinTail]
theorem uLK {r : List UInt8} {l : List (List UInt8 × Int)} (f : List UInt8 × Int) (h : l≠[]) : (Itm.fresh r (l++[f])).text=(Itm.fresh r l).text.dropLast++([44,32]++(fsW f++[59])):=by
 have e : (Itm.fresh r l).text=(hFresh++(r++([58,32]++Lib.join (l.map fsW) [44,32])))++[59]:=by simp [Itm.text]
 rw [e,List.dropLast_concat]
 simp only [Itm.text,List.map_append,List.map_cons,List.map_nil]
 rw [uLw _ _ _ (by simpa using h)]
 simp
theorem uLt (r : List UInt8) (l : List (List UInt8 × Int)) : ∃ s,(Itm.fresh r l).text=s++[59]:=⟨hFresh++(r++([58,32]++Lib.join (l.map fsW) [44,32])),by simp [Itm.text]⟩
def Nar.itms (n : Nar) : List Itm:=[.roles n.roles]++(frI n.fresh n.fresh.length++((if n.tags=[] then [] else [.tags n.tags])++(n.steps.map .step++n.goals.map .goal)))
def uHc (n : Nar) : List UInt8:=hProt++(n.name++[32,123])
def Nar.lines (n : Nar) : List (List UInt8):=[uHc n]++(n.itms.map Itm.text++[[125]])
def nl (L : List (List UInt8)) : List UInt8:=(L.map fun s=>s++[10]).flatten
theorem uNx (a b : List (List UInt8)) : nl (a++b)=nl a++nl b:=by simp [nl]
theorem uKB : ∀ L : List (List UInt8),L≠[]→Lib.join L [10]++[10]=nl L
 | [],h=>absurd rfl h
 | [x],_=>by rw [uJE]; simp [nl]
 | x :: y :: L,_=>by
  have ih:=uKB (y :: L) (by simp)
  have e : Lib.join (x :: y :: L) [10]=x++([10]++Lib.join (y :: L) [10]):=by
   rw [Lib.join_cons,Lib.join_cons]; simp [Lib.joinTail]
  have e2 : nl (x :: y :: L)=x++([10]++nl (y :: L)):=by simp [nl]
  rw [e,e2,← ih]; simp
def Nar.text (n : Nar) : List UInt8:=Lib.join n.lines [10]++[10]
theorem Nar.text_eq (n : Nar) : n.text=nl n.lines:=uKB _ (by simp [Nar.lines])
structure MsgOk (t : T) : Prop where
 raw : uCI uAL t=0
 size : t.size≤40
structure GlOk (g : Gl) : Prop where
 k1 : 1≤g.kind
 k2 : g.kind≤5
 role : uAL g.role=true
 w1 : uBF g.kind=true→uAL g.wth=true
 w0 : uBF g.kind=false→g.wth=[]
 d1 : 1≤g.data.length
 d2 : g.data.length≤4
 data : ∀ t ∈ g.data,MsgOk t
structure NarOk (n : Nar) : Prop where
 name : uAL n.name=true
 r1 : 2≤n.roles.length
 r2 : n.roles.length≤4
 roles : ∀ w ∈ n.roles,uAL w=true
 f2 : n.fresh.length≤12
 fresh : ∀ f ∈ n.fresh,uAL f.role=true∧uAL f.name=true∧2≤f.sort∧f.sort≤4
 t2 : n.tags.length≤8
 tags : ∀ w ∈ n.tags,uAL w=true
 s1 : 1≤n.steps.length
 s2 : n.steps.length≤8
 steps : ∀ s ∈ n.steps,uAL s.frm=true∧uAL s.dst=true∧MsgOk s.msg
 g2 : n.goals.length≤8
 goals : ∀ g ∈ n.goals,GlOk g
theorem uMJ {t : T} (h : msgE uAL t=0) : MsgOk t:=by
 unfold msgE at h
 split at h
 ·rename_i hz; exact absurd h hz
 ·rename_i hz
  split at h
  ·simp at h
  ·exact ⟨Decidable.not_not.1 hz,by omega⟩
theorem uNa {g : Gl} (h : uDg uAL g=0) : GlOk g:=by
 unfold uDg at h
 split at h
 ·simp at h
 rename_i h1
 split at h
 ·simp at h
 rename_i h2
 split at h
 ·simp at h
 rename_i h3
 split at h
 ·simp at h
 rename_i h4
 have h5:=errs_zero.1 h
 refine ⟨by omega,by omega,?_,fun ha=>?_,fun ha=>?_,?_,?_,fun t ht=>uMJ (h5 t ht)⟩
 ·cases hz : uAL g.role with
  | true=>rfl
  | false=>exact absurd (.inl hz) h2
 ·cases hz : uAL g.wth with
  | true=>rfl
  | false=>exact absurd (.inr ⟨ha,hz⟩) h2
 ·exact Decidable.byContradiction fun q=>h3 ⟨ha,q⟩
 ·cases ha : uBF g.kind with
  | true=>exact Decidable.byContradiction fun q=>h4 (.inl ⟨ha,by omega⟩)
  | false=>exact Decidable.byContradiction fun q=>h4 (.inr ⟨ha,by omega⟩)
 ·cases ha : uBF g.kind with
  | true=>exact Decidable.byContradiction fun q=>h4 (.inl ⟨ha,by omega⟩)
  | false=>exact Decidable.byContradiction fun q=>h4 (.inr ⟨ha,by omega⟩)
theorem uNU {n : Nar} (h : cntE n=0) : 2≤n.roles.length∧n.roles.length≤4∧n.fresh.length≤12∧n.tags.length≤8∧1≤n.steps.length∧n.steps.length≤8∧n.goals.length≤8:=by
 unfold cntE at h
 repeat' split at h
 all_goals first
  | (simp at h; done)
  | omega
theorem uNT {n : Nar} (h : narE uAL n=0) : NarOk n:=by
 unfold narE at h
 split at h
 ·rename_i hz; exact absurd h hz
 rename_i h1
 split at h
 ·rename_i hz; exact absurd h hz
 rename_i h2
 have h1:=Decidable.not_not.1 h1
 have h2:=errs_zero.1 (Decidable.not_not.1 h2)
 have h3:=errs_zero.1 h
 unfold uGA at h1
 split at h1
 ·simp at h1
 rename_i a1
 split at h1
 ·rename_i hz; exact absurd h1 hz
 rename_i a2
 split at h1
 ·simp at h1
 rename_i a3
 split at h1
 ·rename_i hz; exact absurd h1 hz
 rename_i a4
 split at h1
 ·simp at h1
 rename_i a5
 obtain ⟨c1,c2,c3,c4,c5,c6,c7⟩:=uNU (Decidable.not_not.1 a2)
 have a4:=errs_zero.1 (Decidable.not_not.1 a4)
 refine ⟨by simpa using a1,c1,c2,fun w hw=>List.all_eq_true.1 (by simpa using a3) w hw,c3,fun f hf=>?_,c4,fun w hw=>List.all_eq_true.1 (by simpa using a5) w hw,c5,c6,fun s hs=>?_,c7,fun g hg=>uNa (h3 g hg)⟩
 ·have := a4 f hf
  unfold frE at this
  split at this
  ·simp at this
  rename_i q
  split at this
  ·simp at this
  ·refine ⟨?_,?_,by omega,by omega⟩
   ·cases hz : uAL f.role with
    | true=>rfl
    | false=>exact absurd (.inl hz) q
   ·cases hz : uAL f.name with
    | true=>rfl
    | false=>exact absurd (.inr hz) q
 ·have := h2 s hs
  unfold spE at this
  split at this
  ·simp at this
  rename_i q
  refine ⟨?_,?_,uMJ this⟩
  ·cases hz : uAL s.frm with
   | true=>rfl
   | false=>exact absurd (.inl hz) q
  ·cases hz : uAL s.dst with
   | true=>rfl
   | false=>exact absurd (.inr hz) q
theorem uCs {w : List UInt8} (h : uAL w=true) : w.length≤24:=(uGU h).2.2.2
theorem MsgOk.ok {t : T} (h : MsgOk t) : okB t=true:=(uIk h.raw).1
theorem MsgOk.len {t : T} (h : MsgOk t) : (uBs t).length≤1120 := by have := uFf h.ok; have := h.size; omega
theorem uI5 : ∀ {l : List T} {M : Nat},(∀ t ∈ l,t.size≤M)→T.sizes l≤M * l.length
 | [],M,_=>by simp [T.sizes]
 | t :: l,M,h=>by
  have h1:=h t (by simp)
  have h2:=uI5 (M:=M) fun x hx=>h x (List.mem_cons_of_mem t hx)
  rw [T.sizes,List.length_cons,Nat.mul_succ]; omega
theorem GlOk.sizes {g : Gl} (h : GlOk g) : T.sizes g.data≤160:=by
 have := uI5 (M := 40) fun t ht=>(h.data t ht).size
 have := h.d2; omega
theorem GlOk.oks {g : Gl} (h : GlOk g) : ∀ t ∈ g.data,okB t=true:=fun t ht=>(h.data t ht).ok
theorem GlOk.len {g : Gl} (h : GlOk g) : (uCy g.data).length≤4480 := by have := uI1 h.oks; have := h.sizes; omega
theorem GlOk.wth {g : Gl} (h : GlOk g) : g.wth.length≤24:=by
 cases ha : uBF g.kind with
 | true=>exact uCs (h.w1 ha)
 | false=>rw [h.w0 ha]; simp
theorem uIn (fs : List Fs) : ∀ k,k≤fs.length → ∀ i ∈ frI fs k,∃ r l,i = .fresh r l∧l≠[]∧l.length≤k ∧ ∀ p ∈ l,∃ f ∈ fs,p=f.pr∧f.role=r
 | 0,_,i,h=>by simp [frI] at h
 | k + 1,hk,i,h=>by
  have ih:=uIn fs k (by omega)
  have hm : fs.getD k default ∈ fs:=by
   rw [List.getD_eq_getElem?_getD,List.getElem?_eq_getElem (by omega)]; exact List.getElem_mem _
  by_cases hs : uD9 fs k
  ·obtain ⟨I,l,_,h2,h3⟩:=uGr hs
   rw [h3] at h
   rw [h2] at ih
   rcases List.mem_append.1 h with q | q
   ·obtain ⟨r,l',e1,e2,e3,e4⟩:=ih i (by simp [q])
    exact ⟨r,l',e1,e2,by omega,e4⟩
   ·obtain ⟨r,l',e1,e2,e3,e4⟩:=ih _ (List.mem_append.2 (.inr (List.mem_singleton.2 rfl)))
    simp only [Itm.fresh.injEq] at e1
    obtain ⟨rfl,rfl⟩:=e1
    refine ⟨_,_,List.mem_singleton.1 q,by simp,by simp only [List.length_append,List.length_singleton]; omega,fun p hp=>?_⟩
    rcases List.mem_append.1 hp with z | z
    ·exact e4 p z
    ·exact ⟨_,hm,List.mem_singleton.1 z,rfl⟩
  ·rw [uIo hs] at h
   rcases List.mem_append.1 h with q | q
   ·obtain ⟨r,l',e1,e2,e3,e4⟩:=ih i q
    exact ⟨r,l',e1,e2,by omega,e4⟩
   ·refine ⟨_,_,List.mem_singleton.1 q,by simp,by simp,fun p hp=>⟨_,hm,List.mem_singleton.1 hp,rfl⟩⟩
def FsOk (fs : List Fs) : Prop:=∀ f ∈ fs,uAL f.role=true∧uAL f.name=true∧2≤f.sort∧f.sort≤4
theorem uNL {fs : List Fs} (h : FsOk fs) {k : Nat} (hk : k≤fs.length) : ∀ i ∈ frI fs k,i.ok:=by
 intro i hi
 obtain ⟨r,l,rfl,h2,h3,h4⟩:=uIn fs k hk i hi
 refine ⟨?_,h2,fun p hp=>?_⟩
 ·obtain ⟨p,q,rfl⟩ : ∃ p q,l=p :: q:=by
   cases l with
   | nil=>exact absurd rfl h2
   | cons p q=>exact ⟨p,q,rfl⟩
  obtain ⟨f,hf,_,e⟩:=h4 p (by simp)
  rw [← e]; exact (h f hf).1
 ·obtain ⟨f,hf,e,_⟩:=h4 p hp
  subst e
  exact ⟨(h f hf).2.1,(h f hf).2.2.1,(h f hf).2.2.2⟩
theorem uMr {L : List (List UInt8)} {M : Nat} (h : ∀ x ∈ L,x.length≤M) : uDZ L≤(M + 2) * L.length:=by
 induction L with
 | nil=>simp [uDZ]
 | cons x L ih =>
  have h1:=h x (by simp)
  have h2:=ih fun y hy=>h y (by simp [hy])
  simp only [uDZ,List.map_cons,List.sum_cons,List.length_cons,Nat.mul_succ] at h2 ⊢
  omega
theorem uKy {L : List (List UInt8)} {M : Nat} (h : ∀ x ∈ L,x.length≤M) : (Lib.join L [44,32]).length≤(M + 2) * L.length:=Nat.le_trans (uEm L).1 (uMr h)
theorem uK2 (k : Int) : (uHu k).length≤5:=by
 unfold uHu
 have : ∀ j : Nat,(sortW.getD j []).length≤5:=by
  intro j
  match j with
  | 0=>decide
  | 1=>decide
  | 2=>decide
  | j + 3=>simp [sortW,List.getD_eq_getElem?_getD]
 exact this _
theorem uJg {fs : List Fs} (h : FsOk fs) {k : Nat} (hk : k≤fs.length) (h12 : fs.length≤12) : ∀ i ∈ frI fs k,i.text.length≤500:=by
 intro i hi
 have ho:=uNL h hk i hi
 obtain ⟨r,l,rfl,h2,h3,h4⟩:=uIn fs k hk i hi
 obtain ⟨o1,o2,o3⟩:=ho
 have h5:=uCs o1
 have h6 : (Lib.join (l.map fsW) [44,32]).length≤(30 + 2) * l.length:=by
  have := uKy (L := l.map fsW) (M := 30) fun x hx=>by
   obtain ⟨p,hp,rfl⟩:=List.mem_map.1 hx
   have := uCs (o3 p hp).1
   have := uK2 p.2
   simp only [fsW,List.length_append,List.length_cons,List.length_nil]; omega
  rwa [List.length_map] at this
 have : hFresh.length=8:=rfl
 simp only [Itm.text,List.length_append,List.length_cons,List.length_nil]
 omega
theorem uDB {l : List (List UInt8)} (h : ∀ w ∈ l,uAL w=true) : (Lib.join l [44,32]).length≤26 * l.length:=uKy fun x hx=>uCs (h x hx)
theorem uLn {s : Sp} (h1 : uAL s.frm=true) (h2 : uAL s.dst=true) (h3 : MsgOk s.msg) : (Itm.step s).text.length≤1300:=by
 have a:=uCs h1
 have b:=uCs h2
 have c:=h3.len
 have : hMsg.length=10:=rfl
 have : arrow.length=4:=rfl
 simp only [Itm.text,List.length_append,List.length_cons,List.length_nil]; omega
theorem uK3 (k : Int) : (uGo k).length≤7:=by
 unfold uGo
 have : ∀ j : Nat,(kindW.getD j []).length≤7:=by
  intro j
  match j with
  | 0=>decide
  | 1=>decide
  | 2=>decide
  | 3=>decide
  | 4=>decide
  | j + 5=>simp [kindW,List.getD_eq_getElem?_getD]
 exact this _
theorem uGR (g : Gl) : (Itm.goal g).text=hGoal++(uGY g++[59]):=by
 simp only [Itm.text,uGY,uGo]
 split <;> simp
theorem uFj {g : Gl} (h : GlOk g) : (Itm.goal g).text.length≤4600:=by
 have a:=uCs h.role
 have b:=h.wth
 have c:=h.len
 have d:=uK3 g.kind
 have : hGoal.length=7:=rfl
 simp only [Itm.text,List.length_append,List.length_cons,List.length_nil]
 split <;> (simp only [List.length_append,List.length_cons,List.length_nil]; omega)
theorem NarOk.itm_len {n : Nar} (h : NarOk n) : n.itms.length≤30:=by
 have := uER n.fresh n.fresh.length
 have := h.f2
 have := h.s2
 have := h.g2
 unfold Nar.itms
 split <;> (simp only [List.length_append,List.length_map,List.length_singleton,List.length_nil]; omega)
theorem NarOk.lines_len {n : Nar} (h : NarOk n) : n.lines.length≤32:=by
 have := h.itm_len
 simp only [Nar.lines,List.length_append,List.length_map,List.length_singleton]; omega
theorem uNr (L : List (List UInt8)) {M : Nat} (h : ∀ x ∈ L,x.length≤M) : (nl L).length≤(M + 1) * L.length:=by
 induction L with
 | nil=>simp [nl]
 | cons x L ih =>
  have h1:=h x (by simp)
  have h2:=ih fun y hy=>h y (by simp [hy])
  have e : nl (x :: L)=x++([10]++nl L):=by simp [nl]
  rw [e]
  simp only [List.length_append,List.length_cons,List.length_nil,Nat.mul_succ]
  omega
theorem uKm {α : Type} (f : α→List UInt8) (l : List α) {M : Nat} (h : ∀ x ∈ l,(f x).length≤M) : (nl (l.map f)).length≤(M + 1) * l.length:=by
 have := uNr (l.map f) (M := M) fun x hx=>by
  obtain ⟨y,hy,rfl⟩:=List.mem_map.1 hx; exact h y hy
 rwa [List.length_map] at this
theorem NarOk.text_len {n : Nar} (h : NarOk n) : n.text.length≤60000:=by
 rw [n.text_eq]
 have e : n.lines=[uHc n]++([(Itm.roles n.roles).text]++((frI n.fresh n.fresh.length).map Itm.text++((if n.tags=[] then [] else [.tags n.tags]).map Itm.text++(n.steps.map (fun s=>(Itm.step s).text)++(n.goals.map (fun g=>(Itm.goal g).text)++[[125]]))))):=by
  unfold Nar.lines Nar.itms
  simp [List.map_map,Function.comp_def]
 rw [e]
 simp only [uNx,List.length_append]
 have h1 : (nl [uHc n]).length≤60:=by
  have := uCs h.name
  have : hProt.length=9:=rfl
  simp only [nl,uHc,List.map_cons,List.map_nil,List.flatten_cons,List.flatten_nil,List.length_append,List.length_cons,List.length_nil]; omega
 have h2 : (nl [(Itm.roles n.roles).text]).length≤200:=by
  have := uDB h.roles
  have := h.r2
  have : hRole.length=7:=rfl
  simp only [nl,Itm.text,List.map_cons,List.map_nil,List.flatten_cons,List.flatten_nil,List.length_append,List.length_cons,List.length_nil]; omega
 have h3:=uKm Itm.text (frI n.fresh n.fresh.length) (uJg h.fresh (Nat.le_refl _) h.f2)
 have h3':=uER n.fresh n.fresh.length
 have h4 : (nl ((if n.tags=[] then [] else [.tags n.tags]).map Itm.text)).length≤300:=by
  split
  ·simp [nl]
  ·have := uDB h.tags
   have := h.t2
   have : hTag.length=6:=rfl
   simp only [nl,Itm.text,List.map_cons,List.map_nil,List.flatten_cons,List.flatten_nil,List.length_append,List.length_cons,List.length_nil]; omega
 have h5:=uKm (fun s=>(Itm.step s).text) n.steps (M:=1300) fun s hs=>by
  obtain ⟨s1,s2,s3⟩:=h.steps s hs
  exact uLn s1 s2 s3
 have h6:=uKm (fun g=>(Itm.goal g).text) n.goals (M:=4600) fun g hg=>uFj (h.goals g hg)
 have h7 : (nl [[125]]).length=2:=rfl
 have := h.f2
 have := h.s2
 have := h.g2
 omega
end Go.Proofs.YtnjjdbapadkomaaGreatDoor
namespace Go.Proofs.YtnjjdbapadkomaaGreatDoor
open Go Go.Abs
def SmT (l l' : List Tk) : Prop:=l.length=l'.length ∧ ∀ k,(l.getD k tk0).kind=(l'.getD k tk0).kind∧(l.getD k tk0).text=(l'.getD k tk0).text
theorem uKV (l : List Tk) (k : Nat) : (l.getD k tk0).nl false=(l.map (·.nl false)).getD k tk0:=by
 rw [List.getD_eq_getElem?_getD,List.getD_eq_getElem?_getD,List.getElem?_map]
 cases l[k]? <;> rfl
theorem SmT.of_nl {l l' : List Tk} (h : l.map (·.nl false)=l'.map (·.nl false)) : SmT l l':=by
 refine ⟨by have := congrArg List.length h; simpa using this,fun k=>?_⟩
 have e : (l.getD k tk0).nl false=(l'.getD k tk0).nl false:=by rw [uKV,uKV,h]
 have e1 : ((l.getD k tk0).nl false).kind=((l'.getD k tk0).nl false).kind:=by rw [e]
 have e2 : ((l.getD k tk0).nl false).text=((l'.getD k tk0).nl false).text:=by rw [e]
 exact ⟨e1,e2⟩
theorem uH8 {l l' : List Tk} (h : SmT l l') : symQ l=symQ l':=by
 funext p c
 unfold symQ
 rw [h.1,(h.2 _).1,(h.2 _).2]
theorem uNf {l l' : List Tk} (h : SmT l l') : namQ l=namQ l':=by
 funext p ws
 unfold namQ
 rw [h.1,(h.2 _).1,(h.2 _).2]
theorem uMd {l l' : List Tk} (h : SmT l l') : uAN l=uAN l':=by
 funext c p
 unfold uAN
 rw [uH8 h]
theorem uMC {l l' : List Tk} (h : SmT l l') : uAv l=uAv l':=by
 funext ws p
 unfold uAv
 rw [uNf h,(h.2 _).2]
theorem uIT {α : Type} {l l' : List Tk} (h : SmT l l') (f : PS→α × PS) : ∀ (n : Nat) (p : PS) (out : List α),uBr l f n p out=uBr l' f n p out
 | 0,p,out=>rfl
 | n + 1,p,out=>by
  rw [uBr,uBr,uH8 h,uIT h f n]
theorem uMI {α : Type} {l l' : List Tk} (h : SmT l l') (f : PS→α × PS) : uAX l f=uAX l' f:=by
 funext p
 unfold uAX
 rw [h.1,uIT h]
theorem uJI {l l' : List Tk} (h : SmT l l') : ∀ n : Nat,uAO l n=uAO l' n
 | 0=>by funext p; rfl
 | n + 1=>by
  funext p
  rw [uAO,uAO,uH8 h,uMC h,uMd h,uJI h n,uMI h]
theorem uMQ {l l' : List Tk} (h : SmT l l') (p : PS) : (endE l p).2=(endE l' p).2∧((endE l p).2=0→endE l p=(0,0)):=by
 unfold endE
 rw [h.1]
 split
 ·exact ⟨rfl,fun q=>by simp at q⟩
 ·exact ⟨rfl,fun _=>rfl⟩
theorem map_none {α β : Type} (f : Itm→List β) (g : α→Itm) (hf : ∀ x,f (g x)=[]) (l : List α) : (l.map g).flatMap f=[]:=by
 rw [List.flatMap_eq_nil_iff]
 intro i hi
 obtain ⟨x,_,rfl⟩:=List.mem_map.1 hi
 exact hf x
theorem uK4 {t : T} (h : uCI uAL t=0) : (tokP (uBs t)).2=(0,0)∧(uAO (tokP (uBs t)).1 ((tokP (uBs t)).1.length + 1) ⟨0,false⟩).1=t ∧
  endE (tokP (uBs t)).1 (uAO (tokP (uBs t)).1 ((tokP (uBs t)).1.length + 1) ⟨0,false⟩).2=(0,0):=by
 have hg:=uNw h
 obtain ⟨ho,hz⟩:=uIk h
 have hl:=uFf ho
 obtain ⟨t1,t2⟩:=(uMi hg).end' (by omega)
 have hp : Pln (tkE t):=uF4 t.size t (Nat.le_refl _)
 have hn : (tkE t).map (·.nl false)=tkE t:=by
  rw [List.map_congr_left (g:=id),List.map_id]
  intro u hu
  obtain ⟨q1,q2,q3⟩:=hp u hu
  cases u
  simp only at q3
  subst q3
  rfl
 have hsm : SmT (tokP (uBs t)).1 (tkE t):=SmT.of_nl (by rw [t2,hn])
 have hr:=uEI (tkE t) t.size t (Nat.le_refl _) hg ((tkE t).length + 1) ⟨0,false⟩ []
 refine ⟨t1,?_⟩
 rw [uJI hsm,hsm.1]
 obtain ⟨r1,r2⟩:=hr ⟨rfl,Nat.zero_le _,by simp⟩ (by simp) (fun r q=>by cases q) (by rw [List.append_nil]; exact hp)
 refine ⟨r1,?_⟩
 have e:=uMQ hsm (uAO (tkE t) ((tkE t).length + 1) ⟨0,false⟩).2
 have h0 : endE (tkE t) (uAO (tkE t) ((tkE t).length + 1) ⟨0,false⟩).2=(0,0):=by
  have hl:=r2.len
  unfold endE
  rw [if_neg (by rintro (q | q); { rw [r2.good] at q; cases q }; { simp at hl; omega })]
 exact e.2 (by rw [e.1,h0])
end Go.Proofs.YtnjjdbapadkomaaGreatDoor
namespace Go.Proofs.YtnjjdbapadkomaaGreatDoor
open Go Go.Abs
theorem uFM : ∀ (l : List UInt8),Op.bytesLess l l=false
 | []=>rfl
 | x :: xs=>by
  have := uFM xs
  simp [Op.bytesLess,this]
theorem uJC (a : Int) : uBL a a=0:=by simp [uBL]
mutual
theorem T.cmp_self : ∀ a : T,a.cmp a=0
 | .mk k n s ks=>by
  have h0 : T.cmp0 (.mk k n s ks) (.mk k n s ks)=0:=by simp [T.cmp0,uJC,uFM]
  rw [T.cmp,if_neg (by simp [h0])]
  exact T.cmps_self ks
theorem T.cmps_self : ∀ l : List T,T.cmps l l=0
 | []=>rfl
 | x :: xs=>by
  rw [T.cmps,if_neg (by simp [T.cmp_self x])]
  exact T.cmps_self xs
end
end Go.Proofs.YtnjjdbapadkomaaGreatDoor
namespace Go.Proofs.YtnjjdbapadkomaaGreatDoor
open Go Go.Abs
theorem uHU {α : Type} {l : List Tk} {f : PS→α × PS} (hf : Fwd l f) : ∀ (n : Nat) (p : PS) (out : List α),(uBr l f n p out).1.length + p.at'≤out.length + (uBr l f n p out).2.at'
 | 0,p,out=>by simp [uBr]
 | n + 1,p,out=>by
  rw [uBr]
  split
  ·have h1:=(hf p.go).1
   have h2:=uHU hf n (f p.go).2 (out++[(f p.go).1])
   have hg : p.go.at'=p.at' + 1:=rfl
   rw [List.length_append,List.length_singleton] at h2
   omega
  ·simp
theorem uEa {α : Type} {l : List Tk} {f : PS→α × PS} (hf : Fwd l f) (p : PS) : (uAX l f p).1.length + p.at'≤1 + (uAX l f p).2.at':=by
 have h1:=(hf p).1
 have h2:=uHU hf (l.length + 1) (f p).2 [(f p).1]
 unfold uAX
 rw [List.length_singleton] at h2
 omega
theorem uG6 (l : List Tk) (role : List UInt8) : ∀ (n : Nat) (p : PS) (out : List Fs),(uCd l role n p out).1.length + p.at'≤out.length + 1 + (uCd l role n p out).2.at'
 | 0,p,out=>by simp [uCd]
 | n + 1,p,out=>by
  have h1:=(uA3 l [] p).1
  have h2:=(uA3 l sortW (uAv l [] p).2).1
  rw [uCd]
  split
  ·dsimp only; omega
  split
  ·have hg : (uAv l sortW (uAv l [] p).2).2.go.at'=(uAv l sortW (uAv l [] p).2).2.at' + 1:=rfl
   have h4:=uG6 l role n (uAv l sortW (uAv l [] p).2).2.go (out++[⟨role,(uAv l [] p).1,2 + uBC sortW (uAv l sortW (uAv l [] p).2).1⟩])
   rw [List.length_append,List.length_singleton] at h4
   omega
  ·simp only [List.length_append,List.length_singleton]; omega
theorem uKq (l : List Tk) (p : PS) (out : List Fs) : (uB7 l p out).1.length + p.at'≤out.length + 1 + (uB7 l p out).2.at':=by
 have h1:=(uA3 l [] p).1
 have h2:=(uBm l [58] (uAv l [] p).2).1
 have h3:=uG6 l (uAv l [] p).1 (l.length + 1) (uAN l [58] (uAv l [] p).2) out
 unfold uB7
 omega
structure Nar.Le (n : Nar) (k : Nat) : Prop where
 roles : n.roles.length≤k
 fresh : n.fresh.length≤k
 tags : n.tags.length≤k
 steps : n.steps.length≤k
 goals : n.goals.length≤k
theorem Nar.Le.mono {n : Nar} {k j : Nat} (h : n.Le k) (hj : k≤j) : n.Le j:=⟨Nat.le_trans h.roles hj,Nat.le_trans h.fresh hj,Nat.le_trans h.tags hj,Nat.le_trans h.steps hj,Nat.le_trans h.goals hj⟩
theorem uLB {l : List Tk} {ws : List (List UInt8)} {p : PS} (h : (uAv l ws p).1≠[]) : (uAv l ws p).2.at'=p.at' + 1:=by
 cases hq : namQ l p ws with
 | true=>rw [uAv,if_pos hq]; rfl
 | false=>rw [uAv,hq] at h; exact absurd rfl h
theorem uMg {l : List Tk} {n : Nar} {line : Int} {w : List UInt8} {q : PS} {k : Nat} (h : n.Le k) (hk : w≠[]→k + 1≤q.at') (hq : k≤q.at') : (uB4 l n line w q).1.Le (uB4 l n line w q).2.at':=by
 have hz:=uGg l n line w q
 unfold uB4 at hz ⊢
 split
 ·rename_i hw
  rw [if_pos hw] at hz
  have h1 : (uBN l q).1.length + q.at'≤1 + (uBN l q).2.at':=uEa (uA3 l []) q
  have h2:=hk (by rw [hw]; decide)
  have h3:=hz.1
  have := h.mono (j := (uBN l q).2.at') (by dsimp only at h3; omega)
  have h4:=h.roles
  exact ⟨by dsimp only; rw [List.length_append]; omega,this.fresh,this.tags,this.steps,this.goals⟩
 rename_i hw1
 rw [if_neg hw1] at hz
 split
 ·rename_i hw
  rw [if_pos hw] at hz
  have h1:=uKq l q n.fresh
  have h2:=hk (by rw [hw]; decide)
  have h3:=hz.1
  have := h.mono (j := (uB7 l q n.fresh).2.at') (by dsimp only at h3; omega)
  have h4:=h.fresh
  exact ⟨this.roles,by dsimp only; omega,this.tags,this.steps,this.goals⟩
 rename_i hw2
 rw [if_neg hw2] at hz
 split
 ·rename_i hw
  rw [if_pos hw] at hz
  have h1 : (uBN l q).1.length + q.at'≤1 + (uBN l q).2.at':=uEa (uA3 l []) q
  have h2:=hk (by rw [hw]; decide)
  have h3:=hz.1
  have := h.mono (j := (uBN l q).2.at') (by dsimp only at h3; omega)
  have h4:=h.tags
  exact ⟨this.roles,this.fresh,by dsimp only; rw [List.length_append]; omega,this.steps,this.goals⟩
 rename_i hw3
 rw [if_neg hw3] at hz
 split
 ·rename_i hw
  rw [if_pos hw] at hz
  have h2:=hk (by rw [hw]; decide)
  have h3:=hz.1
  have := h.mono (j := (uCS l line q).2.at') (by dsimp only at h3; omega)
  have h4:=h.steps
  exact ⟨this.roles,this.fresh,this.tags,by dsimp only at h3 ⊢; rw [List.length_append,List.length_singleton]; omega,this.goals⟩
 rename_i hw4
 rw [if_neg hw4] at hz
 split
 ·rename_i hw
  rw [if_pos hw] at hz
  have h2:=hk (by rw [hw]; decide)
  have h3:=hz.1
  have := h.mono (j := (uCt l line q).2.at') (by dsimp only at h3; omega)
  have h4:=h.goals
  exact ⟨this.roles,this.fresh,this.tags,this.steps,by dsimp only at h3 ⊢; rw [List.length_append,List.length_singleton]; omega⟩
 exact h.mono hq
theorem uMF {l : List Tk} {n : Nar} {p : PS} (h : n.Le p.at') : (uCq l n p).1.Le (uCq l n p).2.at':=by
 have h1:=(uA3 l uCa p).1
 have h2:=uMg (l:=l) (line:=uCM l p) (w:=(uAv l uCa p).1) (q:=(uAv l uCa p).2) h (fun hw=>by rw [uLB hw]; exact Nat.le_refl _) h1
 exact h2.mono (uBm l [59] _).1
theorem uG7 (t : T) : ∀ l : List T,T.sizes (l++[t])=T.sizes l + t.size
 | []=>by simp [T.sizes]
 | x :: l=>by rw [List.cons_append,T.sizes,T.sizes,uG7 t l]; omega
theorem uHs : ∀ l : List T,l≠[]→(tupT l).size + 1=T.sizes l + l.length
 | [],h=>absurd rfl h
 | [t],_=>by simp [tupT,T.sizes]
 | t :: u :: l,_=>by
  have ih:=uHs (u :: l) (by simp)
  have e : (uH1 t (tupT (u :: l))).size=1 + (t.size + (tupT (u :: l)).size):=by rw [T.size_eq]; show 1 + T.sizes [t,tupT (u :: l)]=_; simp [T.sizes]
  rw [tupT,e,T.sizes,List.length_cons (a:=t)]
  omega
def Szd (f : PS→T × PS) : Prop:=∀ p : PS,(f p).1.size + 2 * p.at'≤2 * (f p).2.at' + 1
theorem uGX {l : List Tk} {f : PS→T × PS} (hs : Szd f) : ∀ (n : Nat) (p : PS) (out : List T),T.sizes (uBr l f n p out).1 + (uBr l f n p out).1.length + 2 * p.at'≤T.sizes out + out.length + 2 * (uBr l f n p out).2.at'
 | 0,p,out=>by simp [uBr]
 | n + 1,p,out=>by
  rw [uBr]
  split
  ·have h1:=hs p.go
   have h2:=uGX (l:=l) hs n (f p.go).2 (out++[(f p.go).1])
   have hg : p.go.at'=p.at' + 1:=rfl
   rw [List.length_append,List.length_singleton,uG7] at h2
   omega
  ·simp
theorem uEN {l : List Tk} {f : PS→T × PS} (hs : Szd f) (p : PS) : T.sizes (uAX l f p).1 + (uAX l f p).1.length + 2 * p.at'≤2 + 2 * (uAX l f p).2.at':=by
 have h1:=hs p
 have h2:=uGX (l:=l) hs (l.length + 1) (f p).2 [(f p).1]
 unfold uAX
 rw [List.length_singleton,T.sizes,T.sizes] at h2
 omega
theorem uKD {α : Type} {l : List Tk} {f : PS→α × PS} : ∀ (n : Nat) (p : PS) (out : List α),out≠[]→(uBr l f n p out).1≠[]
 | 0,p,out,h=>h
 | n + 1,p,out,h=>by
  rw [uBr]
  split
  ·exact uKD n _ _ (by simp)
  ·exact h
theorem uCL (l : List Tk) : ∀ n : Nat,Szd (uAO l n)
 | 0,p=>by
  have : (default : T).size=1:=by rw [T.size_eq]; rfl
  show (default : T).size + _≤_
  rw [this]; show 1 + 2 * p.at'≤2 * p.at' + 1; omega
 | n + 1,p=>by
  have ih:=uCL l n
  have hf:=uB0 l n
  rw [uAO]
  split
  ·have hg : p.go.at'=p.at' + 1:=rfl
   have h1:=ih p.go
   have h2:=(uBm l [44] (uAO l n p.go).2).1
   have h3:=uEN (l:=l) ih (uAN l [44] (uAO l n p.go).2)
   have h4:=(uBm l [62] (uAX l (uAO l n) (uAN l [44] (uAO l n p.go).2)).2).1
   have h5:=uHs ((uAO l n p.go).1 :: (uAX l (uAO l n) (uAN l [44] (uAO l n p.go).2)).1) (by simp)
   rw [T.sizes,List.length_cons] at h5
   dsimp only
   omega
  ·have h1:=(uA3 l [] p).1
   split
   ·have hg : (uAv l [] p).2.go.at'=(uAv l [] p).2.at' + 1:=rfl
    split
    ·have hg2 : (uAv l [] p).2.go.go.at'=(uAv l [] p).2.at' + 2:=rfl
     have : (⟨3,(uAv l [] p).1,0,[]⟩ : T).size=1:=by rw [T.size_eq]; rfl
     dsimp only; omega
    ·have h3:=uEN (l:=l) ih (uAv l [] p).2.go
     have h4:=(uBm l [41] (uAX l (uAO l n) (uAv l [] p).2.go).2).1
     have h5 : (uAX l (uAO l n) (uAv l [] p).2.go).1≠[]:=uKD _ _ _ (by simp)
     have h6:=List.length_pos_iff.2 h5
     have : (⟨3,(uAv l [] p).1,0,(uAX l (uAO l n) (uAv l [] p).2.go).1⟩ : T).size=1 + T.sizes (uAX l (uAO l n) (uAv l [] p).2.go).1:=by rw [T.size_eq]; rfl
     dsimp only; omega
   ·have : (⟨2,(uAv l [] p).1,0,[]⟩ : T).size=1:=by rw [T.size_eq]; rfl
    dsimp only; omega
structure Nar.Sm (n : Nar) (M : Nat) : Prop where
 steps : ∀ s ∈ n.steps,s.msg.size≤M
 goals : ∀ g ∈ n.goals,T.sizes g.data≤M
theorem uKh {l : List Tk} (line : Int) {p : PS} (hp : p.at'≤l.length) : (uCS l line p).1.msg.size≤2 * l.length + 2:=by
 have h:=(uGC l line p).2 hp
 have := uCL l (l.length + 1) (uAN l [58] (uAv l [] (uAN l [62] (uAN l [45] (uAv l [] p).2))).2)
 have h2 : (uAO l (l.length + 1) (uAN l [58] (uAv l [] (uAN l [62] (uAN l [45] (uAv l [] p).2))).2)).2.at'≤l.length:=h
 show (uAO l (l.length + 1) (uAN l [58] (uAv l [] (uAN l [62] (uAN l [45] (uAv l [] p).2))).2)).1.size≤_
 omega
theorem uJQ {l : List Tk} (line : Int) {p : PS} (hp : p.at'≤l.length) : T.sizes (uCt l line p).1.data≤2 * l.length + 2:=by
 have h:=(uGq l line p).2 hp
 have := uEN (l := l) (uCL l (l.length + 1)) (uAN l [58] (if uBF (1 + uBC kindW (uAv l kindW p).1)=true then uAv l [] (uAv l [] (uAv l kindW p).2).2 else ([],(uAv l [] (uAv l kindW p).2).2)).2)
 have h2 : (uAX l (uAO l (l.length + 1)) (uAN l [58] (if uBF (1 + uBC kindW (uAv l kindW p).1)=true then uAv l [] (uAv l [] (uAv l kindW p).2).2 else ([],(uAv l [] (uAv l kindW p).2).2)).2)).2.at'≤l.length:=h
 show T.sizes (uAX l (uAO l (l.length + 1)) (uAN l [58] (if uBF (1 + uBC kindW (uAv l kindW p).1)=true then uAv l [] (uAv l [] (uAv l kindW p).2).2 else ([],(uAv l [] (uAv l kindW p).2).2)).2)).1≤_
 omega
theorem uMh {l : List Tk} {n : Nar} {p : PS} (h : n.Sm (2 * l.length + 2)) (hp : p.at'≤l.length) : (uCq l n p).1.Sm (2 * l.length + 2):=by
 have hq:=(uA3 l uCa p).2 hp
 show (uB4 l n (uCM l p) (uAv l uCa p).1 (uAv l uCa p).2).1.Sm _
 unfold uB4
 repeat' split
 ·exact ⟨h.steps,h.goals⟩
 ·exact ⟨h.steps,h.goals⟩
 ·exact ⟨h.steps,h.goals⟩
 ·refine ⟨fun s hs=>?_,h.goals⟩
  rcases List.mem_append.1 hs with q | q
  ·exact h.steps s q
  ·simp at q; subst q; exact uKh _ hq
 ·refine ⟨h.steps,fun g hg=>?_⟩
  rcases List.mem_append.1 hg with q | q
  ·exact h.goals g q
  ·simp at q; subst q; exact uJQ _ hq
 ·exact h
end Go.Proofs.YtnjjdbapadkomaaGreatDoor
namespace Go.Abs
variable {Z : Pg}
theorem uL9 {N : Nat} {ops : Array Oper} {st : St} {o : Oper} {d : Nat} {x : X} (hg : uA7 ops st o=some false) (hd : o.dst=some d) (hN : Nat.ble (d + 1) N=true) : Op1 Z N ops o st (st.put d (false,x)):=by
 intro E G a w hr hE K Q hK
 have hdN : d < E.nt:=by rw [hE.nt]; exact Nat.le_of_ble_eq_true hN
 rw [uBH hr hg,hd]
 rw [hd] at hK
 simp only [Bool.false_eq_true,if_false]
 exact hK G undef w (hr.put hdN (fun hf=>by simp at hf) (fun _=>rfl))
theorem uKT {N : Nat} {ops : Array Oper} {rest : List Oper} {K : St→Prop} {st : St} {o : Oper} {d : Nat} (x : X) (hg : uA7 ops st o=some false) (hd : o.dst=some d) (hN : Nat.ble (d + 1) N=true)
  (h : AL Z N ops rest K (st.put d (false,x))) : AL Z N ops (o :: rest) K st:=uDm (uL9 hg hd hN) h
end Go.Abs
namespace Go.Proofs.YtnjjdbapadkomaaGreatDoor
open Go Go.Abs
theorem uMS (l : List Tk) (hl : l.length≤2000000) (htup : ∀ ts : List T,0 < ts.length→ts.length≤3000000→Ctr sys 115 [xl ts] [] (xm (tupT ts)) none []) :
  ∀ (n : Nat) (p : PS),p.at'≤l.length→l.length - p.at' < n→Ctr sys 66 [xpp] [pbx l p] (xm (uAO l n p).1) none [pbx l (uAO l n p).2]:=by
 have htup2 : ∀ (ts : List T) (rs : List (List C)),rs=T.rows ts→0 < ts.length→ts.length≤3000000→Ctr sys 115 [.v (.c (.sl 4 rs))] [] (xm (tupT ts)) none []:=by
  intro ts rs h; subst h; exact htup ts
 intro n
 induction n with
 | zero=>intro p _ h; omega
 | succ n ih =>
  intro p hp hn
  have hrl:=Tk.rows_len l
  have hg : ∀ q : PS,q.go.at'=q.at' + 1:=fun _=>rfl
  refine uAA Tryz.func66 rfl rfl rfl rfl rfl rfl ?_;refine uAe (uAb ?_);refine uAs rfl (uAI rfl rfl rfl) ?_;refine uAf ?_;refine uAe ?_;refine uAe (uAb ?_);refine uAa rfl rfl rfl (uAc rfl gU) ?_;refine uAE (.o 0) rfl rfl rfl rfl rfl rfl (uBP _ _ _ (by omega) (by first | omega | (dsimp only; omega) | (simp only [PS.go]; omega))) rfl (by rfl) (by rfl) rfl rfl rfl ?_;refine uAf ?_;refine uAm rfl (fun hc=>?_) (fun hc=>?_)
  ·try simp only [nn,uAh,T.rows_len,Tk.rows_len] at hc
   have hlt:=(uBE hc).1
   have hs : symP l p [60]=p.go:=by rw [symP,if_pos hc]
   have he : uAO l (n + 1) p=(tupT ((uAO l n p.go).1 :: (uAX l (uAO l n) (uAN l [44] (uAO l n p.go).2)).1),uAN l [62] (uAX l (uAO l n) (uAN l [44] (uAO l n p.go).2)).2):=by rw [uAO,if_pos hc]
   have hgp:=hg p
   have a1:=uB0 l n p.go
   have a2:=uBm l [44] (uAO l n p.go).2
   generalize hq1 : (uAN l [44] (uAO l n p.go).2)=q1 at *
   rw [hs]
   refine uAe (uAb ?_);refine uAa rfl rfl rfl (uAc rfl gU) ?_;refine uAE (.o 0) rfl rfl rfl rfl rfl rfl (ih p.go (by omega) (by omega)) rfl (by rfl) (by rfl) rfl rfl rfl ?_;refine uAM (xs:=[_]) rfl rfl rfl rfl rfl rfl rfl rfl rfl gU rfl ?_;refine uAs rfl (uAK (.inr rfl) rfl rfl rfl) ?_;refine uAf ?_;refine uAn (s:=⟨[(0,_,_),(2,_,_),(3,_,_)],[(.l 2,_),(.o 0,_)],[(.t 3,_)],[]⟩) (uAj (⟨sx rfl,sx rfl,sx rfl,trivial⟩) (⟨sx rfl,sx rfl,trivial⟩) (⟨rfl,trivial⟩)) ?_;refine uAe (uAb ?_);refine uAa rfl rfl rfl (uAc rfl gU) ?_;refine uAE (.o 0) rfl rfl rfl rfl rfl rfl (uBd _ _ _ (by omega) (by first | omega | (dsimp only; omega) | (simp only [PS.go]; omega))) rfl (by rfl) (by rfl) rfl rfl rfl ?_;refine uAf ?_;refine uAe ?_;refine uAx ?_
   rw [hq1]
   refine uA6 (ι:=PS × List T) { t:=[(0,_,_),(2,_,_)],bx:=[(.l 2,_)],ow:=[(.t 3,_)] } (fun q=>[(3,true,xl q.2)]) (fun q=>[((.o 0),pbx l q.1)]) (fun q=>q1.at'≤q.1.at'∧q.1.at'≤l.length∧q.2.length≤q.1.at'∧1≤q.2.length ∧ ∃ k,l.length + 1≤k + q.1.at'∧(∃ o2,q.2=(uAO l n p.go).1 :: o2∧uBr l (uAO l n) k (uAO l n q.1).2 (o2++[(uAO l n q.1).1])=uAX l (uAO l n) q1)) (fun q=>l.length - q.1.at') ((q1,[(uAO l n p.go).1])) (⟨by simp,by dsimp only; omega,by dsimp only [List.length_singleton]; omega,by simp,_,by dsimp only; omega,[],rfl,rfl⟩) (uAj (⟨⟨_,rfl,by simp [T.rows_eq]⟩,⟨sx rfl,sx rfl,trivial⟩⟩) (⟨sx rfl,sx rfl,trivial⟩) (⟨rfl,trivial⟩)) ?_
   intro q hok
   dsimp only [List.cons_append,List.nil_append] at *
   obtain ⟨q,out⟩:=q
   dsimp only at hok ⊢
   obtain ⟨hq0,hq,ho,ho1,k,hk,o2,rfl,hi⟩:=hok
   have hqb : l.length - q.at' < n:=by omega
   have b1:=uB0 l n q
   have hih:=ih q hq hqb
   have hro:=T.rows_len ((uAO l n p.go).1 :: o2)
   obtain ⟨r,hr⟩ : ∃ r,uAO l n q=r:=⟨_,rfl⟩
   obtain ⟨t2,at2,bad2⟩:=r
   rw [hr] at hih b1 hi
   dsimp only at hih b1 hi
   have b2:=b1.2 hq
   have hne : o2++[t2]≠[]:=by simp
   cases bad2
   ·refine uAx ?_
    refine uAe (uAb ?_);refine uAs rfl (uAK (.inl rfl) rfl rfl rfl) ?_;refine uAa rfl rfl rfl (uAc rfl gU) ?_;refine uAE (.o 0) rfl rfl rfl rfl rfl rfl (hih) rfl (by rfl) (by rfl) rfl rfl rfl ?_;refine uAM (xs:=[_]) rfl rfl rfl rfl rfl rfl rfl rfl rfl gU rfl ?_;refine uAs rfl (uA5 rfl rfl rfl rfl rfl rfl rfl (by first | omega | (simp only [List.length_append,List.length_singleton,T.rows_len]; omega)) (by first | omega | (simp only [List.length_append,List.length_singleton,T.rows_len]; omega))) ?_;refine uAs rfl (uAK (.inr rfl) rfl rfl rfl) ?_;refine uAf ?_;refine uAn (s:=⟨[(0,_,_),(2,_,_),(3,_,_)],[(.l 2,_),(.o 0,_)],[(.t 3,_)],[]⟩) (uAj (⟨sx rfl,sx rfl,sx rfl,trivial⟩) (⟨sx rfl,sx rfl,trivial⟩) (⟨rfl,trivial⟩)) ?_;refine uAe (uAb ?_);refine uAa rfl rfl rfl (uAc rfl gU) ?_;refine uAa rfl rfl rfl (uAz rfl gU) ?_;refine uAa rfl rfl rfl (uAg rfl gU rfl rfl) ?_;refine uAa rfl rfl rfl (uAl rfl gU rfl rfl rfl rfl) ?_;refine uAa rfl rfl rfl (uAc rfl gU) ?_;refine uAa rfl rfl rfl (uAc rfl gU) ?_;refine uAE (.o 0) rfl rfl rfl rfl rfl rfl (uBP _ _ _ (by omega) (by first | omega | (dsimp only; omega) | (simp only [PS.go]; omega))) rfl (by rfl) (by rfl) rfl rfl rfl ?_;refine uAa rfl rfl rfl (uA0 rfl (fun hh=>hh)) ?_;refine uAa rfl rfl rfl (uAJ rfl rfl gU (fun _ hi=>gP rfl hi)) ?_
    refine uAf ?_;refine uAn (s:=⟨[(0,_,_),(2,_,_),(3,_,_),(25,_,_)],[(.l 2,_),(.o 0,_)],[(.t 3,_)],[]⟩) (uAj (⟨sx rfl,sx rfl,sx rfl,sx rfl,trivial⟩) (⟨sx rfl,sx rfl,trivial⟩) (⟨rfl,trivial⟩)) ?_;refine uAm rfl (fun hc2=>?_) (fun hc2=>?_)
    ·try simp only [nn,uAh,T.rows_len,Tk.rows_len] at hc2
     have hz : symQ l ⟨at2,false⟩ [44]=false:=by simpa using hc2
     have hs2 : symP l ⟨at2,false⟩ [44]=⟨at2,false⟩:=by rw [symP,hz]; rfl
     rw [uCz hz] at hi
     rw [hs2]
     refine uAP ?_
     repeat (first | refine uAH ?_ | refine uAF ?_ | refine uAD rfl ?_)
     refine uAe (uAb ?_);refine uAa rfl rfl rfl (uAc rfl gU) ?_;refine uAE (.o 0) rfl rfl rfl rfl rfl rfl (uBd _ _ _ (by omega) (by first | omega | (dsimp only; omega) | (simp only [PS.go]; omega))) rfl (by rfl) (by rfl) rfl rfl rfl ?_;refine uAf ?_;refine uAe (uAb ?_);refine uAa rfl rfl rfl (uAc rfl gU) ?_;refine uAw rfl rfl rfl rfl rfl rfl gU gU (htup2 ((uAO l n p.go).1 :: (o2++[t2])) _ (by simp [T.rows_eq]) (by simp) (by simp only [List.length_cons,List.length_append,List.length_nil] at ho ⊢; omega)) rfl ?_;refine uAs rfl (uAt rfl rfl rfl rfl rfl rfl rfl) ?_;refine uAf ?_;refine uAo ?_
     repeat (first | refine tR ?_ | refine bR ?_)
     refine uAr rfl ?_ (⟨⟨_,rfl,?_⟩,trivial⟩)
     (all_goals first | (rw [he,← hi]; done) | (rw [he,← hi]; rfl))
    ·try simp only [nn,uAh,T.rows_len,Tk.rows_len] at hc2
     have hz : symQ l ⟨at2,false⟩ [44]=true:=by simpa using hc2
     have hlt2:=(uBE hz).1
     have hs2 : symP l ⟨at2,false⟩ [44]=⟨at2 + 1,false⟩:=by rw [symP,if_pos hz]; rfl
     obtain ⟨k,rfl⟩ : ∃ j,k=j + 1:=⟨k - 1,by dsimp only at hlt2; omega⟩
     rw [uDT hz] at hi
     rw [hs2]
     dsimp only at hlt2
     refine uAq ?_;refine ⟨(⟨at2 + 1,false⟩,(uAO l n p.go).1 :: (o2++[t2])),?_,?_,uAj (⟨⟨_,rfl,?_⟩,⟨sx rfl,sx rfl,trivial⟩⟩) (⟨⟨_,rfl,?_⟩,⟨sx rfl,trivial⟩⟩) (⟨rfl,trivial⟩)⟩
     ·refine ⟨by dsimp only; omega,by dsimp only; omega,?_,by simp,k,by dsimp only; omega,o2++[t2],rfl,hi⟩
      simp only [List.length_cons,List.length_append,List.length_nil] at ho ⊢; omega
     ·dsimp only; omega
     ·exact tx (uEq _ _)
     ·rfl
   ·skip
    refine uAx ?_;refine uAe (uAb ?_);refine uAs rfl (uAK (.inl rfl) rfl rfl rfl) ?_;refine uAa rfl rfl rfl (uAc rfl gU) ?_;refine uAE (.o 0) rfl rfl rfl rfl rfl rfl (hih) rfl (by rfl) (by rfl) rfl rfl rfl ?_;refine uAM (xs:=[_]) rfl rfl rfl rfl rfl rfl rfl rfl rfl gU rfl ?_;refine uAs rfl (uA5 rfl rfl rfl rfl rfl rfl rfl (by first | omega | (simp only [List.length_append,List.length_singleton,T.rows_len]; omega)) (by first | omega | (simp only [List.length_append,List.length_singleton,T.rows_len]; omega))) ?_;refine uAs rfl (uAK (.inr rfl) rfl rfl rfl) ?_;refine uAf ?_;refine uAn (s:=⟨[(0,_,_),(2,_,_),(3,_,_)],[(.l 2,_),(.o 0,_)],[(.t 3,_)],[]⟩) (uAj (⟨sx rfl,sx rfl,sx rfl,trivial⟩) (⟨sx rfl,sx rfl,trivial⟩) (⟨rfl,trivial⟩)) ?_;refine uAe (uAb ?_);refine uAa rfl rfl rfl (uAc rfl gU) ?_;refine uAa rfl rfl rfl (uAz rfl gU) ?_;refine uAa rfl rfl rfl (uAg rfl gU rfl rfl) ?_;refine uAa rfl rfl rfl (uAl rfl gU rfl rfl rfl rfl) ?_;refine uAa rfl rfl rfl (uAc rfl gU) ?_;refine uAa rfl rfl rfl (uAc rfl gU) ?_;refine uKT (xb false) rfl rfl rfl ?_;refine uAa rfl rfl rfl (uA0 rfl (fun hh=>hh)) ?_;refine uAa rfl rfl rfl (uAJ rfl rfl gU (fun _ hi=>gP rfl hi)) ?_;refine uAf ?_;refine uAn (s:=⟨[(0,_,_),(2,_,_),(3,_,_),(25,_,_)],[(.l 2,_),(.o 0,_)],[(.t 3,_)],[]⟩) (uAj (⟨sx rfl,sx rfl,sx rfl,sx rfl,trivial⟩) (⟨sx rfl,sx rfl,trivial⟩) (⟨rfl,trivial⟩)) ?_
    refine uAm rfl (fun hc2=>?_) (fun hc2=>?_)
    ·try simp only [nn,uAh,T.rows_len,Tk.rows_len] at hc2
     have hz : symQ l ⟨at2,true⟩ [44]=false:=rfl
     rw [uCz hz] at hi
     refine uAP ?_
     repeat (first | refine uAH ?_ | refine uAF ?_ | refine uAD rfl ?_)
     refine uAe (uAb ?_);refine uAa rfl rfl rfl (uAc rfl gU) ?_;refine uAE (.o 0) rfl rfl rfl rfl rfl rfl (uBd _ _ _ (by omega) (by first | omega | (dsimp only; omega) | (simp only [PS.go]; omega))) rfl (by rfl) (by rfl) rfl rfl rfl ?_;refine uAf ?_;refine uAe (uAb ?_);refine uAa rfl rfl rfl (uAc rfl gU) ?_;refine uAw rfl rfl rfl rfl rfl rfl gU gU (htup2 ((uAO l n p.go).1 :: (o2++[t2])) _ (by simp [T.rows_eq]) (by simp) (by simp only [List.length_cons,List.length_append,List.length_nil] at ho ⊢; omega)) rfl ?_;refine uAs rfl (uAt rfl rfl rfl rfl rfl rfl rfl) ?_;refine uAf ?_;refine uAo ?_
     repeat (first | refine tR ?_ | refine bR ?_)
     refine uAr rfl ?_ (⟨⟨_,rfl,?_⟩,trivial⟩)
     (all_goals first | (rw [he,← hi]; done) | (rw [he,← hi]; rfl))
    ·exfalso
     simp at hc2
  ·try simp only [nn,uAh,T.rows_len,Tk.rows_len] at hc
   have hs : symP l p [60]=p:=by rw [symP,hc]; rfl
   have he : uAO l (n + 1) p=if symQ l (uAv l [] p).2 [40]=true then
     (if symQ l (uAv l [] p).2.go [41]=true then (⟨3,(uAv l [] p).1,0,[]⟩,(uAv l [] p).2.go.go)
     else (⟨3,(uAv l [] p).1,0,(uAX l (uAO l n) (uAv l [] p).2.go).1⟩,uAN l [41] (uAX l (uAO l n) (uAv l [] p).2.go).2))
    else (⟨2,(uAv l [] p).1,0,[]⟩,(uAv l [] p).2):=by rw [uAO,if_neg (by rw [hc]; simp)]
   have b1:=uA3 l [] p
   rw [hs]
   refine uAq ?_;refine uAe (uAb ?_);refine uAa rfl rfl rfl (uAc rfl gU) ?_;refine uAE (.o 0) rfl rfl rfl rfl rfl rfl (uBB l p [] (by omega) (by omega)) rfl (by rfl) (by rfl) rfl rfl rfl ?_;refine uAa rfl rfl rfl (uAS rfl Tryz.underlying39 rfl gU) ?_;refine uAs rfl (uAI rfl rfl rfl) ?_;refine uAs rfl (uAt rfl rfl rfl rfl rfl rfl rfl) ?_;refine uAf ?_;refine uAn (s:=⟨[(0,_,_),(2,_,_),(4,_,_)],[(.l 2,_),(.l 4,_),(.o 0,_)],[],[]⟩) (uAj (⟨sx rfl,sx rfl,sx rfl,trivial⟩) (⟨sx rfl,sx rfl,sx rfl,trivial⟩) trivial) ?_;refine uAe ?_;refine uAe (uAb ?_);refine uAa rfl rfl rfl (uAc rfl gU) ?_;refine uAE (.o 0) rfl rfl rfl rfl rfl rfl (uBP _ _ _ (by omega) (by first | omega | (dsimp only; omega) | (simp only [PS.go]; omega))) rfl (by rfl) (by rfl) rfl rfl rfl ?_;refine uAa rfl rfl rfl (uA0 rfl gU) ?_;refine uAf ?_;refine uAm rfl (fun hc2=>?_) (fun hc2=>?_)
   ·try simp only [nn,uAh,T.rows_len,Tk.rows_len] at hc2
    rw [if_neg (by rw [hc2]; simp)] at he
    have hs2 : symP l (uAv l [] p).2 [40]=(uAv l [] p).2:=by rw [symP,hc2]; rfl
    rw [hs2]
    refine uAe (uAb ?_);refine uAa rfl rfl rfl (uAp rfl gU rfl rfl rfl rfl rfl) ?_;refine uAs rfl (uAt rfl rfl rfl rfl rfl rfl rfl) ?_;refine uAf ?_;refine uAo ?_
    repeat (first | refine tR ?_ | refine bR ?_)
    refine uAr rfl ?_ (⟨⟨_,rfl,?_⟩,trivial⟩)
    (all_goals first | (rw [he]; done) | (rw [he]; rfl))
   ·try simp only [nn,uAh,T.rows_len,Tk.rows_len] at hc2
    rw [if_pos hc2] at he
    have hlt:=(uBE hc2).1
    have hg2:=hg (uAv l [] p).2
    have hs2 : symP l (uAv l [] p).2 [40]=(uAv l [] p).2.go:=by rw [symP,if_pos hc2]
    rw [hs2]
    refine uAq ?_;refine uAe (uAb ?_);refine uAa rfl rfl rfl (uAg rfl gU rfl rfl) ?_;refine uAs rfl (uAt rfl rfl rfl rfl rfl rfl rfl) ?_;refine uAf ?_;refine uAe ?_;refine uAe (uAb ?_);refine uAa rfl rfl rfl (uAc rfl gU) ?_;refine uAE (.o 0) rfl rfl rfl rfl rfl rfl (uBP _ _ _ (by omega) (by first | omega | (dsimp only; omega) | (simp only [PS.go]; omega))) rfl (by rfl) (by rfl) rfl rfl rfl ?_;refine uAa rfl rfl rfl (uA0 rfl gU) ?_;refine uAf ?_;refine uAn (s:=⟨[(0,_,_),(2,_,_),(4,_,_),(40,_,_)],[(.l 2,_),(.l 4,_),(.o 0,_)],[],[]⟩) (uAj (⟨sx rfl,sx rfl,sx rfl,sx rfl,trivial⟩) (⟨sx rfl,sx rfl,sx rfl,trivial⟩) trivial) ?_;refine uAm rfl (fun hc3=>?_) (fun hc3=>?_)
    ·try simp only [nn,uAh,T.rows_len,Tk.rows_len] at hc3
     rw [if_neg (by rw [hc3]; simp)] at he
     have hs3 : symP l (uAv l [] p).2.go [41]=(uAv l [] p).2.go:=by rw [symP,hc3]; rfl
     have a3:=uCw (uB0 l n) (uAv l [] p).2.go
     rw [hs3]
     refine uAe (uAb ?_);refine uAa rfl rfl rfl (uAc rfl gU) ?_;refine uAE (.o 0) rfl rfl rfl rfl rfl rfl (uJG l n hl ih (uAv l [] p).2.go (by omega) (by omega)) rfl (by rfl) (by rfl) rfl rfl rfl ?_;refine uAa rfl rfl rfl (uAg rfl gU rfl rfl) ?_;refine uAs rfl (uAt rfl rfl rfl rfl rfl rfl rfl) ?_;refine uAf ?_;refine uAb ?_;refine uAa rfl rfl rfl (uAc rfl gU) ?_;refine uAE (.o 0) rfl rfl rfl rfl rfl rfl (uBd _ _ _ (by omega) (by first | omega | (dsimp only; omega) | (simp only [PS.go]; omega))) rfl (by rfl) (by rfl) rfl rfl rfl ?_;refine uAf ?_;refine uAn (s:=⟨[(2,_,_),(4,_,_)],[(.l 2,_),(.l 4,_),(.o 0,_)],[],[]⟩) (uAj (⟨sx rfl,sx rfl,trivial⟩) (⟨sx rfl,sx rfl,sx rfl,trivial⟩) trivial) ?_;refine uAe (uAb ?_);refine uAa rfl rfl rfl (uAp rfl gU rfl rfl rfl rfl rfl) ?_;refine uAs rfl (uAt rfl rfl rfl rfl rfl rfl rfl) ?_;refine uAf ?_;refine uAo ?_
     repeat (first | refine tR ?_ | refine bR ?_)
     refine uAr rfl ?_ (⟨⟨_,rfl,?_⟩,trivial⟩)
     (all_goals first | (rw [he]; done) | (rw [he]; rfl))
    ·try simp only [nn,uAh,T.rows_len,Tk.rows_len] at hc3
     rw [if_pos hc3] at he
     have hs3 : symP l (uAv l [] p).2.go [41]=(uAv l [] p).2.go.go:=by rw [symP,if_pos hc3]
     rw [hs3]
     refine uAq ?_;refine uAe (uAb ?_);refine uAa rfl rfl rfl (uAp rfl gU rfl rfl rfl rfl rfl) ?_;refine uAs rfl (uAt rfl rfl rfl rfl rfl rfl rfl) ?_;refine uAf ?_;refine uAo ?_
     repeat (first | refine tR ?_ | refine bR ?_)
     refine uAr rfl ?_ (⟨⟨_,rfl,?_⟩,trivial⟩)
     (all_goals first | (rw [he]; done) | (rw [he]; rfl))
end Go.Proofs.YtnjjdbapadkomaaGreatDoor
namespace Go.Proofs.YtnjjdbapadkomaaGreatDoor
open Go Go.Proofs Go.RowKit Go.Shelf
attribute [local go_sem] Oper.semAt_some
set_option maxHeartbeats 2000000 in
theorem uMU (F : Fence) (n : Nat) (hf : F.fn 152) (hro : F.round=none) (a : Option Addr) (len cap : Nat) (w : World) :
  CallsIn F n Tryz.prog 152 #[.slice a len cap] w fun e w'=>e = .returned (.func (.func 168) #[] #[.pointer (some ⟨w.heap.size,0,none⟩)])∧w'=w.alloc (.cells #[.slice a len cap] 37):=by
 refine callsIn_of_wp Tryz.func152 rfl hf ?_ hro
 simp only [Tryz.ntmps152,List.size_toArray,List.length_cons,List.length_nil,Nat.reduceAdd,Nat.reduceSub,Array.replicate_succ,Array.replicate_zero,List.push_toArray,List.append_toArray,List.nil_append,List.cons_append]
 gi_wp2
 go_ret
 exact ⟨rfl,rfl⟩
def uDi {α : Type} (el : Nat→α) (len k : Nat) : List α:=(List.range (len - k)).map fun j=>el (len - 1 - j)
theorem uGj {α : Type} (el : Nat→α) {len k : Nat} (h : k < len) : uDi el len k=uDi el len (k + 1)++[el k]:=by
 unfold uDi
 rw [show len - k=(len - (k + 1)) + 1 by omega,List.range_succ,List.map_append]
 simp only [List.map_cons,List.map_nil]
 rw [show len - 1 - (len - (k + 1))=k by omega]
theorem uLM {α : Type} (el : Nat→α) (len k : Nat) : (uDi el len k).length=len - k:=by simp [uDi]
theorem uHI {α : Type} (el : Nat→α) (len : Nat) : uDi el len len=[]:=by simp [uDi]
def KeepB (n₀ Bo : Nat) (W W' : World) : Prop:=∀ b,b < n₀→b≠Bo→W'.heap[b]? = W.heap[b]?
theorem KeepB.refl (n₀ Bo : Nat) (W : World) : KeepB n₀ Bo W W:=fun _ _ _=>rfl
theorem KeepB.trans {n₀ Bo : Nat} {A B C : World} (h : KeepB n₀ Bo A B) (k : KeepB n₀ Bo B C) : KeepB n₀ Bo A C:=fun b h1 h2=>(k b h1 h2).trans (h b h1 h2)
theorem KeepB.cell {n₀ Bo : Nat} {A B : World} (h : KeepB n₀ Bo A B) {b : Nat} (o : Nat) (h1 : b < n₀) (h2 : b≠Bo) : B.cell? ⟨b,o,none⟩=A.cell? ⟨b,o,none⟩:=by
 unfold World.cell?; dsimp only; rw [h b h1 h2]
theorem KeepB.alloc {n₀ Bo : Nat} (W : World) (ob : Obj) (h : n₀≤W.heap.size) : KeepB n₀ Bo W (W.alloc ob):=fun b h1 _=>Below.heap_alloc W ob b (by omega)
theorem KeepB.putObj {n₀ Bo : Nat} (W : World) (l : Nat) (o' : Obj) (h : n₀≤l) : KeepB n₀ Bo W (W.putObj l o'):=fun b h1 _=>World.putObj_heap_other (by omega)
set_option maxRecDepth 100000 in
set_option maxHeartbeats 2000000 in
theorem uL7 (F : Fence) (n : Nat) (hf : F.fn 168) (hro : F.round=none) (hn : 1≤n) (l Bs n₀ Bo b off len cap : Nat) (hlen : len≤3000000) (hb : b < n₀) (hbo : b≠Bo) (hBo : Bs≠Bo) {α : Type} (ix : α→Nat) (v0 v1 v2 v3 : α→Value) (el : Nat→α) (hix : ∀ k,ix (el k)=k)
  (J Jx : List α→World→Prop)
  (hY : ∀ pre x W,J pre W→pre.length < len→YieldAt F (n - 1) Tryz.prog l #[.int .i64 (ix x : Int), .agg #[v0 x,v1 x,v2 x,v3 x]] W fun e W' =>
   (e = .returned (.bool true)∧J (pre++[x]) W'∧KeepB n₀ Bo W W')∨(e = .returned (.bool false)∧Jx (pre++[x]) W'))
  (W : World) (hBs : W.cell? ⟨Bs,0,none⟩=some (.slice (some ⟨b,off,none⟩) len cap))
  (hc : ∀ j,j < len→W.cell? ⟨b,off + j * 4,none⟩=some (v0 (el j))∧W.cell? ⟨b,off + j * 4 + 1,none⟩=some (v1 (el j))∧W.cell? ⟨b,off + j * 4 + 2,none⟩=some (v2 (el j))∧W.cell? ⟨b,off + j * 4 + 3,none⟩=some (v3 (el j)))
  (hBn : Bs < n₀) (h0 : J [] W) :
  CallsIn F n Tryz.prog 168 #[.func (.yield l) #[] #[], .pointer (some ⟨Bs,0,none⟩)] W fun e W'=>(∃ v,e = .returned v) ∧
   ((∃ ys,ys=uDi el len 0∧J ys W')∨(∃ pre,True∧Jx pre W')):=by
 refine callsIn_of_wp Tryz.func168 rfl hf ?_ hro
 simp only [Tryz.ntmps168,List.size_toArray,List.length_cons,List.length_nil,Nat.reduceAdd,Nat.reduceSub,Array.replicate_succ,Array.replicate_zero,List.push_toArray,List.append_toArray,List.nil_append,List.cons_append]
 gi_wp2
 gi_loopw [3] (fun i wr=>∃ k : Nat,k≤len∧i = .int .i64 ((k : Int) - 1)∧J (uDi el len k) wr∧KeepB n₀ Bo W wr)
  (fun i _=>(intOf i + 1).toNat)
 case atStart=>exact ⟨len,Nat.le_refl _,by simp,by rw [uHI]; exact h0,KeepB.refl _ _ _⟩
 case round =>
  obtain ⟨k,hk,rfl,hJs,hnx⟩:=hrel
  cases k with
  | zero =>
   gi_wp2
   go_end0
   exact ⟨⟨_,rfl⟩, .inl ⟨_,rfl,hJs⟩⟩
  | succ k =>
   have hlt : k < len:=by omega
   obtain ⟨c0,c1,c2,c3⟩:=hc k hlt
   replace c0:=(hnx.cell (off + k * 4) hb hbo).trans c0
   replace c1:=(hnx.cell (off + k * 4 + 1) hb hbo).trans c1
   replace c2:=(hnx.cell (off + k * 4 + 2) hb hbo).trans c2
   replace c3:=(hnx.cell (off + k * 4 + 3) hb hbo).trans c3
   have cB:=(hnx.cell 0 hBn hBo).trans hBs
   obtain ⟨fn,tmps,assign,body,hy,hR⟩:=hY _ (el k) wr hJs (by rw [uLM]; omega)
   rw [hix] at hy
   have ek : ((k + 1 : Nat) : Int) - 1=(k : Int):=by omega
   rw [ek]
   gi_wp2
   refine hR.mono ?_
   rintro e W3 (⟨rfl,hJ3,hk3⟩ | ⟨rfl,hJx3⟩)
   ·gi_wp2
    go_roundw
    case rel=>exact ⟨k,by omega,by simp,by rw [uGj el hlt]; exact hJ3,hnx.trans hk3⟩
    case measure=>simp [intOf]
   ·gi_wp2
    refine bodyPost_ret (results_none rfl _ _ _) rfl ?_;exact ⟨⟨_,rfl⟩, .inr ⟨_,trivial,hJx3⟩⟩
theorem uJ3 (F : Fence) (n : Nat) (hf : F.fn 168) (hro : F.round=none) (hn : 1≤n) (Bs Bo b off len cap : Nat) (hlen : len≤3000000) {α : Type} (ix : α→Nat) (v0 v1 v2 v3 : α→Value) (el : Nat→α) (hix : ∀ k,ix (el k)=k) (w : World)
  (hb : b < w.heap.size) (hbo : b≠Bo) (hBo : Bs≠Bo) (hBn : Bs < w.heap.size) (hBs : w.cell? ⟨Bs,0,none⟩=some (.slice (some ⟨b,off,none⟩) len cap))
  (hc : ∀ j,j < len→w.cell? ⟨b,off + j * 4,none⟩=some (v0 (el j))∧w.cell? ⟨b,off + j * 4 + 1,none⟩=some (v1 (el j))∧w.cell? ⟨b,off + j * 4 + 2,none⟩=some (v2 (el j))∧w.cell? ⟨b,off + j * 4 + 3,none⟩=some (v3 (el j))) :
  SeqStopsK F n Tryz.prog 168 #[.pointer (some ⟨Bs,0,none⟩)] (fun x=>#[.int .i64 (ix x : Int), .agg #[v0 x,v1 x,v2 x,v3 x]]) (KeepB w.heap.size Bo) (fun ys=>ys=uDi el len 0) (fun _=>True) len w:=fun l J Jx W hW _ _ hY h0=>by
 have kc : ∀ {b' : Nat} (o : Nat),b' < w.heap.size→W.cell? ⟨b',o,none⟩=w.cell? ⟨b',o,none⟩:=fun o h=>hW.cell (p:=⟨_,o,none⟩) h
 exact uL7 F n hf hro hn l Bs w.heap.size Bo b off len cap hlen hb hbo hBo ix v0 v1 v2 v3 el hix J Jx hY W ((kc 0 hBn).trans hBs) (fun j hj=>by
  obtain ⟨c0,c1,c2,c3⟩:=hc j hj
  exact ⟨(kc _ hb).trans c0,(kc _ hb).trans c1,(kc _ hb).trans c2,(kc _ hb).trans c3⟩) hBn h0
abbrev tInt (n : Int) : Value:=.int .i64 n
abbrev tStr (l : List UInt8) : Value:=.string ⟨l.toArray⟩
abbrev Elm (w : World) (S : Nat→Nat→Prop):={ x : Nat × T × Option Addr × Nat × Nat // Abs.CRep w S (.sl 4 (T.rows x.2.1.kids)) (.slice x.2.2.1 x.2.2.2.1 x.2.2.2.2)∧x.2.1.name.length≤9223372036854775807 }
def uBS (t : T) {w : World} {S : Nat→Nat→Prop} (l : List (Elm w S)) : T:=l.foldl (fun out x=>uH1 x.1.2.1 out) t
theorem uDP (t : T) {w : World} {S : Nat→Nat→Prop} (l : List (Elm w S)) (x : Elm w S) : uBS t (l++[x])=uH1 x.1.2.1 (uBS t l):=by simp [uBS]
theorem uLN {w : World} {S : Nat→Nat→Prop} {t : T} {a b c d : Value} (h0 : Abs.CRep w S (.i .i64 t.kind) a) (h1 : Abs.CRep w S (.s t.name) b) (h2 : Abs.CRep w S (.i .i64 t.sort) c) (h3 : Abs.CRep w S (.sl 4 (T.rows t.kids)) d) :
  a=tInt t.kind∧b=tStr t.name∧c=tInt t.sort∧(∃ p l k,d = .slice p l k)∧t.name.length≤9223372036854775807:=by
 cases h0; cases h2
 cases h1 with
 | s _ hm =>
 refine ⟨rfl,rfl,rfl,?_,hm⟩
 generalize T.rows t.kids=es at h3
 cases h3 <;> exact ⟨_,_,_,rfl⟩
theorem uFQ {W : World} {B : Nat} {t : TypeId} {a b c d : Value} (h : W.heap[B]? = some (.cells #[a,b,c,d] t (0,0))) (a' b' c' d' : Value) :
  ((((W.setCell ⟨B,0,none⟩ a').setCell ⟨B,1,none⟩ b').setCell ⟨B,2,none⟩ c').setCell ⟨B,3,none⟩ d').heap[B]? = some (.cells #[a',b',c',d'] t (0,0)):=by
 have h1:=heap_setCell_same W B 0 _ t a' h
 have h2:=heap_setCell_same _ B 1 _ t b' h1
 have h3:=heap_setCell_same _ B 2 _ t c' h2
 exact heap_setCell_same _ B 3 _ t d' h3
theorem heap_cells4' (W : World) {B k : Nat} (hk : k≠B) (a' b' c' d' : Value) :
  ((((W.setCell ⟨B,0,none⟩ a').setCell ⟨B,1,none⟩ b').setCell ⟨B,2,none⟩ c').setCell ⟨B,3,none⟩ d').heap[k]? = W.heap[k]? := by
 rw [Below.heap_setCell _ _ _ _ hk,Below.heap_setCell _ _ _ _ hk,Below.heap_setCell _ _ _ _ hk,Below.heap_setCell _ _ _ _ hk]
theorem uDM {W W' : World} {b : Nat} (h : W'.heap[b]? = W.heap[b]?) (o : Nat) : W'.cell? ⟨b,o,none⟩=W.cell? ⟨b,o,none⟩:=by
 unfold World.cell?; dsimp only; rw [h]
def TupI (w : World) (S : Nat→Nat→Prop) (z : Array Value) (last : T) (pre : List (Elm w S)) (W : World) : Prop :=
 (∃ (S' : Nat→Nat→Prop) (p : Option Addr) (l k : Nat),W.heap[w.heap.size + 1]? = some (.cells #[tInt (uBS last pre).kind,tStr (uBS last pre).name,tInt (uBS last pre).sort, .slice p l k] 39 (0,0))∧W.heap[w.heap.size]? = some (.cells z 39 (0,0)) ∧
  Abs.CRep W S' (.sl 4 (T.rows (uBS last pre).kids)) (.slice p l k)∧(uBS last pre).name.length≤9223372036854775807∧(∀ b o,S b o→S' b o) ∧ ∀ b o,S' b o→S b o∨(w.heap.size + 2≤b ∧ ∃ v,W.cell? ⟨b,o,none⟩=some v))∧Below w.heap.size w W∧w.heap.size + 3≤W.heap.size
theorem uJu (w : World) (S : Nat→Nat→Prop) (hS : ∀ b o,S b o→b < w.heap.size) (z : Array Value) (last : T) (B : Nat) (hB : w.heap.size≤B) : OwnFrom B (TupI w S z last):=by
 rintro pre X Y row ⟨⟨S',p,l,k,h1,h2,h3,hn,h4,h5⟩,h6,h7⟩ hg hr
 have hkeep : ∀ (k : Nat) (o : Obj),X.heap[k]? = some o→o.isCells=true→Y.heap[k]? = some o:=by
  intro k o hk ho
  refine (hg.block k (Array.getElem?_eq_some_iff.1 hk).1 fun e=>?_).trans hk
  obtain ⟨_,o',h7,h8⟩:=hr k e.symm
  rw [hk] at h7; cases h7; rw [ho] at h8; cases h8
 have hcell : ∀ (b o : Nat) (v : Value),X.cell? ⟨b,o,none⟩=some v→Y.cell? ⟨b,o,none⟩=some v:=by
  intro b o v hv
  obtain ⟨x,hx,hxc⟩:=cells_of_cell hv
  unfold World.cell? at hv ⊢
  dsimp only at hv hx ⊢
  rw [hkeep b x hx hxc]; rw [hx] at hv; exact hv
 have hbl : Below w.heap.size w Y:=h6.grown hg h6.size (fun k e=>Nat.le_trans hB (hr k e).1)
 refine ⟨⟨S',p,l,k,hkeep _ _ h1 rfl,hkeep _ _ h2 rfl,Abs.CRep.mono (fun _ _ h=>h) (fun b o hs=>?_) h3,hn,h4,fun b o hs=>?_⟩,hbl,Nat.le_trans h7 hg.size⟩
 ·rcases h5 b o hs with q | ⟨_,v,q⟩
  ·rw [hbl.cell (p:=⟨b,o,none⟩) (hS b o q),h6.cell (p:=⟨b,o,none⟩) (hS b o q)]
  ·rw [q,hcell b o v q]
 ·rcases h5 b o hs with q | ⟨q1,v,q⟩
  ·exact .inl q
  ·exact .inr ⟨q1,v,hcell b o v q⟩
theorem tupT_cons' (t : T) (ts : List T) (h : ts≠[]) : tupT (t :: ts)=uH1 t (tupT ts):=by
 cases ts with
 | nil=>exact absurd rfl h
 | cons u l=>rfl
theorem uFS {w : World} {S : Nat→Nat→Prop} (el : Nat→Elm w S) (ts : List T) (m : Nat) (hm : ts.length=m + 1) (he : ∀ k,k < m→(el k).1.2.1=ts.getD k default) : ∀ d j,j + d=m→uBS (ts.getD m default) (uDi el m j)=tupT (ts.drop j)
 | 0,j,h=>by
  have : j=m:=by omega
  subst this
  rw [uHI,List.drop_eq_getElem_cons (by omega),List.drop_of_length_le (by omega)]
  show ts.getD j default=ts[j]
  rw [List.getD_eq_getElem?_getD,List.getElem?_eq_getElem (by omega)]; rfl
 | d + 1,j,h=>by
  rw [uGj el (by omega),uDP,uFS el ts m hm he d (j + 1) (by omega),he j (by omega),List.drop_eq_getElem_cons (i := j) (by omega),tupT_cons' _ _ (by intro q; have := congrArg List.length q; simp at this; omega),List.getD_eq_getElem?_getD,List.getElem?_eq_getElem (by omega)]
  rfl
abbrev elV0 {w : World} {S : Nat→Nat→Prop} (x : Elm w S) : Value:=tInt x.1.2.1.kind
abbrev elV1 {w : World} {S : Nat→Nat→Prop} (x : Elm w S) : Value:=tStr x.1.2.1.name
abbrev elV2 {w : World} {S : Nat→Nat→Prop} (x : Elm w S) : Value:=tInt x.1.2.1.sort
abbrev elV3 {w : World} {S : Nat→Nat→Prop} (x : Elm w S) : Value:=.slice x.1.2.2.1 x.1.2.2.2.1 x.1.2.2.2.2
set_option maxRecDepth 100000 in
set_option maxHeartbeats 4000000 in
theorem uNM (F : Fence) (n : Nat) (h1f : F.fn 115) (h2f : F.fn 152) (h3f : F.fn 168) (hro : F.round=none) (hn : 3≤n)
  (w : World) (S : Nat→Nat→Prop) (hS : ∀ b o,S b o→b < w.heap.size) (ts : List T) (hts : 0 < ts.length) (hmax : ts.length≤3000000) (v : Value) (hv : Abs.CRep w S (.sl 4 (T.rows ts)) v) :
  CallsIn F n Tryz.prog 115 #[v] w fun e W'=>∃ (vs : List Value) (S' : Nat→Nat→Prop),e = .returned (.agg vs.toArray)∧Abs.All2 (Abs.CRep W' S') (tupT ts).cells vs∧Below w.heap.size w W'∧(∀ b o,S b o→S' b o) ∧ ∀ b o,S' b o→S b o∨(w.heap.size≤b∧b < W'.heap.size):=by
 have h1 : 1≤n:=by omega
 have hrl:=T.rows_len ts
 generalize hes : T.rows ts=es at hv hrl
 cases hv with
 | emp=>simp at hrl; omega
 | sl _ _ b off len cap vals hl hc hm hsz hcell hrep =>
 have hlen : len=ts.length:=by omega
 subst hlen
 have hrow : ∀ i,i < ts.length→es[i]? = some (ts.getD i default).cells:=fun i hi=>by rw [← hes]; exact T.rows_at hi
 have hb : b < w.heap.size:=hS _ _ (hcell 0 0 hts (by omega)).1
 have hel : ∀ i,i < ts.length → ∃ p l k,Abs.CRep w S (.sl 4 (T.rows (ts.getD i default).kids)) (.slice p l k)∧(ts.getD i default).name.length≤9223372036854775807 ∧
   w.cell? ⟨b,off + i * 4,none⟩=some (tInt (ts.getD i default).kind)∧w.cell? ⟨b,off + i * 4 + 1,none⟩=some (tStr (ts.getD i default).name)∧w.cell? ⟨b,off + i * 4 + 2,none⟩=some (tInt (ts.getD i default).sort)∧w.cell? ⟨b,off + i * 4 + 3,none⟩=some (.slice p l k):=by
  intro i hi
  have hr:=hrow i hi
  have r0:=hrep _ _ 0 _ hr rfl
  have r1:=hrep _ _ 1 _ hr rfl
  have r2:=hrep _ _ 2 _ hr rfl
  have r3:=hrep _ _ 3 _ hr rfl
  obtain ⟨q0,q1,q2,⟨p,l,k,q3⟩,q4⟩:=uLN r0 r1 r2 r3
  have c0:=(hcell i 0 hi (by omega)).2
  have c1:=(hcell i 1 hi (by omega)).2
  have c2:=(hcell i 2 hi (by omega)).2
  have c3:=(hcell i 3 hi (by omega)).2
  rw [q0] at c0; rw [q1] at c1; rw [q2] at c2; rw [q3] at c3 r3
  exact ⟨p,l,k,r3,q4,c0,c1,c2,c3⟩
 obtain ⟨m,hm1⟩ : ∃ m,ts.length=m + 1:=⟨ts.length - 1,by omega⟩
 have hex : ∀ i,∃ x : Elm w S,x.1.1=i∧(i < m→x.1.2.1=ts.getD i default∧w.cell? ⟨b,off + i * 4,none⟩=some (elV0 x)∧w.cell? ⟨b,off + i * 4 + 1,none⟩=some (elV1 x)∧w.cell? ⟨b,off + i * 4 + 2,none⟩=some (elV2 x)∧w.cell? ⟨b,off + i * 4 + 3,none⟩=some (elV3 x)):=by
  intro i
  by_cases hi : i < m
  ·obtain ⟨p,l,k,r,hnl,q0,q1,q2,q3⟩:=hel i (by omega)
   exact ⟨⟨(i,ts.getD i default,p,l,k),r,hnl⟩,rfl,fun _=>⟨rfl,q0,q1,q2,q3⟩⟩
  ·obtain ⟨p,l,k,r,hnl,q0,q1,q2,q3⟩:=hel m (by omega)
   exact ⟨⟨(i,ts.getD m default,p,l,k),r,hnl⟩,rfl,fun q=>absurd q hi⟩
 obtain ⟨el,hel1⟩ : ∃ el : Nat→Elm w S,∀ i,(el i).1.1=i∧(i < m→(el i).1.2.1=ts.getD i default∧w.cell? ⟨b,off + i * 4,none⟩=some (elV0 (el i))∧w.cell? ⟨b,off + i * 4 + 1,none⟩=some (elV1 (el i))∧w.cell? ⟨b,off + i * 4 + 2,none⟩=some (elV2 (el i))∧w.cell? ⟨b,off + i * 4 + 3,none⟩=some (elV3 (el i))) :=
  ⟨fun i=>Classical.choose (hex i),fun i=>Classical.choose_spec (hex i)⟩
 obtain ⟨lp,ll,lk,lr,ln,c0,c1,c2,c3⟩:=hel m (by omega)
 have hfold:=uFS el ts m hm1 (fun k hk=>((hel1 k).2 hk).1) m 0 (by omega)
 clear hel hex hcell hrep hsz hrow
 rw [List.drop_zero] at hfold
 generalize hlast : ts.getD m default=last at *
 have e1 : ((m + 1 : Nat) : Int) - 1=(m : Int):=by omega
 rw [hm1]
 rw [hm1] at hc hm
 refine callsIn_of_wp_marks Tryz.func115 rfl h1f ?_ hro
 simp only [Tryz.ntmps115,List.size_toArray,List.length_cons,List.length_nil,Nat.reduceAdd,Nat.reduceSub,Array.replicate_succ,Array.replicate_zero,List.push_toArray,List.append_toArray,List.nil_append,List.cons_append]
 gi_wp2_with (gi_at_call 152; refine (uMU F (n - 1) h2f hro _ _ _ _).mono ?_; rintro e w' ⟨rfl,rfl⟩)
 have hB0 : Below w.heap.size w (((w.alloc (.cells #[tInt 0, .string ⟨#[]⟩,tInt 0, .slice none 0 0] 39)).alloc (.cells #[tInt last.kind,tStr last.name,tInt last.sort, .slice lp ll lk] 39)).alloc (.cells #[.slice (some ⟨b,off,none⟩) m cap] 37)):=(((Below.refl _ w).alloc (Nat.le_refl _) _).alloc (by simp) _).alloc (by simp; omega) _
 obtain ⟨W0,hW0⟩ : ∃ W0,(((w.alloc (.cells #[tInt 0, .string ⟨#[]⟩,tInt 0, .slice none 0 0] 39)).alloc (.cells #[tInt last.kind,tStr last.name,tInt last.sort, .slice lp ll lk] 39)).alloc (.cells #[.slice (some ⟨b,off,none⟩) m cap] 37))=W0:=⟨_,rfl⟩
 have hsz : W0.heap.size=w.heap.size + 3:=by rw [← hW0]; simp
 have hR : W0.heap[w.heap.size]? = some (.cells #[tInt 0, .string ⟨#[]⟩,tInt 0, .slice none 0 0] 39 (0,0)):=by
  rw [← hW0]; exact ((Below.heap_alloc _ _ _ (by simp; omega)).trans (Below.heap_alloc _ _ _ (by simp))).trans (World.alloc_heap_new w _)
 have hO : W0.heap[w.heap.size + 1]? = some (.cells #[tInt last.kind,tStr last.name,tInt last.sort, .slice lp ll lk] 39 (0,0)):=by
  rw [← hW0]; refine (Below.heap_alloc _ _ _ (by simp)).trans ?_
  have := World.alloc_heap_new (w.alloc (.cells #[tInt 0, .string ⟨#[]⟩,tInt 0, .slice none 0 0] 39)) (.cells #[tInt last.kind,tStr last.name,tInt last.sort, .slice lp ll lk] 39); rwa [World.size_alloc] at this
 have hN : W0.heap[w.heap.size + 1 + 1]? = some (.cells #[.slice (some ⟨b,off,none⟩) m cap] 37 (0,0)):=by
  rw [← hW0]; have := World.alloc_heap_new ((w.alloc (.cells #[tInt 0, .string ⟨#[]⟩,tInt 0, .slice none 0 0] 39)).alloc (.cells #[tInt last.kind,tStr last.name,tInt last.sort, .slice lp ll lk] 39)) (.cells #[.slice (some ⟨b,off,none⟩) m cap] 37); rwa [World.size_alloc,World.size_alloc] at this
 rw [hW0] at hB0
 have hW0' : (((w.alloc (.cells #[.int .i64 0, .string ⟨#[]⟩, .int .i64 0, .slice none 0 0] 39)).alloc (.cells #[.int .i64 last.kind, .string ⟨last.name.toArray⟩, .int .i64 last.sort, .slice lp ll lk] 39)).alloc (.cells #[.slice (some ⟨b,off,none⟩) m cap] 37))=W0:=hW0
 simp only [hW0']
 clear hW0 hW0'
 refine wpIn_rangeFunc_ownH hro h1 (gf:=168) (lb:=#[.pointer (some ⟨w.heap.size + 1 + 1,0,none⟩)]) rfl h3f (enters_of Tryz.func168 (by kernel_rfl) rfl)
  (uJ3 F (n - 1) h3f hro (by omega) (w.heap.size + 1 + 1) (w.heap.size + 1) b off m cap (by omega) (fun x : Elm w S=>x.1.1) elV0 elV1 elV2 elV3 el (fun k=>(hel1 k).1) W0 (by omega) (by omega) (by omega) (by omega)
   (by unfold World.cell?; rw [hN]; rfl)
   (fun j hj=>by
    obtain ⟨_,q⟩:=hel1 j
    obtain ⟨_,q0,q1,q2,q3⟩:=q hj
    exact ⟨(hB0.cell (p:=⟨b,_,none⟩) hb).trans q0,(hB0.cell (p:=⟨b,_,none⟩) hb).trans q1,(hB0.cell (p:=⟨b,_,none⟩) hb).trans q2,(hB0.cell (p:=⟨b,_,none⟩) hb).trans q3⟩))
  KeepB.trans (fun W l o o' hl _ _ _=>KeepB.putObj W l o' hl) (Below.refl _ _) (fun _=>rfl)
  (TupI w S #[tInt 0, .string ⟨#[]⟩,tInt 0, .slice none 0 0] last) (fun _ _ _=>False) (uJu w S hS _ last _ (by omega)) (fun _ _ _ _ _ hs _ _=>hs)
  ?start
  (fun x a' W=>∃ Bx,w.heap.size + 2 < Bx∧W.heap[Bx]? = some (.cells #[elV0 x,elV1 x,elV2 x,elV3 x] 39 (0,0))∧a' = { tmps:=#[Value.slice (some { block:=b,off:=off }) (m + 1) cap,undef,Value.pointer (some { block:=w.heap.size,off:=0 }),Value.pointer (some { block:=w.heap.size + 1,off:=0 }),undef,Value.pointer (some { block:=Bx,off:=0 }),Value.slice (some { block:=b,off:=off }) (m + 1) cap,Value.slice (some { block:=b,off:=off }) (m + 1) cap,Value.int IntKind.i64 ((m : Int) + 1),Value.int IntKind.i64 ↑m,Value.pointer (some { block:=b,off:=off + m * 4 }),Value.agg #[tInt last.kind,tStr last.name,tInt last.sort,Value.slice lp ll lk],Value.slice (some { block:=b,off:=off }) (m + 1) cap,Value.slice (some { block:=b,off:=off }) (m + 1) cap,Value.int IntKind.i64 ((m : Int) + 1),Value.int IntKind.i64 ↑m,Value.slice (some { block:=b,off:=off }) m cap,Value.func (Fn.func 168) #[] #[Value.pointer (some { block:=w.heap.size + 1 + 1,off:=0 })], .int .i64 x.1.1, .agg #[elV0 x,elV1 x,elV2 x,elV3 x],undef,undef,undef,undef,undef],defers:=[] })
  ?axOwn ?assign ?body ?done ?stop
 case start=>exact ⟨⟨S,lp,ll,lk,hO,hR,Abs.CRep.mono (fun _ _ h=>h) (fun b o hs=>hB0.cell (p:=⟨b,o,none⟩) (hS b o hs)) lr,ln,fun _ _ h=>h,fun _ _ h=>.inl h⟩,hB0,by omega⟩
 case axOwn =>
  rintro x a' _ X Y row ⟨Bx,q1,q2,q3⟩ hg hr
  refine ⟨Bx,q1,(hg.block Bx (Array.getElem?_eq_some_iff.1 q2).1 fun e=>?_).trans q2,q3⟩
  obtain ⟨_,o',h7,h8⟩:=hr Bx e.symm
  rw [q2] at h7; cases h7; cases h8
 case assign =>
  rintro l pre x W K hI hK
  have hsW:=hI.2.2
  gi_wp2
  exact hK _ _ ((KeepsOthers.alloc _ _).from _) (KeepB.alloc W _ (by omega)) ((uJu w S hS _ last w.heap.size (Nat.le_refl _)).alloc _ hI) ⟨W.heap.size,by omega,World.alloc_heap_new W _,rfl⟩
 case body =>
  rintro l pre x a' W hl hrr ⟨⟨S',p,l',k,h1,h2,h3,hn',h4,h5⟩,h6,h7⟩ ⟨Bx,hBx,bX,rfl⟩ hlt
  have cO0 : W.cell? ⟨w.heap.size + 1,0,none⟩=some (tInt (uBS last pre).kind):=by unfold World.cell?; rw [h1]; rfl
  have cO1 : W.cell? ⟨w.heap.size + 1,1,none⟩=some (tStr (uBS last pre).name):=by unfold World.cell?; rw [h1]; rfl
  have cO2 : W.cell? ⟨w.heap.size + 1,2,none⟩=some (tInt (uBS last pre).sort):=by unfold World.cell?; rw [h1]; rfl
  have cO3 : W.cell? ⟨w.heap.size + 1,3,none⟩=some (.slice p l' k):=by unfold World.cell?; rw [h1]; rfl
  have cX0 : W.cell? ⟨Bx,0,none⟩=some (elV0 x):=by unfold World.cell?; rw [bX]; rfl
  have cX1 : W.cell? ⟨Bx,1,none⟩=some (elV1 x):=by unfold World.cell?; rw [bX]; rfl
  have cX2 : W.cell? ⟨Bx,2,none⟩=some (elV2 x):=by unfold World.cell?; rw [bX]; rfl
  have cX3 : W.cell? ⟨Bx,3,none⟩=some (elV3 x):=by unfold World.cell?; rw [bX]; rfl
  have f0 : W.frozen? ⟨w.heap.size + 1,0,none⟩=false:=by unfold World.frozen?; rw [h1]; rfl
  have f1 : W.frozen? ⟨w.heap.size + 1,1,none⟩=false:=by unfold World.frozen?; rw [h1]; rfl
  have f2 : W.frozen? ⟨w.heap.size + 1,2,none⟩=false:=by unfold World.frozen?; rw [h1]; rfl
  have f3 : W.frozen? ⟨w.heap.size + 1,3,none⟩=false:=by unfold World.frozen?; rw [h1]; rfl
  have hltW : w.heap.size + 1 < W.heap.size:=(Array.getElem?_eq_some_iff.1 h1).1
  have hA : ∀ (ob : Obj),(W.alloc ob).heap[w.heap.size + 1]? = some (.cells #[tInt (uBS last pre).kind,tStr (uBS last pre).name,tInt (uBS last pre).sort, .slice p l' k] 39 (0,0)):=fun ob=>(Below.heap_alloc W ob _ hltW).trans h1
  have gO0 : ∀ ob : Obj,(W.alloc ob).cell? ⟨w.heap.size + 1,0,none⟩=some (tInt (uBS last pre).kind):=fun ob=>by unfold World.cell?; rw [hA]; rfl
  have gO1 : ∀ ob : Obj,(W.alloc ob).cell? ⟨w.heap.size + 1,1,none⟩=some (tStr (uBS last pre).name):=fun ob=>by unfold World.cell?; rw [hA]; rfl
  have gO2 : ∀ ob : Obj,(W.alloc ob).cell? ⟨w.heap.size + 1,2,none⟩=some (tInt (uBS last pre).sort):=fun ob=>by unfold World.cell?; rw [hA]; rfl
  have gO3 : ∀ ob : Obj,(W.alloc ob).cell? ⟨w.heap.size + 1,3,none⟩=some (.slice p l' k):=fun ob=>by unfold World.cell?; rw [hA]; rfl
  have e0 : ∀ ob : Obj,(W.alloc ob).frozen? ⟨w.heap.size + 1,0,none⟩=false:=fun ob=>by unfold World.frozen?; rw [hA]; rfl
  have e1 : ∀ ob : Obj,(W.alloc ob).frozen? ⟨w.heap.size + 1,1,none⟩=false:=fun ob=>by unfold World.frozen?; rw [hA]; rfl
  have e2 : ∀ ob : Obj,(W.alloc ob).frozen? ⟨w.heap.size + 1,2,none⟩=false:=fun ob=>by unfold World.frozen?; rw [hA]; rfl
  have e3 : ∀ ob : Obj,(W.alloc ob).frozen? ⟨w.heap.size + 1,3,none⟩=false:=fun ob=>by unfold World.frozen?; rw [hA]; rfl
  clear hA
  gi_wp2
  clear gO0 gO1 gO2 gO3 e0 e1 e2 e3 cO0 cO1 cO2 cO3 cX0 cX1 cX2 cX3 f0 f1 f2 f3
  obtain ⟨W1,hW1⟩ : ∃ W1,((((W.setCell ⟨w.heap.size + 1,0,none⟩ (.int .i64 3)).setCell ⟨w.heap.size + 1,1,none⟩ (.string ⟨#[112,97,105,114]⟩)).setCell ⟨w.heap.size + 1,2,none⟩ (.int .i64 0)).setCell ⟨w.heap.size + 1,3,none⟩ (.slice (some ⟨W.heap.size,0,none⟩) 2 2))=W1:=⟨_,rfl⟩
  have hs1 : W1.heap.size=W.heap.size:=by rw [← hW1]; simp [World.setCell]
  have k1 : W1.heap[w.heap.size + 1]? = some (.cells #[tInt 3, .string ⟨#[112,97,105,114]⟩,tInt 0, .slice (some ⟨W.heap.size,0,none⟩) 2 2] 39 (0,0)):=by rw [← hW1]; exact uFQ h1 _ _ _ _
  have k2 : ∀ j,j≠w.heap.size + 1→W1.heap[j]? = W.heap[j]? := fun j hj=>by rw [← hW1]; exact heap_cells4' W hj _ _ _ _
  have ko : KeepsOthers W W1:=by rw [← hW1]; exact (((KeepsOthers.setCell _ _ _).trans (KeepsOthers.setCell _ _ _)).trans (KeepsOthers.setCell _ _ _)).trans (KeepsOthers.setCell _ _ _)
  have kb : Below w.heap.size W W1:=by rw [← hW1]; exact ((((Below.refl _ W).setCell (p:=⟨w.heap.size + 1,0,none⟩) (by simp) _).setCell (p:=⟨w.heap.size + 1,1,none⟩) (by simp) _).setCell (p:=⟨w.heap.size + 1,2,none⟩) (by simp) _).setCell (p:=⟨w.heap.size + 1,3,none⟩) (by simp) _
  rw [hW1]
  clear hW1
  obtain ⟨ob,hob⟩ : ∃ ob : Obj,Obj.cells #[elV0 x,elV1 x,elV2 x,elV3 x,tInt (uBS last pre).kind,tStr (uBS last pre).name,tInt (uBS last pre).sort,Value.slice p l' k] 39 (0,0)=ob:=⟨_,rfl⟩
  have knew:=World.alloc_heap_new W1 ob
  rw [hs1] at knew
  have kold : ∀ j,j < W.heap.size→j≠w.heap.size + 1→(W1.alloc ob).heap[j]? = W.heap[j]? := fun j hj hne=>(Below.heap_alloc W1 ob j (by omega)).trans (k2 j hne)
  have hb1 : Below w.heap.size W (W1.alloc ob):=kb.alloc (by omega) ob
  rw [hob]
  refine ⟨(ko.trans (KeepsOthers.alloc W1 ob)).from _,fun j hj hne=>kold j (by omega) hne,⟨fun b o=>S' b o∨(b=W.heap.size∧o < 8),some ⟨W.heap.size,0,none⟩,2,2,?_,?_,?_,?_,fun b o hs=>.inl (h4 b o hs),?_⟩,h6.trans hb1,by rw [World.size_alloc]; omega⟩
  ·rw [uDP]
   exact (Below.heap_alloc W1 ob _ (by omega)).trans k1
  ·exact (kold _ (by omega) (by omega)).trans h2
  ·have hS' : ∀ b o,S' b o→(W1.alloc ob).cell? ⟨b,o,none⟩=W.cell? ⟨b,o,none⟩:=fun b o hs=>by
    rcases h5 b o hs with q | ⟨q1,v,q⟩
    ·exact hb1.cell (p:=⟨b,o,none⟩) (hS b o q)
    ·exact uDM (kold b (World.block_lt_of_cell? (a:=⟨b,o,none⟩) W q) (by omega)) o
   have hSS : ∀ b o,S b o→(W1.alloc ob).cell? ⟨b,o,none⟩=w.cell? ⟨b,o,none⟩:=fun b o hs=>(h6.trans hb1).cell (p:=⟨b,o,none⟩) (hS b o hs)
   have r1:=Abs.CRep.mono (S':=fun b o=>S' b o∨(b=W.heap.size∧o < 8)) (fun b o hs=>.inl (h4 b o hs)) hSS x.2.1
   have r2:=Abs.CRep.mono (S':=fun b o=>S' b o∨(b=W.heap.size∧o < 8)) (fun b o hs=>.inl hs) hS' h3
   rw [uDP]
   have hc8 : ∀ o,(W1.alloc ob).cell? ⟨W.heap.size,o,none⟩ = #[elV0 x,elV1 x,elV2 x,elV3 x,tInt (uBS last pre).kind,tStr (uBS last pre).name,tInt (uBS last pre).sort,Value.slice p l' k][o]? := fun o=>by
    unfold World.cell?; dsimp only; rw [knew,← hob]; rfl
   refine Abs.CRep.mk_sl (by rw [T.rows_len]; rfl) (Nat.le_refl _) (by omega) fun i row hi=>?_
   have hrr : T.rows (uH1 x.1.2.1 (uBS last pre)).kids=[x.1.2.1.cells,(uBS last pre).cells]:=by rw [T.rows_eq]; rfl
   rw [hrr] at hi
   match i,hi with
   | 0,hi =>
    simp only [List.getElem?_cons_zero,Option.some.injEq] at hi
    subst hi
    refine ⟨rfl,fun j c hj=>?_⟩
    match j,hj with
    | 0,hj=>simp [T.cells] at hj; subst hj; exact ⟨.inr ⟨rfl,by omega⟩,_,(hc8 _).trans rfl, .i _ _⟩
    | 1,hj=>simp [T.cells] at hj; subst hj; exact ⟨.inr ⟨rfl,by omega⟩,_,(hc8 _).trans rfl, .s _ x.2.2⟩
    | 2,hj=>simp [T.cells] at hj; subst hj; exact ⟨.inr ⟨rfl,by omega⟩,_,(hc8 _).trans rfl, .i _ _⟩
    | 3,hj=>simp [T.cells] at hj; subst hj; exact ⟨.inr ⟨rfl,by omega⟩,_,(hc8 _).trans rfl,r1⟩
    | j + 4,hj=>simp [T.cells] at hj
   | 1,hi =>
    simp only [List.getElem?_cons_succ,List.getElem?_cons_zero,Option.some.injEq] at hi
    subst hi
    refine ⟨rfl,fun j c hj=>?_⟩
    match j,hj with
    | 0,hj=>simp [T.cells] at hj; subst hj; exact ⟨.inr ⟨rfl,by omega⟩,_,(hc8 _).trans rfl, .i _ _⟩
    | 1,hj=>simp [T.cells] at hj; subst hj; exact ⟨.inr ⟨rfl,by omega⟩,_,(hc8 _).trans rfl, .s _ hn'⟩
    | 2,hj=>simp [T.cells] at hj; subst hj; exact ⟨.inr ⟨rfl,by omega⟩,_,(hc8 _).trans rfl, .i _ _⟩
    | 3,hj=>simp [T.cells] at hj; subst hj; exact ⟨.inr ⟨rfl,by omega⟩,_,(hc8 _).trans rfl,r2⟩
    | j + 4,hj=>simp [T.cells] at hj
   | i + 2,hi=>simp at hi
  ·rw [uDP]; show wPair.length≤_; decide
  ·rintro b o (hs | ⟨rfl,ho⟩)
   ·rcases h5 b o hs with q | ⟨q1,v,q⟩
    ·exact .inl q
    ·exact .inr ⟨q1,v,(uDM (kold b (World.block_lt_of_cell? (a:=⟨b,o,none⟩) W q) (by omega)) o).trans q⟩
   ·refine .inr ⟨by omega,?_⟩
    unfold World.cell?
    dsimp only
    rw [knew,← hob]
    exact ⟨_,Array.getElem?_eq_getElem (by simpa using ho)⟩
 case done =>
  rintro D ys W hD rfl ⟨⟨S',p,l',k,h1,h2,h3,hn',h4,h5⟩,h6,h7⟩ hK
  have cO0 : W.cell? ⟨w.heap.size + 1,0,none⟩=some (tInt (uBS last (uDi el m 0)).kind):=by unfold World.cell?; rw [h1]; rfl
  have cO1 : W.cell? ⟨w.heap.size + 1,1,none⟩=some (tStr (uBS last (uDi el m 0)).name):=by unfold World.cell?; rw [h1]; rfl
  have cO2 : W.cell? ⟨w.heap.size + 1,2,none⟩=some (tInt (uBS last (uDi el m 0)).sort):=by unfold World.cell?; rw [h1]; rfl
  have cO3 : W.cell? ⟨w.heap.size + 1,3,none⟩=some (.slice p l' k):=by unfold World.cell?; rw [h1]; rfl
  have cR0 : W.cell? ⟨w.heap.size,0,none⟩=some (tInt 0):=by unfold World.cell?; rw [h2]; rfl
  have cR1 : W.cell? ⟨w.heap.size,1,none⟩=some (.string ⟨#[]⟩):=by unfold World.cell?; rw [h2]; rfl
  have cR2 : W.cell? ⟨w.heap.size,2,none⟩=some (tInt 0):=by unfold World.cell?; rw [h2]; rfl
  have cR3 : W.cell? ⟨w.heap.size,3,none⟩=some (.slice none 0 0):=by unfold World.cell?; rw [h2]; rfl
  have f0 : W.frozen? ⟨w.heap.size,0,none⟩=false:=by unfold World.frozen?; rw [h2]; rfl
  have f1 : W.frozen? ⟨w.heap.size,1,none⟩=false:=by unfold World.frozen?; rw [h2]; rfl
  have f2 : W.frozen? ⟨w.heap.size,2,none⟩=false:=by unfold World.frozen?; rw [h2]; rfl
  have f3 : W.frozen? ⟨w.heap.size,3,none⟩=false:=by unfold World.frozen?; rw [h2]; rfl
  gi_wp2
  clear cO0 cO1 cO2 cO3 cR0 cR1 cR2 cR3 f0 f1 f2 f3
  rw [hfold] at h1 h3 hn'
  obtain ⟨W1,hW1⟩ : ∃ W1,((((W.setCell ⟨w.heap.size,0,none⟩ (.int .i64 (tupT ts).kind)).setCell ⟨w.heap.size,1,none⟩ (.string ⟨(tupT ts).name.toArray⟩)).setCell ⟨w.heap.size,2,none⟩ (.int .i64 (tupT ts).sort)).setCell ⟨w.heap.size,3,none⟩ (.slice p l' k))=W1:=⟨_,rfl⟩
  have hs1 : W1.heap.size=W.heap.size:=by rw [← hW1]; simp [World.setCell]
  have k1 : W1.heap[w.heap.size]? = some (.cells #[tInt (tupT ts).kind,tStr (tupT ts).name,tInt (tupT ts).sort, .slice p l' k] 39 (0,0)):=by rw [← hW1]; exact uFQ h2 _ _ _ _
  have k2 : ∀ j,j≠w.heap.size→W1.heap[j]? = W.heap[j]? := fun j hj=>by rw [← hW1]; exact heap_cells4' W hj _ _ _ _
  have kb : Below w.heap.size W W1:=by rw [← hW1]; exact ((((Below.refl _ W).setCell (p:=⟨w.heap.size,0,none⟩) (by simp) _).setCell (p:=⟨w.heap.size,1,none⟩) (by simp) _).setCell (p:=⟨w.heap.size,2,none⟩) (by simp) _).setCell (p:=⟨w.heap.size,3,none⟩) (by simp) _
  rw [hW1]
  clear hW1
  have hDne : D≠w.heap.size:=by omega
  have hK' : W1.heap[D]? = some (.deferred (some [])):=(k2 D hDne).trans hK
  refine ⟨by simp, .inl ⟨_,_,rfl,run_takeDeferred hK',?_⟩⟩
  have k3 : (W1.putObj D (.deferred none)).heap[w.heap.size]? = some (.cells #[tInt (tupT ts).kind,tStr (tupT ts).name,tInt (tupT ts).sort, .slice p l' k] 39 (0,0)):=(World.putObj_heap_other hDne.symm).trans k1
  have hb1 : Below w.heap.size W (W1.putObj D (.deferred none)):=kb.trans (belowK_b (w:=w) (Nat.le_refl _) W1 D _ _ (by omega) hK' rfl rfl)
  have hold : ∀ b o,S' b o→(W1.putObj D (.deferred none)).cell? ⟨b,o,none⟩=W.cell? ⟨b,o,none⟩:=fun b o hs=>by
   rcases h5 b o hs with q | ⟨q1,v,q⟩
   ·exact hb1.cell (p:=⟨b,o,none⟩) (hS b o q)
   ·have hbD : b≠D:=by
     rintro rfl
     obtain ⟨y,hy,hyc⟩:=cells_of_cell q
     rw [show W.heap[b]? = _ from hK] at hy
     cases hy; cases hyc
    exact uDM ((World.putObj_heap_other hbD).trans (k2 b (by omega))) o
  have z0 : (W1.putObj D (.deferred none)).cell? ⟨w.heap.size,0,none⟩=some (tInt (tupT ts).kind):=by unfold World.cell?; rw [k3]; rfl
  have z1 : (W1.putObj D (.deferred none)).cell? ⟨w.heap.size,1,none⟩=some (tStr (tupT ts).name):=by unfold World.cell?; rw [k3]; rfl
  have z2 : (W1.putObj D (.deferred none)).cell? ⟨w.heap.size,2,none⟩=some (tInt (tupT ts).sort):=by unfold World.cell?; rw [k3]; rfl
  have z3 : (W1.putObj D (.deferred none)).cell? ⟨w.heap.size,3,none⟩=some (.slice p l' k):=by unfold World.cell?; rw [k3]; rfl
  refine ⟨.agg #[tInt (tupT ts).kind,tStr (tupT ts).name,tInt (tupT ts).sort, .slice p l' k],?_,[tInt (tupT ts).kind,tStr (tupT ts).name,tInt (tupT ts).sort, .slice p l' k],S',rfl,⟨.i _ _, .s _ hn', .i _ _,Abs.CRep.mono (fun _ _ h=>h) hold h3,trivial⟩,h6.trans hb1,h4,fun b o hs=>?_⟩
  ·simp [results,Tryz.f115,go_sem,z0,z1,z2,z3]
  ·rcases h5 b o hs with q | ⟨q1,v,q⟩
   ·exact .inl q
   ·have := World.block_lt_of_cell? (a := ⟨b,o,none⟩) W q
    have hsz5:=hb1.size
    exact .inr ⟨by omega,Nat.lt_of_lt_of_le this hsz5⟩
 case stop=>rintro D c pre W _ _ h _; exact h.elim
theorem uJS (ts : List T) (hts : 0 < ts.length) (hmax : ts.length≤3000000) : Abs.Ctr sys 115 [xl ts] [] (xm (tupT ts)) none []:=by
 refine ⟨⟨_,Tryz.func115,by kernel_rfl,by kernel_rfl⟩,fun w G vs hvs hwf hbx hbox hown _=>?_⟩
 match vs,hvs with
 | [v],⟨hv,_⟩ =>
  have hv : Abs.CRep w G.S (.sl 4 (T.rows ts)) v:=hv
  have hS : ∀ b o,G.S b o→b < w.heap.size:=fun b o hs=>hwf b o (by rw [show G.W b o = .imm from hs]; simp)
  refine (callsIn_wide.1 (uNM Fence.wide 3 trivial trivial trivial rfl (Nat.le_refl _) w G.S hS ts hts hmax v hv)).mono ?_
  rintro e W' ⟨us,S',rfl,h1,h2,h3,h4⟩
  open Classical in
  let G' : Abs.Gh:={ G with W:=fun b o=>if S' b o then .imm else G.W b o }
  have hI : ∀ b o,G'.W b o = .imm→S' b o:=fun b o h=>by
   by_cases hs : S' b o
   ·exact hs
   ·have h : (if S' b o then Abs.Who.imm else G.W b o) = .imm:=h
    rw [if_neg hs] at h
    exact h3 b o h
  have hO : ∀ b o p,G'.W b o ≠ .own p:=fun b o p h=>by
   have h : (if S' b o then Abs.Who.imm else G.W b o) = .own p:=h
   split at h
   ·cases h
   ·exact hown b o p h
  refine ⟨_,G',rfl,Abs.Fr.ofBelow h2,fun b o h=>if_pos (h3 b o h),fun b o hb h=>?_,fun b o h=>?_,⟨us,rfl,h1.mono fun c v hc=>hc.mono (fun b o hs=>if_pos hs) (fun _ _ _=>rfl)⟩,fun _=>rfl,fun j cs h=>by simp at h,fun sz h=>by simp at h,fun b o h=>absurd h (hO b o _)⟩
  ·rcases h4 b o (hI b o h) with q | ⟨q,_⟩
   ·exact q
   ·omega
  ·by_cases hs : S' b o
   ·rcases h4 b o hs with q | ⟨_,q⟩
    ·exact Nat.lt_of_lt_of_le (hS b o q) h2.size
    ·exact q
   ·have h : (if S' b o then Abs.Who.imm else G.W b o) ≠ .none:=h
    rw [if_neg hs] at h
    exact Nat.lt_of_lt_of_le (hwf b o h) h2.size
theorem uFq (l : List Tk) (hl : l.length≤2000000) (n : Nat) (p : PS) (hp : p.at'≤l.length) (hn : l.length - p.at' < n) : Abs.Ctr sys 66 [xpp] [pbx l p] (xm (uAO l n p).1) none [pbx l (uAO l n p).2] :=
 uMS l hl (fun ts h1 h2=>uJS ts h1 h2) n p hp hn
end Go.Proofs.YtnjjdbapadkomaaGreatDoor
namespace Go.Abs
def uN1 (s : St) (os : OS) : Bool:=os.all fun e=>match s.own (.b (.o e.1) e.2.1) with
 | some z=>Nat.beq z e.2.2
 | none=>false
theorem uBD {T : List (Option TyI)} {rs : List ResultVar} {res x : X} {bs' : List (List C)} {os : OS} {s : St} (h : resX T s rs=some x) (hx : x=res) (hb : subB s (uC9 0 bs')) (ho : uN1 s os=true) : retO T rs res bs' os .box .normal s:=by
 have h1 : retS T rs res none bs' .ret s:=uAr h hx hb
 refine ⟨h1.1,h1.2.2,fun e he=>?_⟩
 have := List.all_eq_true.1 ho e he
 split at this
 ·rename_i z hz; rw [hz,Nat.eq_of_beq_eq_true this]
 ·simp at this
end Go.Abs
namespace Go.Proofs.YtnjjdbapadkomaaGreatDoor
open Go Go.Abs
noncomputable def sysO : Pg:={ P:=Tryz.prog,T:=tab,ok:=uMj,mix:=uMO,gv:=[(0,intAt)],old:=true }
theorem up {f : FuncId} {args : List X} {bs bs' : List (List C)} {res : X} {ro : Option Nat} (h : Ctr sys f args bs res ro bs') : Ctr sysO f args bs res ro bs':=h.wk rfl fun _ hg=>hg
def osN : OS:=[(1,1,1),(1,2,3),(1,3,1),(1,4,7),(1,5,5)]
abbrev xnn : X:=.v (.ptr (.o 1) 0)
theorem uBt {l : List Tk} {c : List UInt8} {p : PS} (h : p.at'≤l.length) : (uAN l c p).at'≤l.length:=(uBm l c p).2 h
theorem uBp {l : List Tk} {ws : List (List UInt8)} {p : PS} (h : p.at'≤l.length) : (uAv l ws p).2.at'≤l.length:=(uA3 l ws p).2 h
theorem le3 {l : List Tk} {x : Nat} (hl : l.length≤2000000) (h : x≤l.length) : x≤3000000:=by omega
theorem uMX (l : List Tk) (p : PS) (n : Nar) (line : Int) (hl : l.length≤2000000) (hp : p.at'≤l.length) (hn : n.steps.length≤3000000)
  (hterm : ∀ p : PS,p.at'≤l.length→Ctr sys 66 [xpp] [pbx l p] (xm (uAO l (l.length + 1) p).1) none [pbx l (uAO l (l.length + 1) p).2]) :
  CtrO sysO 111 [xpp,xnn,xi line] [pbx l p,n.cells] osN (.tup []) [pbx l (uCS l line p).2,({ n with steps:=n.steps++[(uCS l line p).1] } : Nar).cells] .box:=by
 have hrs:=Sp.rows_len n.steps
 have hrl:=Tk.rows_len l
 refine uDf Tryz.func111 rfl rfl rfl rfl rfl rfl rfl ?_;refine uAe (uAb ?_);refine uAa rfl rfl rfl (uAc rfl gU) ?_;refine uAE (.o 0) rfl rfl rfl rfl rfl rfl (up (uBB l _ [] (by omega) (le3 hl (by repeat (first | exact hp | refine uBt ?_ | refine uBp ?_))))) rfl (by rfl) (by rfl) rfl rfl rfl ?_;refine uAa rfl rfl rfl (uAc rfl gU) ?_;refine uAa rfl rfl rfl (uAS rfl Tryz.underlying67 rfl gU) ?_;refine uAs rfl (uAI rfl rfl rfl) ?_;refine uAs rfl (uAt rfl rfl rfl rfl rfl rfl rfl) ?_;refine uAf ?_;refine uAn (s:=⟨[(0,_,_),(1,_,_),(6,_,_)],[(.l 6,_),(.o 0,_),(.o 1,_)],[(.b (.o 1) 1,_),(.b (.o 1) 2,_),(.b (.o 1) 3,_),(.b (.o 1) 4,_),(.b (.o 1) 5,_)],[]⟩) (uAj (⟨sx rfl,sx rfl,sx rfl,trivial⟩) (⟨sx rfl,sx rfl,sx rfl,trivial⟩) (⟨rfl,rfl,rfl,rfl,rfl,trivial⟩)) ?_;refine uAe (uAb ?_);refine uAa rfl rfl rfl (uAc rfl gU) ?_;refine uAE (.o 0) rfl rfl rfl rfl rfl rfl (up (uBd l _ _ (by omega) (le3 hl (by repeat (first | exact hp | refine uBt ?_ | refine uBp ?_))))) rfl (by rfl) (by rfl) rfl rfl rfl ?_;refine uAf ?_;refine uAe (uAb ?_);refine uAa rfl rfl rfl (uAc rfl gU) ?_;refine uAE (.o 0) rfl rfl rfl rfl rfl rfl (up (uBd l _ _ (by omega) (le3 hl (by repeat (first | exact hp | refine uBt ?_ | refine uBp ?_))))) rfl (by rfl) (by rfl) rfl rfl rfl ?_
 refine uAf ?_;refine uAe (uAb ?_);refine uAa rfl rfl rfl (uAc rfl gU) ?_;refine uAE (.o 0) rfl rfl rfl rfl rfl rfl (up (uBB l _ [] (by omega) (le3 hl (by repeat (first | exact hp | refine uBt ?_ | refine uBp ?_))))) rfl (by rfl) (by rfl) rfl rfl rfl ?_;refine uAa rfl rfl rfl (uAg rfl gU rfl rfl) ?_;refine uAs rfl (uAt rfl rfl rfl rfl rfl rfl rfl) ?_;refine uAf ?_;refine uAn (s:=⟨[(0,_,_),(1,_,_),(6,_,_)],[(.l 6,_),(.o 0,_),(.o 1,_)],[(.b (.o 1) 1,_),(.b (.o 1) 2,_),(.b (.o 1) 3,_),(.b (.o 1) 4,_),(.b (.o 1) 5,_)],[]⟩) (uAj (⟨sx rfl,sx rfl,sx rfl,trivial⟩) (⟨sx rfl,sx rfl,sx rfl,trivial⟩) (⟨rfl,rfl,rfl,rfl,rfl,trivial⟩)) ?_;refine uAe (uAb ?_);refine uAa rfl rfl rfl (uAc rfl gU) ?_;refine uAE (.o 0) rfl rfl rfl rfl rfl rfl (up (uBd l _ _ (by omega) (le3 hl (by repeat (first | exact hp | refine uBt ?_ | refine uBp ?_))))) rfl (by rfl) (by rfl) rfl rfl rfl ?_;refine uAf ?_;refine uAe (uAb ?_);refine uAa rfl rfl rfl (uAc rfl gU) ?_;refine uAE (.o 0) rfl rfl rfl rfl rfl rfl (up (hterm _ (by repeat (first | exact hp | refine uBt ?_ | refine uBp ?_)))) rfl (by rfl) (by rfl) rfl rfl rfl ?_;refine uAa rfl rfl rfl (uAg rfl gU rfl rfl) ?_;refine uAs rfl (uAt rfl rfl rfl rfl rfl rfl rfl) ?_;refine uAf ?_;refine uAn (s:=⟨[(1,_,_),(6,_,_)],[(.l 6,_),(.o 0,_),(.o 1,_)],[(.b (.o 1) 1,_),(.b (.o 1) 2,_),(.b (.o 1) 3,_),(.b (.o 1) 4,_),(.b (.o 1) 5,_)],[]⟩) (uAj (⟨sx rfl,sx rfl,trivial⟩) (⟨sx rfl,sx rfl,sx rfl,trivial⟩) (⟨rfl,rfl,rfl,rfl,rfl,trivial⟩)) ?_
 refine awp_drawn' (by kernel_rfl) ?_;refine uAi rfl rfl rfl rfl (uAc rfl gU) ?_;refine uAi rfl rfl rfl rfl (uAc rfl gU) ?_;refine uAi rfl rfl rfl rfl (uAz rfl gU) ?_;refine uAi rfl rfl rfl rfl (uAg rfl gU rfl rfl) ?_;refine uB3 rfl rfl rfl rfl rfl rfl rfl rfl rfl rfl rfl rfl ?_;refine uBi rfl rfl rfl rfl rfl rfl rfl gU rfl rfl rfl rfl rfl ?_;refine uCh (xs:=[_]) rfl rfl rfl rfl rfl rfl rfl rfl rfl rfl gU rfl ?_;refine uBZ rfl rfl rfl rfl rfl rfl rfl rfl rfl rfl rfl (by first | omega | (simp only [List.length_append,List.length_singleton,Sp.rows_len]; omega)) (by first | omega | (simp only [List.length_append,List.length_singleton,Sp.rows_len]; omega)) ?_;refine uAi rfl rfl rfl rfl (uAz rfl gU) ?_;refine uAi rfl rfl rfl rfl (uAg rfl gU rfl rfl) ?_;refine uB5 rfl rfl rfl rfl rfl rfl rfl rfl rfl rfl rfl rfl ?_;refine uBe (by kernel_rfl) ?_;refine uBD rfl ?_ (⟨⟨_,rfl,?_⟩,⟨⟨_,rfl,?_⟩,trivial⟩⟩) (by kernel_rfl)
 all_goals first | rfl | (simp only [Nar.cells,Sp.rows_app]; rfl)
end Go.Proofs.YtnjjdbapadkomaaGreatDoor
namespace Go.Proofs.YtnjjdbapadkomaaGreatDoor
open Go Go.Abs
theorem uGx (s : List UInt8) : ∀ l : List (List UInt8),uBC l s=idxF (fun x=>decide (s=x)) l
 | []=>rfl
 | x :: l=>by
  rw [uBC,idxF,uGx s l]
  by_cases h : x=s
  ·rw [if_pos h,if_pos (by simp [h])]
  ·have h' : ¬decide (s=x)=true:=by rw [decide_eq_true_eq]; exact fun e=>h (Eq.symm e)
   rw [if_neg h,if_neg h']
theorem uEF (s : List UInt8) : ∀ l : List (List UInt8),-1≤uBC l s∧uBC l s < l.length
 | []=>by simp [uBC]
 | x :: l=>by
  have := uEF s l
  rw [uBC]
  simp only [List.length_cons]
  split
  ·omega
  ·split <;> omega
theorem uEK : Ctr sys 95 [] [] (xss kindW) none []:=by
 refine uAA Tryz.func95 rfl rfl rfl rfl rfl rfl ?_;refine uAe (uAb ?_);refine uAa rfl rfl rfl (uAd rfl gU) ?_;refine uAf ?_;refine uAe (uAb ?_);refine uAM (xs:=[_,_,_,_,_]) rfl rfl rfl rfl rfl rfl rfl rfl rfl gU rfl ?_;refine uAa rfl rfl rfl (uAd rfl gU) ?_;refine uAf ?_;refine uAo ?_
 repeat (first | refine tR ?_ | refine bR ?_)
 refine uAr rfl ?_ trivial
 rfl
theorem uEJ : Ctr sys 41 [] [] (xss sortW) none []:=by
 refine uAA Tryz.func41 rfl rfl rfl rfl rfl rfl ?_;refine uAe (uAb ?_);refine uAa rfl rfl rfl (uAd rfl gU) ?_;refine uAf ?_;refine uAe (uAb ?_);refine uAM (xs:=[_,_,_]) rfl rfl rfl rfl rfl rfl rfl rfl rfl gU rfl ?_;refine uAa rfl rfl rfl (uAd rfl gU) ?_;refine uAf ?_;refine uAo ?_
 repeat (first | refine tR ?_ | refine bR ?_)
 refine uAr rfl ?_ trivial
 rfl
set_option maxHeartbeats 2000000 in
theorem uMw (l : List Tk) (p : PS) (n : Nar) (line : Int) (hl : l.length≤2000000) (hp : p.at'≤l.length) (hn : n.goals.length≤3000000)
  (hterms : ∀ p : PS,p.at'≤l.length→Ctr sys 116 [xpp] [pbx l p] (xl (uAX l (uAO l (l.length + 1)) p).1) none [pbx l (uAX l (uAO l (l.length + 1)) p).2]) :
  CtrO sysO 112 [xpp,xnn,xi line] [pbx l p,n.cells] osN (.tup []) [pbx l (uCt l line p).2,({ n with goals:=n.goals++[(uCt l line p).1] } : Nar).cells] .box:=by
 have hrs:=Gl.rows_len n.goals
 have hrl:=Tk.rows_len l
 have hix:=uEF (uAv l kindW p).1 kindW
 have hkl : (kindW.length : Int)=5:=rfl
 have hixs:=uEM kindW (uAv l kindW p).1
 rw [← uGx] at hixs
 refine uDf Tryz.func112 rfl rfl rfl rfl rfl rfl rfl ?_;refine uAe (uAb ?_);refine uAa rfl rfl rfl (uAc rfl gU) ?_;refine uAa rfl rfl rfl (uAS rfl Tryz.underlying70 rfl gU) ?_;refine uAs rfl (uAI rfl rfl rfl) ?_;refine uAs rfl (uAt rfl rfl rfl rfl rfl rfl rfl) ?_;refine uAf ?_;refine uAe (uAb ?_);refine uAw rfl rfl rfl rfl rfl rfl gU gU (up uEK) rfl ?_;refine uAa rfl rfl rfl (uAc rfl gU) ?_;refine uAw rfl rfl rfl rfl rfl rfl gU gU (up uEK) rfl ?_;refine uAE (.o 0) rfl rfl rfl rfl rfl rfl (up (uBB l _ kindW (by omega) (le3 hl (by repeat (first | exact hp | refine uBt ?_ | refine uBp ?_))))) rfl (by rfl) (by rfl) rfl rfl rfl ?_;refine uAw rfl rfl rfl rfl rfl rfl gU gU (up hixs) rfl ?_;refine uAa rfl rfl rfl (uAu rfl rfl gU gU rfl (IntWalk.i64_in _ (by omega))) ?_;refine uAa rfl rfl rfl (uAg rfl gU rfl rfl) ?_;refine uAs rfl (uAt rfl rfl rfl rfl rfl rfl rfl) ?_;refine uAf ?_;refine uAn (s:=⟨[(0,_,_),(1,_,_),(6,_,_)],[(.l 6,_),(.o 0,_),(.o 1,_)],[(.b (.o 1) 1,_),(.b (.o 1) 2,_),(.b (.o 1) 3,_),(.b (.o 1) 4,_),(.b (.o 1) 5,_)],[]⟩) (uAj (⟨sx rfl,sx rfl,sx rfl,trivial⟩) (⟨sx rfl,sx rfl,sx rfl,trivial⟩) (⟨rfl,rfl,rfl,rfl,rfl,trivial⟩)) ?_;refine uAe (uAb ?_);refine uAa rfl rfl rfl (uAc rfl gU) ?_;refine uAE (.o 0) rfl rfl rfl rfl rfl rfl (up (uBB l _ [] (by omega) (le3 hl (by repeat (first | exact hp | refine uBt ?_ | refine uBp ?_))))) rfl (by rfl) (by rfl) rfl rfl rfl ?_
 refine uAa rfl rfl rfl (uAg rfl gU rfl rfl) ?_;refine uAs rfl (uAt rfl rfl rfl rfl rfl rfl rfl) ?_;refine uAf ?_;refine uAe ?_;refine uAe (uAb ?_);refine uAa rfl rfl rfl (uAp rfl gU rfl rfl rfl rfl rfl) ?_;refine uAw rfl rfl rfl rfl rfl rfl gU gU (up (uB1 ⟨1 + uBC kindW (uAv l kindW p).1,(uAv l [] (uAv l kindW p).2).1,[],[],line⟩)) rfl ?_;refine uAf ?_;refine uAn (s:=⟨[(0,_,_),(1,_,_),(6,_,_),(20,_,_)],[(.l 6,_),(.o 0,_),(.o 1,_)],[(.b (.o 1) 1,_),(.b (.o 1) 2,_),(.b (.o 1) 3,_),(.b (.o 1) 4,_),(.b (.o 1) 5,_)],[]⟩) (uAj (⟨sx rfl,sx rfl,sx rfl,sx rfl,trivial⟩) (⟨sx rfl,sx rfl,sx rfl,trivial⟩) (⟨rfl,rfl,rfl,rfl,rfl,trivial⟩)) ?_;refine uAm rfl (fun hc=>?_) (fun hc=>?_)
 ·have h : uBF (1 + uBC kindW (uAv l kindW p).1)=true:=hc
  refine uAb ?_;refine uAa rfl rfl rfl (uAc rfl gU) ?_;refine uAE (.o 0) rfl rfl rfl rfl rfl rfl (up (uBB l _ [] (by omega) (le3 hl (by repeat (first | exact hp | refine uBt ?_ | refine uBp ?_))))) rfl (by rfl) (by rfl) rfl rfl rfl ?_;refine uAa rfl rfl rfl (uAg rfl gU rfl rfl) ?_;refine uAs rfl (uAt rfl rfl rfl rfl rfl rfl rfl) ?_;refine uAf ?_;refine uAe (uAb ?_);refine uAa rfl rfl rfl (uAc rfl gU) ?_;refine uAE (.o 0) rfl rfl rfl rfl rfl rfl (up (uBd l _ _ (by omega) (le3 hl (by repeat (first | exact hp | refine uBt ?_ | refine uBp ?_))))) rfl (by rfl) (by rfl) rfl rfl rfl ?_;refine uAf ?_;refine uAn (s:=⟨[(0,_,_),(1,_,_),(6,_,_)],[(.l 6,_),(.o 0,_),(.o 1,_)],[(.b (.o 1) 1,_),(.b (.o 1) 2,_),(.b (.o 1) 3,_),(.b (.o 1) 4,_),(.b (.o 1) 5,_)],[]⟩) (uAj (⟨sx rfl,sx rfl,sx rfl,trivial⟩) (⟨sx rfl,sx rfl,sx rfl,trivial⟩) (⟨rfl,rfl,rfl,rfl,rfl,trivial⟩)) ?_;refine uAe (uAb ?_);refine uAa rfl rfl rfl (uAc rfl gU) ?_;refine uAE (.o 0) rfl rfl rfl rfl rfl rfl (up (hterms _ (by repeat (first | exact hp | refine uBt ?_ | refine uBp ?_)))) rfl (by rfl) (by rfl) rfl rfl rfl ?_;refine uAa rfl rfl rfl (uAg rfl gU rfl rfl) ?_;refine uAs rfl (uAt rfl rfl rfl rfl rfl rfl rfl) ?_;refine uAf ?_;refine awp_drawn' (by kernel_rfl) ?_;refine uAi rfl rfl rfl rfl (uAc rfl gU) ?_
  refine uAi rfl rfl rfl rfl (uAc rfl gU) ?_;refine uAi rfl rfl rfl rfl (uAz rfl gU) ?_;refine uAi rfl rfl rfl rfl (uAg rfl gU rfl rfl) ?_;refine uB3 rfl rfl rfl rfl rfl rfl rfl rfl rfl rfl rfl rfl ?_;refine uBi rfl rfl rfl rfl rfl rfl rfl gU rfl rfl rfl rfl rfl ?_;refine uCh (xs:=[_]) rfl rfl rfl rfl rfl rfl rfl rfl rfl rfl gU rfl ?_;refine uBZ rfl rfl rfl rfl rfl rfl rfl rfl rfl rfl rfl (by first | omega | (simp only [List.length_append,List.length_singleton,Gl.rows_len]; omega)) (by first | omega | (simp only [List.length_append,List.length_singleton,Gl.rows_len]; omega)) ?_;refine uAi rfl rfl rfl rfl (uAz rfl gU) ?_;refine uAi rfl rfl rfl rfl (uAg rfl gU rfl rfl) ?_;refine uB5 rfl rfl rfl rfl rfl rfl rfl rfl rfl rfl rfl rfl ?_;refine uBe (by kernel_rfl) ?_;refine uBD rfl ?_ (⟨⟨_,rfl,?_⟩,⟨⟨_,rfl,?_⟩,trivial⟩⟩) (by kernel_rfl)
  all_goals first | rfl | (simp only [Nar.cells,Gl.rows_app,uCt,h,if_true]; done) | (simp only [Nar.cells,Gl.rows_app,uCt,h,if_true]; rfl)
 ·have h : uBF (1 + uBC kindW (uAv l kindW p).1)=false:=hc
  refine uAq ?_;refine uAe (uAb ?_);refine uAa rfl rfl rfl (uAc rfl gU) ?_;refine uAE (.o 0) rfl rfl rfl rfl rfl rfl (up (uBd l _ _ (by omega) (le3 hl (by repeat (first | exact hp | refine uBt ?_ | refine uBp ?_))))) rfl (by rfl) (by rfl) rfl rfl rfl ?_;refine uAf ?_;refine uAe (uAb ?_);refine uAa rfl rfl rfl (uAc rfl gU) ?_;refine uAE (.o 0) rfl rfl rfl rfl rfl rfl (up (hterms _ (by repeat (first | exact hp | refine uBt ?_ | refine uBp ?_)))) rfl (by rfl) (by rfl) rfl rfl rfl ?_;refine uAa rfl rfl rfl (uAg rfl gU rfl rfl) ?_;refine uAs rfl (uAt rfl rfl rfl rfl rfl rfl rfl) ?_;refine uAf ?_;refine uAn (s:=⟨[(1,_,_),(6,_,_)],[(.l 6,_),(.o 0,_),(.o 1,_)],[(.b (.o 1) 1,_),(.b (.o 1) 2,_),(.b (.o 1) 3,_),(.b (.o 1) 4,_),(.b (.o 1) 5,_)],[]⟩) (uAj (⟨sx rfl,sx rfl,trivial⟩) (⟨sx rfl,sx rfl,sx rfl,trivial⟩) (⟨rfl,rfl,rfl,rfl,rfl,trivial⟩)) ?_;refine awp_drawn' (by kernel_rfl) ?_;refine uAi rfl rfl rfl rfl (uAc rfl gU) ?_;refine uAi rfl rfl rfl rfl (uAc rfl gU) ?_;refine uAi rfl rfl rfl rfl (uAz rfl gU) ?_;refine uAi rfl rfl rfl rfl (uAg rfl gU rfl rfl) ?_;refine uB3 rfl rfl rfl rfl rfl rfl rfl rfl rfl rfl rfl rfl ?_;refine uBi rfl rfl rfl rfl rfl rfl rfl gU rfl rfl rfl rfl rfl ?_;refine uCh (xs:=[_]) rfl rfl rfl rfl rfl rfl rfl rfl rfl rfl gU rfl ?_
  refine uBZ rfl rfl rfl rfl rfl rfl rfl rfl rfl rfl rfl (by first | omega | (simp only [List.length_append,List.length_singleton,Gl.rows_len]; omega)) (by first | omega | (simp only [List.length_append,List.length_singleton,Gl.rows_len]; omega)) ?_;refine uAi rfl rfl rfl rfl (uAz rfl gU) ?_;refine uAi rfl rfl rfl rfl (uAg rfl gU rfl rfl) ?_;refine uB5 rfl rfl rfl rfl rfl rfl rfl rfl rfl rfl rfl rfl ?_;refine uBe (by kernel_rfl) ?_;refine uBD rfl ?_ (⟨⟨_,rfl,?_⟩,⟨⟨_,rfl,?_⟩,trivial⟩⟩) (by kernel_rfl)
  all_goals first | rfl | (simp only [Nar.cells,Gl.rows_app,uCt,h,Bool.false_eq_true,if_false]; done) | (simp only [Nar.cells,Gl.rows_app,uCt,h,Bool.false_eq_true,if_false]; rfl)
end Go.Proofs.YtnjjdbapadkomaaGreatDoor
namespace Go.Proofs.YtnjjdbapadkomaaGreatDoor
open Go Go.Abs
set_option maxHeartbeats 2000000 in
theorem uFT (l : List Tk) (p : PS) (n : Nar) (hl : l.length≤2000000) (hp : p.at'≤l.length) (hn : n.fresh.length≤3000000) :
  CtrO sysO 110 [xpp,xnn] [pbx l p,n.cells] osN (.tup []) [pbx l (uB7 l p n.fresh).2,({ n with fresh:=(uB7 l p n.fresh).1 } : Nar).cells] .box:=by
 have hrl:=Tk.rows_len l
 have a1:=uA3 l [] p
 have a2:=uBm l [58] (uAv l [] p).2
 have a3 : (uAN l [58] (uAv l [] p).2).at'≤l.length:=uBt (uBp hp)
 have hrole : ∃ r,(uAv l [] p).1=r:=⟨_,rfl⟩
 obtain ⟨role,hrole⟩:=hrole
 refine uDf Tryz.func110 rfl rfl rfl rfl rfl rfl rfl ?_;refine uAe (uAb ?_);refine uAa rfl rfl rfl (uAc rfl gU) ?_;refine uAE (.o 0) rfl rfl rfl rfl rfl rfl (up (uBB l _ [] (by omega) (le3 hl (by repeat (first | assumption | refine uBt ?_ | refine uBp ?_))))) rfl (by rfl) (by rfl) rfl rfl rfl ?_;refine uAa rfl rfl rfl (uAd rfl gU) ?_;refine uAf ?_;refine uAe (uAb ?_);refine uAa rfl rfl rfl (uAc rfl gU) ?_;refine uAE (.o 0) rfl rfl rfl rfl rfl rfl (up (uBd l _ _ (by omega) (le3 hl (by repeat (first | assumption | refine uBt ?_ | refine uBp ?_))))) rfl (by rfl) (by rfl) rfl rfl rfl ?_;refine uAf ?_;refine uAn (s:=⟨[(0,_,_),(1,_,_),(4,_,_)],[(.o 0,_),(.o 1,_)],[(.b (.o 1) 1,_),(.b (.o 1) 2,_),(.b (.o 1) 3,_),(.b (.o 1) 4,_),(.b (.o 1) 5,_)],[]⟩) (uAj (⟨sx rfl,sx rfl,sx rfl,trivial⟩) (⟨sx rfl,sx rfl,trivial⟩) (⟨rfl,rfl,rfl,rfl,rfl,trivial⟩)) ?_;refine uAe (uAb ?_);refine uAa rfl rfl rfl (uAd rfl gU) ?_;refine uAf ?_;refine uAx ?_
 rw [hrole]
 refine uA6 (ι:=PS × Bool × List Fs) { t:=[(0,_,_),(1,_,_),(4,_,_)],bx:=[],ow:=[(.b (.o 1) 1,_),(.b (.o 1) 2,_),(.b (.o 1) 3,_),(.b (.o 1) 4,_),(.b (.o 1) 5,_)] } (fun q=>[(5,true,xb q.2.1)]) (fun q=>[((.o 0),pbx l q.1),((.o 1),({ n with fresh:=q.2.2 } : Nar).cells)]) (fun q=>q.1.at'≤l.length∧q.2.2.length≤n.fresh.length + q.1.at' + (if q.2.1=true then 0 else 1) ∧ ∃ k,l.length + 1≤k + q.1.at'∧(if q.2.1=true then uCd l role k q.1 q.2.2 else (q.2.2,q.1))=uB7 l p n.fresh) (fun q=>(if q.2.1=true∧q.1.bad=false then 1 else 0) + (l.length - q.1.at')) ((uAN l [58] (uAv l [] p).2,true,n.fresh)) (⟨a3,by simp,l.length + 1,by dsimp only; omega,by dsimp only; rw [← hrole]; rfl⟩) (uAj (⟨sx rfl,sx rfl,sx rfl,sx rfl,trivial⟩) (⟨sx rfl,sx rfl,trivial⟩) (⟨rfl,rfl,rfl,rfl,rfl,trivial⟩)) ?_
 intro q hok
 dsimp only [List.cons_append,List.nil_append] at *
 obtain ⟨q,more,out⟩:=q
 dsimp only at hok ⊢
 obtain ⟨hq,ho,k,hk,hi⟩:=hok
 have hro:=Fs.rows_len out
 refine uAe ?_;refine uAe (uAb ?_);refine uAa rfl rfl rfl (uAc rfl gU) ?_;refine uAa rfl rfl rfl (uAc rfl gU) ?_;refine uAa rfl rfl rfl (uAc rfl gU) ?_;refine uAa rfl rfl rfl (uAz rfl (fun hh=>hh)) ?_;refine uAa rfl rfl rfl (uAg rfl (fun hh=>hh) rfl rfl) ?_;refine uAa rfl rfl rfl (uAl rfl (fun hh=>hh) rfl rfl rfl rfl) ?_;refine uAa rfl rfl rfl (uA0 rfl (fun hh=>hh)) ?_;refine uAa rfl rfl rfl (uAQ rfl rfl gU (fun _ hi=>gP rfl hi)) ?_;refine uAf ?_;refine uAn (s:=⟨[(0,_,_),(1,_,_),(4,_,_),(19,_,_)],[(.o 0,_),(.o 1,_)],[(.b (.o 1) 1,_),(.b (.o 1) 2,_),(.b (.o 1) 3,_),(.b (.o 1) 4,_),(.b (.o 1) 5,_)],[]⟩) (uAj (⟨sx rfl,sx rfl,sx rfl,sx rfl,trivial⟩) (⟨sx rfl,sx rfl,trivial⟩) (⟨rfl,rfl,rfl,rfl,rfl,trivial⟩)) ?_;refine uAm rfl (fun hc=>?_) (fun hc=>?_)
 ·try simp only [nn,uAh,T.rows_len,Tk.rows_len] at hc
  obtain ⟨hm,hb⟩:=hc
  rw [if_pos hm] at hi ho
  obtain ⟨k,rfl⟩ : ∃ j,k=j + 1:=⟨k - 1,by omega⟩
  rw [uCd,if_neg (by rw [hb]; simp)] at hi
  have b1:=uA3 l [] q
  have b2:=uA3 l sortW (uAv l [] q).2
  have hix:=uEF (uAv l sortW (uAv l [] q).2).1 sortW
  have hsl : (sortW.length : Int)=3:=rfl
  have hixs:=uEM sortW (uAv l sortW (uAv l [] q).2).1
  rw [← uGx] at hixs
  refine uAq ?_;refine uAe ?_;refine uAx ?_;refine uAe (uAb ?_);refine uAa rfl rfl rfl (uAc rfl gU) ?_;refine uAE (.o 0) rfl rfl rfl rfl rfl rfl (up (uBB l _ [] (by omega) (le3 hl (by repeat (first | assumption | refine uBt ?_ | refine uBp ?_))))) rfl (by rfl) (by rfl) rfl rfl rfl ?_;refine uAa rfl rfl rfl (uAd rfl gU) ?_;refine uAf ?_;refine uAe (uAb ?_);refine uAw rfl rfl rfl rfl rfl rfl gU gU (up uEJ) rfl ?_;refine uAa rfl rfl rfl (uAc rfl gU) ?_;refine uAw rfl rfl rfl rfl rfl rfl gU gU (up uEJ) rfl ?_;refine uAE (.o 0) rfl rfl rfl rfl rfl rfl (up (uBB l _ sortW (by omega) (le3 hl (by repeat (first | assumption | refine uBt ?_ | refine uBp ?_))))) rfl (by rfl) (by rfl) rfl rfl rfl ?_;refine uAw rfl rfl rfl rfl rfl rfl gU gU (up hixs) rfl ?_;refine uAa rfl rfl rfl (uAu rfl rfl gU gU rfl (IntWalk.i64_in _ (by omega))) ?_;refine uAa rfl rfl rfl (uAd rfl gU) ?_;refine uAf ?_;refine uAn (s:=⟨[(0,_,_),(1,_,_),(4,_,_),(6,_,_),(7,_,_)],[(.o 0,_),(.o 1,_)],[(.b (.o 1) 1,_),(.b (.o 1) 2,_),(.b (.o 1) 3,_),(.b (.o 1) 4,_),(.b (.o 1) 5,_)],[]⟩) (uAj (⟨sx rfl,sx rfl,sx rfl,sx rfl,sx rfl,trivial⟩) (⟨sx rfl,sx rfl,trivial⟩) (⟨rfl,rfl,rfl,rfl,rfl,trivial⟩)) ?_;refine uAb ?_;refine uAa rfl rfl rfl (uAc rfl gU) ?_;refine uAa rfl rfl rfl (uAc rfl gU) ?_
  refine uAa rfl rfl rfl (uAz rfl gU) ?_;refine uAa rfl rfl rfl (uAg rfl gU rfl rfl) ?_;refine uAs rfl (uEv rfl rfl rfl rfl rfl rfl rfl) ?_;refine uAa rfl rfl rfl (uAc rfl gU) ?_;refine uAa rfl rfl rfl (uAc rfl gU) ?_;refine uAa rfl rfl rfl (uAc rfl gU) ?_;refine uAa rfl rfl rfl (uAS rfl Tryz.underlying73 rfl gU) ?_;refine uAM (xs:=[_]) rfl rfl rfl rfl rfl rfl rfl rfl rfl gU rfl ?_;refine uAs rfl (uA5 rfl rfl rfl rfl rfl rfl rfl (by first | omega | (simp only [List.length_append,List.length_singleton,Fs.rows_len]; omega)) (by first | omega | (simp only [List.length_append,List.length_singleton,Fs.rows_len]; omega))) ?_;refine uAa rfl rfl rfl (uAz rfl gU) ?_;refine uBo (s:=⟨[(0,_,_),(1,_,_),(4,_,_),(40,_,_),(41,_,_)],[(.o 0,_),(.o 1,_)],[(.b (.o 1) 1,_),(.b (.o 1) 3,_),(.b (.o 1) 4,_),(.b (.o 1) 5,_),(.t 40,_)],[]⟩) (uAj (⟨sx rfl,sx rfl,sx rfl,sx rfl,sx rfl,trivial⟩) (⟨sx rfl,sx rfl,trivial⟩) (⟨rfl,rfl,rfl,rfl,rfl,trivial⟩)) ?_;refine uAa rfl rfl rfl (uAg rfl gU rfl rfl) ?_;refine uAs rfl (uEs rfl rfl rfl rfl rfl rfl rfl) ?_;refine uAf ?_;refine uAb ?_;refine uAa rfl rfl rfl (uAc rfl gU) ?_;refine uAE (.o 0) rfl rfl rfl rfl rfl rfl (up (uBP l _ _ (by omega) (le3 hl (by repeat (first | assumption | refine uBt ?_ | refine uBp ?_))))) rfl (by rfl) (by rfl) rfl rfl rfl ?_
  refine uAa rfl rfl rfl (uAd rfl gU) ?_;refine uAf ?_
  generalize hq2 : (uAv l sortW (uAv l [] q).2).2=q2 at *
  refine ⟨(symP l q2 [44],symQ l q2 [44],out++[⟨role,(uAv l [] q).1,2 + uBC sortW (uAv l sortW (uAv l [] q).2).1⟩]),?_,?_,uAj (⟨⟨_,rfl,?_⟩,⟨sx rfl,sx rfl,sx rfl,trivial⟩⟩) (⟨⟨_,rfl,?_⟩,⟨⟨_,rfl,?_⟩,trivial⟩⟩) (⟨rfl,rfl,rfl,rfl,rfl,trivial⟩)⟩
  ·by_cases hz : symQ l q2 [44]=true
   ·have hlt:=(uBE hz).1
    have hs : symP l q2 [44]=q2.go:=by rw [symP,if_pos hz]
    have hg : q2.go.at'=q2.at' + 1:=rfl
    rw [if_pos hz] at hi
    dsimp only
    rw [hs,hz,if_pos rfl]
    refine ⟨by omega,by simp only [List.length_append,List.length_singleton]; omega,k,by omega,by rw [if_pos rfl]; exact hi⟩
   ·have hz' : symQ l q2 [44]=false:=by simpa using hz
    have hs : symP l q2 [44]=q2:=by rw [symP,hz']; rfl
    rw [if_neg hz] at hi
    dsimp only
    rw [hs,hz',if_neg (by simp)]
    refine ⟨by omega,by simp only [List.length_append,List.length_singleton]; omega,k + 1,by omega,by rw [if_neg (by simp)]; exact hi⟩
  ·dsimp only
   rw [if_pos (c:=more=true∧q.bad=false) ⟨hm,hb⟩]
   by_cases hz : symQ l q2 [44]=true
   ·have hlt:=(uBE hz).1
    have hs : symP l q2 [44]=q2.go:=by rw [symP,if_pos hz]
    have hg : q2.go.at'=q2.at' + 1:=rfl
    rw [hs]
    split <;> omega
   ·rw [if_neg (fun q=>hz q.1)]
    have hs : symP l q2 [44]=q2:=by rw [symP,if_neg hz]
    rw [hs]; omega
  ·rfl
  ·rfl
  ·simp only [Nar.cells,Fs.rows_app]; rfl
 ·try simp only [nn,uAh,T.rows_len,Tk.rows_len] at hc
  have hfin : (out,q)=uB7 l p n.fresh:=by
   cases more with
   | false=>simpa using hi
   | true =>
    obtain ⟨k,rfl⟩ : ∃ j,k=j + 1:=⟨k - 1,by omega⟩
    rw [if_pos rfl,uCd,if_pos (by simpa using hc)] at hi
    exact hi
  rw [← hfin]
  refine uAP ?_
  repeat (first | refine uAH ?_ | refine uAF ?_ | refine uAD rfl ?_)
  refine uBD rfl ?_ (⟨⟨_,rfl,?_⟩,⟨⟨_,rfl,?_⟩,trivial⟩⟩) (by kernel_rfl)
  all_goals rfl
end Go.Proofs.YtnjjdbapadkomaaGreatDoor
namespace Go.Proofs.YtnjjdbapadkomaaGreatDoor
open Go Go.Abs
theorem ps2 {st : St} {a b : Pass} (ha : st.box a.n=some a.cs) (hb : st.box b.n=some b.cs) : ∀ p ∈ [a,b],st.box p.n=some p.cs:=by
 intro p hp
 rcases List.mem_cons.1 hp with q | q
 ·subst q; exact ha
 ·simp at q; subst q; exact hb
theorem uJ0 (l : List Tk) (hl : l.length≤2000000) (p : PS) (hp : p.at'≤l.length) : Ctr sys 116 [xpp] [pbx l p] (xl (uAX l (uAO l (l.length + 1)) p).1) none [pbx l (uAX l (uAO l (l.length + 1)) p).2] :=
 uJG l (l.length + 1) hl (fun q h1 h2=>uFq l hl _ q h1 h2) p hp (by omega)
theorem uHE (l : List Tk) (p : PS) (n : Nar) (line : Int) (hl : l.length≤2000000) (hp : p.at'≤l.length) (hn : n.steps.length≤3000000) :
  CtrO sysO 111 [xpp,xnn,xi line] [pbx l p,n.cells] osN (.tup []) [pbx l (uCS l line p).2,({ n with steps:=n.steps++[(uCS l line p).1] } : Nar).cells] .box :=
 uMX l p n line hl hp hn fun q hq=>uFq l hl _ q hq (by omega)
theorem uGn (l : List Tk) (p : PS) (n : Nar) (line : Int) (hl : l.length≤2000000) (hp : p.at'≤l.length) (hn : n.goals.length≤3000000) :
  CtrO sysO 112 [xpp,xnn,xi line] [pbx l p,n.cells] osN (.tup []) [pbx l (uCt l line p).2,({ n with goals:=n.goals++[(uCt l line p).1] } : Nar).cells] .box :=
 uMw l p n line hl hp hn fun q hq=>uJ0 l hl q hq
theorem uA2 {l : List Tk} {n n' : Nar} {p q : PS} {line : Int} {w : List UInt8} (hw : uAv l uCa p=(w,q)) (hl : uCM l p=line) {r : PS} (h : uB4 l n line w q=(n',r)) : uCq l n p=(n',uAN l [59] r):=by
 unfold uCq; rw [hl,hw]; dsimp only; rw [h]
theorem uEg (l : List Tk) (n : Nar) (line : Int) (q : PS) : uB4 l n line uFX q=({ n with roles:=n.roles++(uBN l q).1 },(uBN l q).2):=by rw [uB4,if_pos rfl]
theorem uEn (l : List Tk) (n : Nar) (line : Int) (q : PS) : uB4 l n line uD5 q=({ n with fresh:=(uB7 l q n.fresh).1 },(uB7 l q n.fresh).2):=by rw [uB4,if_neg (by decide),if_pos rfl]
theorem uEj (l : List Tk) (n : Nar) (line : Int) (q : PS) : uB4 l n line uFH q=({ n with tags:=n.tags++(uBN l q).1 },(uBN l q).2):=by rw [uB4,if_neg (by decide),if_neg (by decide),if_pos rfl]
theorem uEc (l : List Tk) (n : Nar) (line : Int) (q : PS) : uB4 l n line wMsg q=({ n with steps:=n.steps++[(uCS l line q).1] },(uCS l line q).2):=by rw [uB4,if_neg (by decide),if_neg (by decide),if_neg (by decide),if_pos rfl]
theorem uEl (l : List Tk) (n : Nar) (line : Int) (q : PS) : uB4 l n line uFG q=({ n with goals:=n.goals++[(uCt l line q).1] },(uCt l line q).2):=by rw [uB4,if_neg (by decide),if_neg (by decide),if_neg (by decide),if_neg (by decide),if_pos rfl]
theorem uF5 (l : List Tk) (n : Nar) (line : Int) (q : PS) {w : List UInt8} (h1 : w≠uFX) (h2 : w≠uD5) (h3 : w≠uFH) (h4 : w≠wMsg) (h5 : w≠uFG) : uB4 l n line w q=(n,q):=by rw [uB4,if_neg h1,if_neg h2,if_neg h3,if_neg h4,if_neg h5]
set_option maxHeartbeats 4000000 in
theorem uLG (l : List Tk) (p : PS) (n : Nar) (hl : l.length≤2000000) (hp : p.at'≤l.length) (hn : n.Le 2000000) :
  CtrO sysO 62 [xpp,xnn] [pbx l p,n.cells] osN (.tup []) [pbx l (uCq l n p).2,(uCq l n p).1.cells] .box:=by
 have hrl:=Tk.rows_len l
 have hr1:=uAh n.roles
 have hr2:=uAh n.tags
 have hq1:=uBp (ws:=uCa) hp
 obtain ⟨b1,b2,b3,b4,b5⟩:=hn
 obtain ⟨w,q,hw⟩ : ∃ w q,uAv l uCa p=(w,q):=⟨_,_,rfl⟩
 have hns:=uBB l p uCa (by omega) (by omega)
 rw [hw] at hns hq1
 dsimp only at hns hq1
 have hnl : (uBN l q).1.length≤2000001:=by
  have h1:=uEa (uA3 l []) q
  have h2:=(uCw (uA3 l []) q).2 hq1
  unfold uBN; omega
 have hnr:=uAh (uBN l q).1
 have hq2 : (uBN l q).2.at'≤l.length:=(uCw (uA3 l []) q).2 hq1
 have hq3 : (uB7 l q n.fresh).2.at'≤l.length:=(uHv l n.fresh q).2 hq1
 have hq4 : ∀ line,(uCS l line q).2.at'≤l.length:=fun line=>(uGC l line q).2 hq1
 have hq5 : ∀ line,(uCt l line q).2.at'≤l.length:=fun line=>(uGq l line q).2 hq1
 refine uDf Tryz.func62 rfl rfl rfl rfl rfl rfl rfl ?_;refine uAe (uAb ?_);refine uAa rfl rfl rfl (uAd rfl gU) ?_;refine uAf ?_;refine uAe ?_;refine uAe ?_;refine awp_drawn' (by kernel_rfl) ?_;refine uAi rfl rfl rfl rfl (uAc rfl gU) ?_;refine uAi rfl rfl rfl rfl (uAz rfl gU) ?_;refine uAi rfl rfl rfl rfl (uAg rfl gU rfl rfl) ?_;refine uAW rfl rfl rfl rfl rfl rfl rfl gU rfl rfl rfl rfl ?_;refine uAi rfl rfl rfl rfl (uAc rfl gU) ?_;refine uAi rfl rfl rfl rfl (uAz rfl gU) ?_;refine uAi rfl rfl rfl rfl (uAg rfl gU rfl rfl) ?_;refine uAW rfl rfl rfl rfl rfl rfl rfl gU rfl rfl rfl rfl ?_;refine uAi rfl rfl rfl rfl (uBb rfl gU rfl rfl) ?_;refine uAi rfl rfl rfl rfl (uAk rfl rfl gU gU rfl) ?_;refine uBe (by kernel_rfl) ?_;refine uAn (s:=⟨[(0,_,_),(1,_,_),(4,_,_),(14,_,_)],[(.o 0,_),(.o 1,_)],[(.b (.o 1) 1,_),(.b (.o 1) 2,_),(.b (.o 1) 3,_),(.b (.o 1) 4,_),(.b (.o 1) 5,_)],[]⟩) (uAj (⟨sx rfl,sx rfl,sx rfl,sx rfl,trivial⟩) (⟨sx rfl,sx rfl,trivial⟩) (⟨(ak rfl (ak rfl (ak rfl (ak rfl (ak rfl (ak rfl (ak rfl (ak rfl (ak rfl (ak rfl (rfl))))))))))),(ak rfl (ak rfl (ak rfl (ak rfl (ak rfl (ak rfl (ak rfl (ak rfl (ak rfl (ak rfl (rfl))))))))))),(ak rfl (ak rfl (ak rfl (ak rfl (ak rfl (ak rfl (ak rfl (ak rfl (ak rfl (ak rfl (rfl))))))))))),(ak rfl (ak rfl (ak rfl (ak rfl (ak rfl (ak rfl (ak rfl (ak rfl (ak rfl (ak rfl (rfl))))))))))),(ak rfl (ak rfl (ak rfl (ak rfl (ak rfl (ak rfl (ak rfl (ak rfl (ak rfl (ak rfl (rfl))))))))))),trivial⟩)) ?_
 refine uAm rfl (fun hcx=>?_) (fun hcx=>?_)
 ·try simp only [nn,uAh,T.rows_len,Tk.rows_len] at hcx
  have hline : uCM l p=(l.getD p.at' tk0).line:=by rw [uCM,if_pos (by omega)]
  refine awp_drawn' (by kernel_rfl) ?_;refine uAi rfl rfl rfl rfl (uAc rfl gU) ?_;refine uAi rfl rfl rfl rfl (uAz rfl gU) ?_;refine uAi rfl rfl rfl rfl (uAg rfl gU rfl rfl) ?_;refine uAW rfl rfl rfl rfl rfl rfl rfl gU rfl rfl rfl rfl ?_;refine uAi rfl rfl rfl rfl (uAc rfl gU) ?_;refine uAi rfl rfl rfl rfl (uAz rfl gU) ?_;refine uAi rfl rfl rfl rfl (uAg rfl gU rfl rfl) ?_;refine uAW rfl rfl rfl rfl rfl rfl rfl gU rfl rfl rfl rfl ?_;refine uAi rfl rfl rfl rfl (uAB (j:=p.at') rfl rfl gU gU rfl rfl (by first | omega | (simp at hh ⊢; omega)) (fun hh=>Tk.rows_at (by first | omega | (simp at hh ⊢; omega)))) ?_;refine uAi rfl rfl rfl rfl (uBc rfl gU rfl rfl) ?_;refine uAi rfl rfl rfl rfl (uA1 rfl gU rfl rfl rfl) ?_;refine uAi rfl rfl rfl rfl (uAd rfl gU) ?_;refine uBe (by kernel_rfl) ?_;refine uAn (s:=⟨[(0,_,_),(1,_,_),(4,_,_)],[(.o 0,_),(.o 1,_)],[(.b (.o 1) 1,_),(.b (.o 1) 2,_),(.b (.o 1) 3,_),(.b (.o 1) 4,_),(.b (.o 1) 5,_)],[]⟩) (uAj (⟨sx rfl,sx rfl,sx rfl,trivial⟩) (⟨sx rfl,sx rfl,trivial⟩) (⟨(ak rfl (ak rfl (ak rfl (ak rfl (ak rfl (ak rfl (ak rfl (ak rfl (ak rfl (ak rfl (ak rfl (ak rfl (rfl))))))))))))),(ak rfl (ak rfl (ak rfl (ak rfl (ak rfl (ak rfl (ak rfl (ak rfl (ak rfl (ak rfl (ak rfl (ak rfl (rfl))))))))))))),(ak rfl (ak rfl (ak rfl (ak rfl (ak rfl (ak rfl (ak rfl (ak rfl (ak rfl (ak rfl (ak rfl (ak rfl (rfl))))))))))))),(ak rfl (ak rfl (ak rfl (ak rfl (ak rfl (ak rfl (ak rfl (ak rfl (ak rfl (ak rfl (ak rfl (ak rfl (rfl))))))))))))),(ak rfl (ak rfl (ak rfl (ak rfl (ak rfl (ak rfl (ak rfl (ak rfl (ak rfl (ak rfl (ak rfl (ak rfl (rfl))))))))))))),trivial⟩)) ?_
  refine uAe ?_;refine uAe (uAb ?_);refine uAa rfl rfl rfl (uAc rfl gU) ?_;refine uAM (xs:=[_,_,_,_,_]) rfl rfl rfl rfl rfl rfl rfl rfl rfl gU rfl ?_;refine uAE (.o 0) rfl rfl rfl rfl rfl rfl (up hns) rfl (by rfl) (by rfl) rfl rfl rfl ?_;refine uAf ?_;refine uAx ?_;refine uAe (uAb ?_);refine uAa rfl rfl rfl (uA4 rfl rfl gU gU rfl) ?_;refine uAa rfl rfl rfl (uAd rfl gU) ?_;refine uAf ?_;refine uAn (s:=⟨[(0,_,_),(1,_,_),(4,_,_),(28,_,_),(29,_,_)],[(.o 0,_),(.o 1,_)],[(.b (.o 1) 1,_),(.b (.o 1) 2,_),(.b (.o 1) 3,_),(.b (.o 1) 4,_),(.b (.o 1) 5,_)],[]⟩) (uAj (⟨sx rfl,sx rfl,sx rfl,sx rfl,sx rfl,trivial⟩) (⟨sx rfl,sx rfl,trivial⟩) (⟨rfl,rfl,rfl,rfl,rfl,trivial⟩)) ?_;refine uAm rfl (fun hcu0=>?_) (fun hcu0=>?_)
  ·try simp only [nn,uAh,T.rows_len,Tk.rows_len] at hcu0
   have hwe : w=uFX:=hcu0
   subst hwe
   refine awp_drawn' (by kernel_rfl) ?_;refine uAi rfl rfl rfl rfl (uAc rfl gU) ?_;refine uAi rfl rfl rfl rfl (uAc rfl gU) ?_;refine uAi rfl rfl rfl rfl (uAz rfl gU) ?_;refine uAi rfl rfl rfl rfl (uAg rfl gU rfl rfl) ?_;refine uB3 rfl rfl rfl rfl rfl rfl rfl rfl rfl rfl rfl rfl ?_;refine uAi rfl rfl rfl rfl (uAc rfl gU) ?_;refine uEo (.o 0) rfl rfl rfl rfl rfl rfl rfl (up (uDD l q (by omega) hq1)) rfl (by rfl) (by rfl) rfl rfl rfl ?_;refine uBZ rfl rfl rfl rfl rfl rfl rfl rfl rfl rfl rfl (by first | omega | (simp only [List.length_append,List.length_singleton,uAh]; omega)) (by first | omega | (simp only [List.length_append,List.length_singleton,uAh]; omega)) ?_;refine uAi rfl rfl rfl rfl (uAz rfl gU) ?_;refine uAi rfl rfl rfl rfl (uAg rfl gU rfl rfl) ?_;refine uB5 rfl rfl rfl rfl rfl rfl rfl rfl rfl rfl rfl rfl ?_;refine uBe (by kernel_rfl) ?_;refine uAn (s:=⟨[(0,_,_)],[(.o 0,_),(.o 1,_)],[(.b (.o 1) 1,_),(.b (.o 1) 2,_),(.b (.o 1) 3,_),(.b (.o 1) 4,_),(.b (.o 1) 5,_)],[]⟩) (uAj (⟨sx rfl,trivial⟩) (⟨sx rfl,sx rfl,trivial⟩) (⟨rfl,(ak2 rfl (ak rfl (ak rfl (ak2 rfl (ak rfl (ak rfl (ak2 rfl (ak rfl (ak rfl (ak rfl (ak rfl (rfl)))))))))))),(ak2 rfl (ak rfl (ak rfl (ak2 rfl (ak rfl (ak rfl (ak2 rfl (ak rfl (ak rfl (ak rfl (ak rfl (rfl)))))))))))),(ak2 rfl (ak rfl (ak rfl (ak2 rfl (ak rfl (ak rfl (ak2 rfl (ak rfl (ak rfl (ak rfl (ak rfl (rfl)))))))))))),(ak2 rfl (ak rfl (ak rfl (ak2 rfl (ak rfl (ak rfl (ak2 rfl (ak rfl (ak rfl (ak rfl (ak rfl (rfl)))))))))))),trivial⟩)) ?_
   refine uAb ?_;refine uAa rfl rfl rfl (uAc rfl gU) ?_;refine uAE (.o 0) rfl rfl rfl rfl rfl rfl (up (uBd l _ _ (by omega) (le3 hl (by first | assumption | exact hq4 _ | exact hq5 _)))) rfl (by rfl) (by rfl) rfl rfl rfl ?_;refine uAf ?_;refine uBD rfl ?_ (⟨⟨_,rfl,?_⟩,⟨⟨_,rfl,?_⟩,trivial⟩⟩) (by kernel_rfl)
   all_goals first | exact (rfl : uCm []=X.tup []) | (rw [uA2 hw hline (uEg l n (l.getD p.at' tk0).line q)]; done) | (rw [uA2 hw hline (uEg l n (l.getD p.at' tk0).line q)]; rfl) | (rw [uA2 hw hline (uEg l n (l.getD p.at' tk0).line q)]; simp only [Nar.cells,strR,List.map_append]; rfl)
  ·try simp only [nn,uAh,T.rows_len,Tk.rows_len] at hcu0
   have hn0 : w≠uFX:=hcu0
   refine uAe (uAb ?_);refine uAa rfl rfl rfl (uA4 rfl rfl gU gU rfl) ?_;refine uAa rfl rfl rfl (uAd rfl gU) ?_;refine uAf ?_;refine uAm rfl (fun hcu1=>?_) (fun hcu1=>?_)
   ·try simp only [nn,uAh,T.rows_len,Tk.rows_len] at hcu1
    have hwe : w=uD5:=hcu1
    subst hwe
    refine uAb ?_;refine uAa rfl rfl rfl (uAc rfl gU) ?_;refine uAa rfl rfl rfl (uAc rfl gU) ?_;refine uDd [⟨.o 0,0,pbx l q,pbx l (uB7 l q n.fresh).2⟩,⟨.o 1,0,n.cells,({ n with fresh:=(uB7 l q n.fresh).1 } : Nar).cells⟩] osN rfl rfl rfl rfl rfl rfl (ps2 rfl rfl) rfl rfl (uFT l q n hl hq1 (by omega)) rfl rfl rfl ?_;refine uAf ?_;refine uAn (s:=⟨[(0,_,_)],[(.o 0,_),(.o 1,_)],[(.b (.o 1) 1,_),(.b (.o 1) 2,_),(.b (.o 1) 3,_),(.b (.o 1) 4,_),(.b (.o 1) 5,_)],[]⟩) (uAj (⟨sx rfl,trivial⟩) (⟨sx rfl,sx rfl,trivial⟩) (⟨rfl,rfl,rfl,rfl,rfl,trivial⟩)) ?_;refine uAb ?_;refine uAa rfl rfl rfl (uAc rfl gU) ?_;refine uAE (.o 0) rfl rfl rfl rfl rfl rfl (up (uBd l _ _ (by omega) (le3 hl (by first | assumption | exact hq4 _ | exact hq5 _)))) rfl (by rfl) (by rfl) rfl rfl rfl ?_;refine uAf ?_;refine uBD rfl ?_ (⟨⟨_,rfl,?_⟩,⟨⟨_,rfl,?_⟩,trivial⟩⟩) (by kernel_rfl)
    all_goals first | exact (rfl : uCm []=X.tup []) | (rw [uA2 hw hline (uEn l n (l.getD p.at' tk0).line q)]; done) | (rw [uA2 hw hline (uEn l n (l.getD p.at' tk0).line q)]; rfl) | (rw [uA2 hw hline (uEn l n (l.getD p.at' tk0).line q)]; simp only [Nar.cells,strR,List.map_append]; rfl)
   ·try simp only [nn,uAh,T.rows_len,Tk.rows_len] at hcu1
    have hn1 : w≠uD5:=hcu1
    refine uAe (uAb ?_);refine uAa rfl rfl rfl (uA4 rfl rfl gU gU rfl) ?_;refine uAa rfl rfl rfl (uAd rfl gU) ?_;refine uAf ?_;refine uAm rfl (fun hcu2=>?_) (fun hcu2=>?_)
    ·try simp only [nn,uAh,T.rows_len,Tk.rows_len] at hcu2
     have hwe : w=uFH:=hcu2
     subst hwe
     refine awp_drawn' (by kernel_rfl) ?_;refine uAi rfl rfl rfl rfl (uAc rfl gU) ?_;refine uAi rfl rfl rfl rfl (uAc rfl gU) ?_;refine uAi rfl rfl rfl rfl (uAz rfl gU) ?_;refine uAi rfl rfl rfl rfl (uAg rfl gU rfl rfl) ?_;refine uB3 rfl rfl rfl rfl rfl rfl rfl rfl rfl rfl rfl rfl ?_;refine uAi rfl rfl rfl rfl (uAc rfl gU) ?_;refine uEo (.o 0) rfl rfl rfl rfl rfl rfl rfl (up (uDD l q (by omega) hq1)) rfl (by rfl) (by rfl) rfl rfl rfl ?_;refine uBZ rfl rfl rfl rfl rfl rfl rfl rfl rfl rfl rfl (by first | omega | (simp only [List.length_append,List.length_singleton,uAh]; omega)) (by first | omega | (simp only [List.length_append,List.length_singleton,uAh]; omega)) ?_;refine uAi rfl rfl rfl rfl (uAz rfl gU) ?_;refine uAi rfl rfl rfl rfl (uAg rfl gU rfl rfl) ?_;refine uB5 rfl rfl rfl rfl rfl rfl rfl rfl rfl rfl rfl rfl ?_;refine uBe (by kernel_rfl) ?_;refine uAn (s:=⟨[(0,_,_)],[(.o 0,_),(.o 1,_)],[(.b (.o 1) 1,_),(.b (.o 1) 2,_),(.b (.o 1) 3,_),(.b (.o 1) 4,_),(.b (.o 1) 5,_)],[]⟩) (uAj (⟨sx rfl,trivial⟩) (⟨sx rfl,sx rfl,trivial⟩) (⟨(ak2 rfl (ak rfl (ak rfl (ak2 rfl (ak rfl (ak rfl (ak2 rfl (ak rfl (ak rfl (ak rfl (ak rfl (rfl)))))))))))),(ak2 rfl (ak rfl (ak rfl (ak2 rfl (ak rfl (ak rfl (ak2 rfl (ak rfl (ak rfl (ak rfl (ak rfl (rfl)))))))))))),rfl,(ak2 rfl (ak rfl (ak rfl (ak2 rfl (ak rfl (ak rfl (ak2 rfl (ak rfl (ak rfl (ak rfl (ak rfl (rfl)))))))))))),(ak2 rfl (ak rfl (ak rfl (ak2 rfl (ak rfl (ak rfl (ak2 rfl (ak rfl (ak rfl (ak rfl (ak rfl (rfl)))))))))))),trivial⟩)) ?_
     refine uAb ?_;refine uAa rfl rfl rfl (uAc rfl gU) ?_;refine uAE (.o 0) rfl rfl rfl rfl rfl rfl (up (uBd l _ _ (by omega) (le3 hl (by first | assumption | exact hq4 _ | exact hq5 _)))) rfl (by rfl) (by rfl) rfl rfl rfl ?_;refine uAf ?_;refine uBD rfl ?_ (⟨⟨_,rfl,?_⟩,⟨⟨_,rfl,?_⟩,trivial⟩⟩) (by kernel_rfl)
     all_goals first | exact (rfl : uCm []=X.tup []) | (rw [uA2 hw hline (uEj l n (l.getD p.at' tk0).line q)]; done) | (rw [uA2 hw hline (uEj l n (l.getD p.at' tk0).line q)]; rfl) | (rw [uA2 hw hline (uEj l n (l.getD p.at' tk0).line q)]; simp only [Nar.cells,strR,List.map_append]; rfl)
    ·try simp only [nn,uAh,T.rows_len,Tk.rows_len] at hcu2
     have hn2 : w≠uFH:=hcu2
     refine uAe (uAb ?_);refine uAa rfl rfl rfl (uA4 rfl rfl gU gU rfl) ?_;refine uAa rfl rfl rfl (uAd rfl gU) ?_;refine uAf ?_;refine uAn (s:=⟨[(0,_,_),(1,_,_),(4,_,_),(28,_,_),(58,_,_)],[(.o 0,_),(.o 1,_)],[(.b (.o 1) 1,_),(.b (.o 1) 2,_),(.b (.o 1) 3,_),(.b (.o 1) 4,_),(.b (.o 1) 5,_)],[]⟩) (uAj (⟨sx rfl,sx rfl,sx rfl,sx rfl,sx rfl,trivial⟩) (⟨sx rfl,sx rfl,trivial⟩) (⟨rfl,rfl,rfl,rfl,rfl,trivial⟩)) ?_;refine uAm rfl (fun hcu3=>?_) (fun hcu3=>?_)
     ·try simp only [nn,uAh,T.rows_len,Tk.rows_len] at hcu3
      have hwe : w=wMsg:=hcu3
      subst hwe
      refine uAb ?_;refine uAa rfl rfl rfl (uAc rfl gU) ?_;refine uAa rfl rfl rfl (uAc rfl gU) ?_;refine uAa rfl rfl rfl (uAc rfl gU) ?_;refine uDd [⟨.o 0,0,pbx l q,pbx l (uCS l ((l.getD p.at' tk0).line) q).2⟩,⟨.o 1,0,n.cells,({ n with steps:=n.steps++[(uCS l ((l.getD p.at' tk0).line) q).1] } : Nar).cells⟩] osN rfl rfl rfl rfl rfl rfl (ps2 rfl rfl) rfl rfl (uHE l q n ((l.getD p.at' tk0).line) hl hq1 (by omega)) rfl rfl rfl ?_;refine uAf ?_;refine uAb ?_;refine uAa rfl rfl rfl (uAc rfl gU) ?_;refine uAE (.o 0) rfl rfl rfl rfl rfl rfl (up (uBd l _ _ (by omega) (le3 hl (by first | assumption | exact hq4 _ | exact hq5 _)))) rfl (by rfl) (by rfl) rfl rfl rfl ?_;refine uAf ?_;refine uBD rfl ?_ (⟨⟨_,rfl,?_⟩,⟨⟨_,rfl,?_⟩,trivial⟩⟩) (by kernel_rfl)
      all_goals first | exact (rfl : uCm []=X.tup []) | (rw [uA2 hw hline (uEc l n (l.getD p.at' tk0).line q)]; done) | (rw [uA2 hw hline (uEc l n (l.getD p.at' tk0).line q)]; rfl) | (rw [uA2 hw hline (uEc l n (l.getD p.at' tk0).line q)]; simp only [Nar.cells,strR,List.map_append]; rfl)
     ·try simp only [nn,uAh,T.rows_len,Tk.rows_len] at hcu3
      have hn3 : w≠wMsg:=hcu3
      refine uAe (uAb ?_);refine uAa rfl rfl rfl (uA4 rfl rfl gU gU rfl) ?_;refine uAa rfl rfl rfl (uAd rfl gU) ?_;refine uAf ?_;refine uAm rfl (fun hcu4=>?_) (fun hcu4=>?_)
      ·try simp only [nn,uAh,T.rows_len,Tk.rows_len] at hcu4
       have hwe : w=uFG:=hcu4
       subst hwe
       refine uAb ?_;refine uAa rfl rfl rfl (uAc rfl gU) ?_;refine uAa rfl rfl rfl (uAc rfl gU) ?_;refine uAa rfl rfl rfl (uAc rfl gU) ?_;refine uDd [⟨.o 0,0,pbx l q,pbx l (uCt l ((l.getD p.at' tk0).line) q).2⟩,⟨.o 1,0,n.cells,({ n with goals:=n.goals++[(uCt l ((l.getD p.at' tk0).line) q).1] } : Nar).cells⟩] osN rfl rfl rfl rfl rfl rfl (ps2 rfl rfl) rfl rfl (uGn l q n ((l.getD p.at' tk0).line) hl hq1 (by omega)) rfl rfl rfl ?_;refine uAf ?_;refine uAn (s:=⟨[(0,_,_)],[(.o 0,_),(.o 1,_)],[(.b (.o 1) 1,_),(.b (.o 1) 2,_),(.b (.o 1) 3,_),(.b (.o 1) 4,_),(.b (.o 1) 5,_)],[]⟩) (uAj (⟨sx rfl,trivial⟩) (⟨sx rfl,sx rfl,trivial⟩) (⟨rfl,rfl,rfl,rfl,rfl,trivial⟩)) ?_;refine uAb ?_;refine uAa rfl rfl rfl (uAc rfl gU) ?_;refine uAE (.o 0) rfl rfl rfl rfl rfl rfl (up (uBd l _ _ (by omega) (le3 hl (by first | assumption | exact hq4 _ | exact hq5 _)))) rfl (by rfl) (by rfl) rfl rfl rfl ?_;refine uAf ?_;refine uBD rfl ?_ (⟨⟨_,rfl,?_⟩,⟨⟨_,rfl,?_⟩,trivial⟩⟩) (by kernel_rfl)
       all_goals first | exact (rfl : uCm []=X.tup []) | (rw [uA2 hw hline (uEl l n (l.getD p.at' tk0).line q)]; done) | (rw [uA2 hw hline (uEl l n (l.getD p.at' tk0).line q)]; rfl) | (rw [uA2 hw hline (uEl l n (l.getD p.at' tk0).line q)]; simp only [Nar.cells,strR,List.map_append]; rfl)
      ·try simp only [nn,uAh,T.rows_len,Tk.rows_len] at hcu4
       have hn4 : w≠uFG:=hcu4
       refine uAq ?_;refine uAb ?_;refine uAa rfl rfl rfl (uAc rfl gU) ?_;refine uAE (.o 0) rfl rfl rfl rfl rfl rfl (up (uBd l _ _ (by omega) (le3 hl (by first | assumption | exact hq4 _ | exact hq5 _)))) rfl (by rfl) (by rfl) rfl rfl rfl ?_;refine uAf ?_;refine uBD rfl ?_ (⟨⟨_,rfl,?_⟩,⟨⟨_,rfl,?_⟩,trivial⟩⟩) (by kernel_rfl)
       all_goals first | exact (rfl : uCm []=X.tup []) | (rw [uA2 hw hline (uF5 l n (l.getD p.at' tk0).line q hn0 hn1 hn2 hn3 hn4)]; done) | (rw [uA2 hw hline (uF5 l n (l.getD p.at' tk0).line q hn0 hn1 hn2 hn3 hn4)]; rfl)
 ·try simp only [nn,uAh,T.rows_len,Tk.rows_len] at hcx
  have hline : uCM l p=0:=by rw [uCM,if_neg (by omega)]
  refine uAq ?_;refine uAe ?_;refine uAe (uAb ?_);refine uAa rfl rfl rfl (uAc rfl gU) ?_;refine uAM (xs:=[_,_,_,_,_]) rfl rfl rfl rfl rfl rfl rfl rfl rfl gU rfl ?_;refine uAE (.o 0) rfl rfl rfl rfl rfl rfl (up hns) rfl (by rfl) (by rfl) rfl rfl rfl ?_;refine uAf ?_;refine uAx ?_;refine uAe (uAb ?_);refine uAa rfl rfl rfl (uA4 rfl rfl gU gU rfl) ?_;refine uAa rfl rfl rfl (uAd rfl gU) ?_;refine uAf ?_;refine uAn (s:=⟨[(0,_,_),(1,_,_),(4,_,_),(28,_,_),(29,_,_)],[(.o 0,_),(.o 1,_)],[(.b (.o 1) 1,_),(.b (.o 1) 2,_),(.b (.o 1) 3,_),(.b (.o 1) 4,_),(.b (.o 1) 5,_)],[]⟩) (uAj (⟨sx rfl,sx rfl,sx rfl,sx rfl,sx rfl,trivial⟩) (⟨sx rfl,sx rfl,trivial⟩) (⟨rfl,rfl,rfl,rfl,rfl,trivial⟩)) ?_;refine uAm rfl (fun hcv0=>?_) (fun hcv0=>?_)
  ·try simp only [nn,uAh,T.rows_len,Tk.rows_len] at hcv0
   have hwe : w=uFX:=hcv0
   subst hwe
   refine awp_drawn' (by kernel_rfl) ?_;refine uAi rfl rfl rfl rfl (uAc rfl gU) ?_;refine uAi rfl rfl rfl rfl (uAc rfl gU) ?_;refine uAi rfl rfl rfl rfl (uAz rfl gU) ?_;refine uAi rfl rfl rfl rfl (uAg rfl gU rfl rfl) ?_;refine uB3 rfl rfl rfl rfl rfl rfl rfl rfl rfl rfl rfl rfl ?_;refine uAi rfl rfl rfl rfl (uAc rfl gU) ?_;refine uEo (.o 0) rfl rfl rfl rfl rfl rfl rfl (up (uDD l q (by omega) hq1)) rfl (by rfl) (by rfl) rfl rfl rfl ?_;refine uBZ rfl rfl rfl rfl rfl rfl rfl rfl rfl rfl rfl (by first | omega | (simp only [List.length_append,List.length_singleton,uAh]; omega)) (by first | omega | (simp only [List.length_append,List.length_singleton,uAh]; omega)) ?_;refine uAi rfl rfl rfl rfl (uAz rfl gU) ?_;refine uAi rfl rfl rfl rfl (uAg rfl gU rfl rfl) ?_;refine uB5 rfl rfl rfl rfl rfl rfl rfl rfl rfl rfl rfl rfl ?_;refine uBe (by kernel_rfl) ?_;refine uAn (s:=⟨[(0,_,_)],[(.o 0,_),(.o 1,_)],[(.b (.o 1) 1,_),(.b (.o 1) 2,_),(.b (.o 1) 3,_),(.b (.o 1) 4,_),(.b (.o 1) 5,_)],[]⟩) (uAj (⟨sx rfl,trivial⟩) (⟨sx rfl,sx rfl,trivial⟩) (⟨rfl,(ak2 rfl (ak rfl (ak rfl (ak2 rfl (ak rfl (ak rfl (ak2 rfl (ak rfl (ak rfl (ak rfl (ak rfl (rfl)))))))))))),(ak2 rfl (ak rfl (ak rfl (ak2 rfl (ak rfl (ak rfl (ak2 rfl (ak rfl (ak rfl (ak rfl (ak rfl (rfl)))))))))))),(ak2 rfl (ak rfl (ak rfl (ak2 rfl (ak rfl (ak rfl (ak2 rfl (ak rfl (ak rfl (ak rfl (ak rfl (rfl)))))))))))),(ak2 rfl (ak rfl (ak rfl (ak2 rfl (ak rfl (ak rfl (ak2 rfl (ak rfl (ak rfl (ak rfl (ak rfl (rfl)))))))))))),trivial⟩)) ?_
   refine uAb ?_;refine uAa rfl rfl rfl (uAc rfl gU) ?_;refine uAE (.o 0) rfl rfl rfl rfl rfl rfl (up (uBd l _ _ (by omega) (le3 hl (by first | assumption | exact hq4 _ | exact hq5 _)))) rfl (by rfl) (by rfl) rfl rfl rfl ?_;refine uAf ?_;refine uBD rfl ?_ (⟨⟨_,rfl,?_⟩,⟨⟨_,rfl,?_⟩,trivial⟩⟩) (by kernel_rfl)
   all_goals first | exact (rfl : uCm []=X.tup []) | (rw [uA2 hw hline (uEg l n 0 q)]; done) | (rw [uA2 hw hline (uEg l n 0 q)]; rfl) | (rw [uA2 hw hline (uEg l n 0 q)]; simp only [Nar.cells,strR,List.map_append]; rfl)
  ·try simp only [nn,uAh,T.rows_len,Tk.rows_len] at hcv0
   have hn0 : w≠uFX:=hcv0
   refine uAe (uAb ?_);refine uAa rfl rfl rfl (uA4 rfl rfl gU gU rfl) ?_;refine uAa rfl rfl rfl (uAd rfl gU) ?_;refine uAf ?_;refine uAm rfl (fun hcv1=>?_) (fun hcv1=>?_)
   ·try simp only [nn,uAh,T.rows_len,Tk.rows_len] at hcv1
    have hwe : w=uD5:=hcv1
    subst hwe
    refine uAb ?_;refine uAa rfl rfl rfl (uAc rfl gU) ?_;refine uAa rfl rfl rfl (uAc rfl gU) ?_;refine uDd [⟨.o 0,0,pbx l q,pbx l (uB7 l q n.fresh).2⟩,⟨.o 1,0,n.cells,({ n with fresh:=(uB7 l q n.fresh).1 } : Nar).cells⟩] osN rfl rfl rfl rfl rfl rfl (ps2 rfl rfl) rfl rfl (uFT l q n hl hq1 (by omega)) rfl rfl rfl ?_;refine uAf ?_;refine uAn (s:=⟨[(0,_,_)],[(.o 0,_),(.o 1,_)],[(.b (.o 1) 1,_),(.b (.o 1) 2,_),(.b (.o 1) 3,_),(.b (.o 1) 4,_),(.b (.o 1) 5,_)],[]⟩) (uAj (⟨sx rfl,trivial⟩) (⟨sx rfl,sx rfl,trivial⟩) (⟨rfl,rfl,rfl,rfl,rfl,trivial⟩)) ?_;refine uAb ?_;refine uAa rfl rfl rfl (uAc rfl gU) ?_;refine uAE (.o 0) rfl rfl rfl rfl rfl rfl (up (uBd l _ _ (by omega) (le3 hl (by first | assumption | exact hq4 _ | exact hq5 _)))) rfl (by rfl) (by rfl) rfl rfl rfl ?_;refine uAf ?_;refine uBD rfl ?_ (⟨⟨_,rfl,?_⟩,⟨⟨_,rfl,?_⟩,trivial⟩⟩) (by kernel_rfl)
    all_goals first | exact (rfl : uCm []=X.tup []) | (rw [uA2 hw hline (uEn l n 0 q)]; done) | (rw [uA2 hw hline (uEn l n 0 q)]; rfl) | (rw [uA2 hw hline (uEn l n 0 q)]; simp only [Nar.cells,strR,List.map_append]; rfl)
   ·try simp only [nn,uAh,T.rows_len,Tk.rows_len] at hcv1
    have hn1 : w≠uD5:=hcv1
    refine uAe (uAb ?_);refine uAa rfl rfl rfl (uA4 rfl rfl gU gU rfl) ?_;refine uAa rfl rfl rfl (uAd rfl gU) ?_;refine uAf ?_;refine uAm rfl (fun hcv2=>?_) (fun hcv2=>?_)
    ·try simp only [nn,uAh,T.rows_len,Tk.rows_len] at hcv2
     have hwe : w=uFH:=hcv2
     subst hwe
     refine awp_drawn' (by kernel_rfl) ?_;refine uAi rfl rfl rfl rfl (uAc rfl gU) ?_;refine uAi rfl rfl rfl rfl (uAc rfl gU) ?_;refine uAi rfl rfl rfl rfl (uAz rfl gU) ?_;refine uAi rfl rfl rfl rfl (uAg rfl gU rfl rfl) ?_;refine uB3 rfl rfl rfl rfl rfl rfl rfl rfl rfl rfl rfl rfl ?_;refine uAi rfl rfl rfl rfl (uAc rfl gU) ?_;refine uEo (.o 0) rfl rfl rfl rfl rfl rfl rfl (up (uDD l q (by omega) hq1)) rfl (by rfl) (by rfl) rfl rfl rfl ?_;refine uBZ rfl rfl rfl rfl rfl rfl rfl rfl rfl rfl rfl (by first | omega | (simp only [List.length_append,List.length_singleton,uAh]; omega)) (by first | omega | (simp only [List.length_append,List.length_singleton,uAh]; omega)) ?_;refine uAi rfl rfl rfl rfl (uAz rfl gU) ?_;refine uAi rfl rfl rfl rfl (uAg rfl gU rfl rfl) ?_;refine uB5 rfl rfl rfl rfl rfl rfl rfl rfl rfl rfl rfl rfl ?_;refine uBe (by kernel_rfl) ?_;refine uAn (s:=⟨[(0,_,_)],[(.o 0,_),(.o 1,_)],[(.b (.o 1) 1,_),(.b (.o 1) 2,_),(.b (.o 1) 3,_),(.b (.o 1) 4,_),(.b (.o 1) 5,_)],[]⟩) (uAj (⟨sx rfl,trivial⟩) (⟨sx rfl,sx rfl,trivial⟩) (⟨(ak2 rfl (ak rfl (ak rfl (ak2 rfl (ak rfl (ak rfl (ak2 rfl (ak rfl (ak rfl (ak rfl (ak rfl (rfl)))))))))))),(ak2 rfl (ak rfl (ak rfl (ak2 rfl (ak rfl (ak rfl (ak2 rfl (ak rfl (ak rfl (ak rfl (ak rfl (rfl)))))))))))),rfl,(ak2 rfl (ak rfl (ak rfl (ak2 rfl (ak rfl (ak rfl (ak2 rfl (ak rfl (ak rfl (ak rfl (ak rfl (rfl)))))))))))),(ak2 rfl (ak rfl (ak rfl (ak2 rfl (ak rfl (ak rfl (ak2 rfl (ak rfl (ak rfl (ak rfl (ak rfl (rfl)))))))))))),trivial⟩)) ?_
     refine uAb ?_;refine uAa rfl rfl rfl (uAc rfl gU) ?_;refine uAE (.o 0) rfl rfl rfl rfl rfl rfl (up (uBd l _ _ (by omega) (le3 hl (by first | assumption | exact hq4 _ | exact hq5 _)))) rfl (by rfl) (by rfl) rfl rfl rfl ?_;refine uAf ?_;refine uBD rfl ?_ (⟨⟨_,rfl,?_⟩,⟨⟨_,rfl,?_⟩,trivial⟩⟩) (by kernel_rfl)
     all_goals first | exact (rfl : uCm []=X.tup []) | (rw [uA2 hw hline (uEj l n 0 q)]; done) | (rw [uA2 hw hline (uEj l n 0 q)]; rfl) | (rw [uA2 hw hline (uEj l n 0 q)]; simp only [Nar.cells,strR,List.map_append]; rfl)
    ·try simp only [nn,uAh,T.rows_len,Tk.rows_len] at hcv2
     have hn2 : w≠uFH:=hcv2
     refine uAe (uAb ?_);refine uAa rfl rfl rfl (uA4 rfl rfl gU gU rfl) ?_;refine uAa rfl rfl rfl (uAd rfl gU) ?_;refine uAf ?_;refine uAn (s:=⟨[(0,_,_),(1,_,_),(4,_,_),(28,_,_),(58,_,_)],[(.o 0,_),(.o 1,_)],[(.b (.o 1) 1,_),(.b (.o 1) 2,_),(.b (.o 1) 3,_),(.b (.o 1) 4,_),(.b (.o 1) 5,_)],[]⟩) (uAj (⟨sx rfl,sx rfl,sx rfl,sx rfl,sx rfl,trivial⟩) (⟨sx rfl,sx rfl,trivial⟩) (⟨rfl,rfl,rfl,rfl,rfl,trivial⟩)) ?_;refine uAm rfl (fun hcv3=>?_) (fun hcv3=>?_)
     ·try simp only [nn,uAh,T.rows_len,Tk.rows_len] at hcv3
      have hwe : w=wMsg:=hcv3
      subst hwe
      refine uAb ?_;refine uAa rfl rfl rfl (uAc rfl gU) ?_;refine uAa rfl rfl rfl (uAc rfl gU) ?_;refine uAa rfl rfl rfl (uAc rfl gU) ?_;refine uDd [⟨.o 0,0,pbx l q,pbx l (uCS l (0) q).2⟩,⟨.o 1,0,n.cells,({ n with steps:=n.steps++[(uCS l (0) q).1] } : Nar).cells⟩] osN rfl rfl rfl rfl rfl rfl (ps2 rfl rfl) rfl rfl (uHE l q n (0) hl hq1 (by omega)) rfl rfl rfl ?_;refine uAf ?_;refine uAb ?_;refine uAa rfl rfl rfl (uAc rfl gU) ?_;refine uAE (.o 0) rfl rfl rfl rfl rfl rfl (up (uBd l _ _ (by omega) (le3 hl (by first | assumption | exact hq4 _ | exact hq5 _)))) rfl (by rfl) (by rfl) rfl rfl rfl ?_;refine uAf ?_;refine uBD rfl ?_ (⟨⟨_,rfl,?_⟩,⟨⟨_,rfl,?_⟩,trivial⟩⟩) (by kernel_rfl)
      all_goals first | exact (rfl : uCm []=X.tup []) | (rw [uA2 hw hline (uEc l n 0 q)]; done) | (rw [uA2 hw hline (uEc l n 0 q)]; rfl) | (rw [uA2 hw hline (uEc l n 0 q)]; simp only [Nar.cells,strR,List.map_append]; rfl)
     ·try simp only [nn,uAh,T.rows_len,Tk.rows_len] at hcv3
      have hn3 : w≠wMsg:=hcv3
      refine uAe (uAb ?_);refine uAa rfl rfl rfl (uA4 rfl rfl gU gU rfl) ?_;refine uAa rfl rfl rfl (uAd rfl gU) ?_;refine uAf ?_;refine uAm rfl (fun hcv4=>?_) (fun hcv4=>?_)
      ·try simp only [nn,uAh,T.rows_len,Tk.rows_len] at hcv4
       have hwe : w=uFG:=hcv4
       subst hwe
       refine uAb ?_;refine uAa rfl rfl rfl (uAc rfl gU) ?_;refine uAa rfl rfl rfl (uAc rfl gU) ?_;refine uAa rfl rfl rfl (uAc rfl gU) ?_;refine uDd [⟨.o 0,0,pbx l q,pbx l (uCt l (0) q).2⟩,⟨.o 1,0,n.cells,({ n with goals:=n.goals++[(uCt l (0) q).1] } : Nar).cells⟩] osN rfl rfl rfl rfl rfl rfl (ps2 rfl rfl) rfl rfl (uGn l q n (0) hl hq1 (by omega)) rfl rfl rfl ?_;refine uAf ?_;refine uAn (s:=⟨[(0,_,_)],[(.o 0,_),(.o 1,_)],[(.b (.o 1) 1,_),(.b (.o 1) 2,_),(.b (.o 1) 3,_),(.b (.o 1) 4,_),(.b (.o 1) 5,_)],[]⟩) (uAj (⟨sx rfl,trivial⟩) (⟨sx rfl,sx rfl,trivial⟩) (⟨rfl,rfl,rfl,rfl,rfl,trivial⟩)) ?_;refine uAb ?_;refine uAa rfl rfl rfl (uAc rfl gU) ?_;refine uAE (.o 0) rfl rfl rfl rfl rfl rfl (up (uBd l _ _ (by omega) (le3 hl (by first | assumption | exact hq4 _ | exact hq5 _)))) rfl (by rfl) (by rfl) rfl rfl rfl ?_;refine uAf ?_;refine uBD rfl ?_ (⟨⟨_,rfl,?_⟩,⟨⟨_,rfl,?_⟩,trivial⟩⟩) (by kernel_rfl)
       all_goals first | exact (rfl : uCm []=X.tup []) | (rw [uA2 hw hline (uEl l n 0 q)]; done) | (rw [uA2 hw hline (uEl l n 0 q)]; rfl) | (rw [uA2 hw hline (uEl l n 0 q)]; simp only [Nar.cells,strR,List.map_append]; rfl)
      ·try simp only [nn,uAh,T.rows_len,Tk.rows_len] at hcv4
       have hn4 : w≠uFG:=hcv4
       refine uAq ?_;refine uAb ?_;refine uAa rfl rfl rfl (uAc rfl gU) ?_;refine uAE (.o 0) rfl rfl rfl rfl rfl rfl (up (uBd l _ _ (by omega) (le3 hl (by first | assumption | exact hq4 _ | exact hq5 _)))) rfl (by rfl) (by rfl) rfl rfl rfl ?_;refine uAf ?_;refine uBD rfl ?_ (⟨⟨_,rfl,?_⟩,⟨⟨_,rfl,?_⟩,trivial⟩⟩) (by kernel_rfl)
       all_goals first | exact (rfl : uCm []=X.tup []) | (rw [uA2 hw hline (uF5 l n 0 q hn0 hn1 hn2 hn3 hn4)]; done) | (rw [uA2 hw hline (uF5 l n 0 q hn0 hn1 hn2 hn3 hn4)]; rfl)
end Go.Proofs.YtnjjdbapadkomaaGreatDoor
namespace Go.Proofs.YtnjjdbapadkomaaGreatDoor
open Go Go.Abs
def t0T : T:=⟨0,[],0,[]⟩
abbrev xtie (r : T × Int × Int) : X:=.tup [.agg r.1.cells, .c (.i .i64 r.2.1), .c (.i .i64 r.2.2)]
def uCf (s : List UInt8) : T × Int × Int :=
 if (tokP s).2.2≠0 then (t0T,(tokP s).2.1,(tokP s).2.2)
 else if (endE (tokP s).1 (uAO (tokP s).1 ((tokP s).1.length + 1) ⟨0,false⟩).2).2≠0 then (t0T,(endE (tokP s).1 (uAO (tokP s).1 ((tokP s).1.length + 1) ⟨0,false⟩).2).1,(endE (tokP s).1 (uAO (tokP s).1 ((tokP s).1.length + 1) ⟨0,false⟩).2).2)
 else if uCI uAL (uAO (tokP s).1 ((tokP s).1.length + 1) ⟨0,false⟩).1≠0 then (t0T,0,uCI uAL (uAO (tokP s).1 ((tokP s).1.length + 1) ⟨0,false⟩).1)
 else ((uAO (tokP s).1 ((tokP s).1.length + 1) ⟨0,false⟩).1,0,0)
theorem uFo (s : List UInt8) (hs : s.length≤100000) : Ctr sys 18 [xs s] [] (xtie (uCf s)) none []:=by
 have hcnt:=uDu s
 have htl:=Tk.rows_len (tokP s).1
 have hsz:=uCL (tokP s).1 ((tokP s).1.length + 1) ⟨0,false⟩
 have hat:=(uB0 (tokP s).1 ((tokP s).1.length + 1) ⟨0,false⟩).2 (Nat.zero_le _)
 dsimp only at hsz
 refine uAA Tryz.func18 rfl rfl rfl rfl rfl rfl ?_;refine uAe (uAb ?_);refine uAs rfl (uAI rfl rfl rfl) ?_;refine uAa rfl rfl rfl (uAd rfl gU) ?_;refine uAa rfl rfl rfl (uAd rfl gU) ?_;refine uAf ?_;refine uAe (uAb ?_);refine uAa rfl rfl rfl (uAc rfl gU) ?_;refine uAw rfl rfl rfl rfl rfl rfl gU gU (uFI _ (by omega)) rfl ?_;refine uAa rfl rfl rfl (uAc rfl gU) ?_;refine uAa rfl rfl rfl (uAy rfl gU rfl) ?_;refine uAa rfl rfl rfl (uAy rfl gU rfl) ?_;refine uAa rfl rfl rfl (uAy rfl gU rfl) ?_;refine uAa rfl rfl rfl (uAd rfl gU) ?_;refine uAa rfl rfl rfl (uAd rfl gU) ?_;refine uAa rfl rfl rfl (uAd rfl gU) ?_;refine uAf ?_;refine uAn (s:=⟨[(2,_,_),(5,_,_),(6,_,_),(7,_,_)],[(.l 2,_)],[],[]⟩) (uAj (⟨sx rfl,sx rfl,sx rfl,sx rfl,trivial⟩) (⟨sx rfl,trivial⟩) trivial) ?_;refine uAe ?_;refine uAe (uAb ?_);refine uAa rfl rfl rfl (uAc rfl gU) ?_;refine uAa rfl rfl rfl (uAk rfl rfl gU gU rfl) ?_;refine uAf ?_;refine uAm rfl (fun hc=>?_) (fun hc=>?_)
 ·try simp only [nn,uAh,T.rows_len,Tk.rows_len] at hc
  refine uAe (uAb ?_);refine uAa rfl rfl rfl (uAS rfl Tryz.underlying39 rfl gU) ?_;refine uAa rfl rfl rfl (uAc rfl gU) ?_;refine uAa rfl rfl rfl (uAc rfl gU) ?_;refine uAs rfl (uAt rfl rfl rfl rfl rfl rfl rfl) ?_;refine uAa rfl rfl rfl (uAd rfl gU) ?_;refine uAa rfl rfl rfl (uAd rfl gU) ?_;refine uAf ?_;refine uAo ?_
  repeat (first | refine tR ?_ | refine bR ?_)
  refine uAr rfl ?_ trivial
  (rw [uCf,if_pos hc]; rfl)
 ·try simp only [nn,uAh,T.rows_len,Tk.rows_len] at hc
  refine uAq ?_;refine uAe (uAb ?_);refine uAa rfl rfl rfl (uAc rfl gU) ?_;refine uAa rfl rfl rfl (uAS rfl Tryz.underlying86 rfl gU) ?_;refine uAs rfl (uAY rfl rfl rfl rfl) ?_;refine uAa rfl rfl rfl (uAd rfl gU) ?_;refine uAf ?_;refine uAn (s:=⟨[(2,_,_),(8,_,_)],[(.l 2,_),(.l 26,_)],[],[]⟩) (uAj (⟨sx rfl,sx rfl,trivial⟩) (⟨sx rfl,sx rfl,trivial⟩) trivial) ?_;refine uAe (uAb ?_);refine uAa rfl rfl rfl (uAc rfl gU) ?_;refine uAE (.l 26) rfl rfl rfl rfl rfl rfl (uFq (tokP s).1 (by omega) ((tokP s).1.length + 1) ⟨0,false⟩ (Nat.zero_le _) (by dsimp only; omega)) rfl (by rfl) (by rfl) rfl rfl rfl ?_;refine uAs rfl (uAI rfl rfl rfl) ?_;refine uAs rfl (uAt rfl rfl rfl rfl rfl rfl rfl) ?_;refine uAf ?_;refine uAe ?_;refine uAe (uAb ?_);refine uAa rfl rfl rfl (uAc rfl gU) ?_;refine uAE (.l 26) rfl rfl rfl rfl rfl rfl (uFx _ _ (by omega)) rfl (by rfl) (by rfl) rfl rfl rfl ?_;refine uAa rfl rfl rfl (uAc rfl gU) ?_;refine uAa rfl rfl rfl (uAy rfl gU rfl) ?_;refine uAa rfl rfl rfl (uAy rfl gU rfl) ?_;refine uAa rfl rfl rfl (uAd rfl gU) ?_;refine uAa rfl rfl rfl (uAd rfl gU) ?_;refine uAf ?_;refine uAn (s:=⟨[(2,_,_),(9,_,_),(10,_,_),(11,_,_)],[(.l 2,_),(.l 9,_)],[],[]⟩) (uAj (⟨sx rfl,sx rfl,sx rfl,sx rfl,trivial⟩) (⟨sx rfl,sx rfl,trivial⟩) trivial) ?_
  refine uAe (uAb ?_);refine uAa rfl rfl rfl (uAc rfl gU) ?_;refine uAa rfl rfl rfl (uAk rfl rfl gU gU rfl) ?_;refine uAf ?_;refine uAm rfl (fun hc2=>?_) (fun hc2=>?_)
  ·try simp only [nn,uAh,T.rows_len,Tk.rows_len] at hc2
   refine uAe (uAb ?_);refine uAa rfl rfl rfl (uAS rfl Tryz.underlying39 rfl gU) ?_;refine uAa rfl rfl rfl (uAc rfl gU) ?_;refine uAa rfl rfl rfl (uAc rfl gU) ?_;refine uAs rfl (uAt rfl rfl rfl rfl rfl rfl rfl) ?_;refine uAa rfl rfl rfl (uAd rfl gU) ?_;refine uAa rfl rfl rfl (uAd rfl gU) ?_;refine uAf ?_;refine uAo ?_
   repeat (first | refine tR ?_ | refine bR ?_)
   refine uAr rfl ?_ trivial
   (rw [uCf,if_neg (by simpa using hc),if_pos hc2]; rfl)
  ·try simp only [nn,uAh,T.rows_len,Tk.rows_len] at hc2
   refine uAq ?_;refine uAe ?_;refine uAe (uAb ?_);refine uAa rfl rfl rfl (uAp rfl gU rfl rfl rfl rfl rfl) ?_;refine uAw rfl rfl rfl rfl rfl rfl gU gU (uDE _ (by omega)) rfl ?_;refine uAa rfl rfl rfl (uAd rfl gU) ?_;refine uAf ?_;refine uAn (s:=⟨[(2,_,_),(9,_,_),(12,_,_)],[(.l 2,_),(.l 9,_)],[],[]⟩) (uAj (⟨sx rfl,sx rfl,sx rfl,trivial⟩) (⟨sx rfl,sx rfl,trivial⟩) trivial) ?_;refine uAe (uAb ?_);refine uAa rfl rfl rfl (uAc rfl gU) ?_;refine uAa rfl rfl rfl (uAk rfl rfl gU gU rfl) ?_;refine uAf ?_;refine uAm rfl (fun hc3=>?_) (fun hc3=>?_)
   ·try simp only [nn,uAh,T.rows_len,Tk.rows_len] at hc3
    refine uAe (uAb ?_);refine uAa rfl rfl rfl (uAS rfl Tryz.underlying39 rfl gU) ?_;refine uAa rfl rfl rfl (uAc rfl gU) ?_;refine uAs rfl (uAt rfl rfl rfl rfl rfl rfl rfl) ?_;refine uAa rfl rfl rfl (uAd rfl gU) ?_;refine uAa rfl rfl rfl (uAd rfl gU) ?_;refine uAf ?_;refine uAo ?_
    repeat (first | refine tR ?_ | refine bR ?_)
    refine uAr rfl ?_ trivial
    (rw [uCf,if_neg (by simpa using hc),if_neg (by simpa using hc2),if_pos hc3]; rfl)
   ·try simp only [nn,uAh,T.rows_len,Tk.rows_len] at hc3
    refine uAq ?_;refine uAe (uAb ?_);refine uAa rfl rfl rfl (uAp rfl gU rfl rfl rfl rfl rfl) ?_;refine uAs rfl (uAt rfl rfl rfl rfl rfl rfl rfl) ?_;refine uAa rfl rfl rfl (uAd rfl gU) ?_;refine uAa rfl rfl rfl (uAd rfl gU) ?_;refine uAf ?_;refine uAo ?_
    repeat (first | refine tR ?_ | refine bR ?_)
    refine uAr rfl ?_ trivial
    (rw [uCf,if_neg (by simpa using hc),if_neg (by simpa using hc2),if_neg (by simpa using hc3)]; rfl)
abbrev xnie (r : Nar × Int × Int) : X:=.tup [.agg r.1.cells, .c (.i .i64 r.2.1), .c (.i .i64 r.2.2)]
def uD4 (l : List Tk) : Nar × Int × Int :=
 if (endE l (uDY l).2).2≠0 then (nar0,(endE l (uDY l).2).1,(endE l (uDY l).2).2)
 else if narE uAL (uDY l).1≠0 then (nar0,0,narE uAL (uDY l).1)
 else ((uDY l).1,0,0)
def uFp (s : List UInt8) : Nar × Int × Int:=if (tokP s).2.2≠0 then (nar0,(tokP s).2.1,(tokP s).2.2) else uD4 (tokP s).1
theorem uJN {l : List Tk} {m : Nat} {n : Nar} {p : PS} (h : p.bad=true) : uDk l m n p=(n,p):=by
 cases m with
 | zero=>rfl
 | succ m=>rw [uDk,if_pos h]
theorem uI8 {l : List Tk} {m : Nat} {n : Nar} {p : PS} (h : p.bad=false) (hq : symQ l p [125]=true) : uDk l (m + 1) n p=(n,p.go):=by
 rw [uDk,if_neg (by rw [h]; simp),if_pos hq]
theorem uK1 {l : List Tk} {m : Nat} {n : Nar} {p : PS} (h : p.bad=false) (hq : symQ l p [125]=false) : uDk l (m + 1) n p=uDk l m (uCq l n p).1 (uCq l n p).2:=by
 rw [uDk,if_neg (by rw [h]; simp),if_neg (by rw [hq]; simp)]
theorem uLj (l : List Tk) (n : Nar) (p : PS) : p.at'≤(uCq l n p).2.at':=Nat.le_trans (uA3 l uCa p).1 (Nat.le_trans (uGg l n (uCM l p) (uAv l uCa p).1 (uAv l uCa p).2).1 (uBm l [59] _).1)
theorem uKL {l : List Tk} {n : Nar} {p : PS} (h : (n,p)=uDY l) (he : (endE l p).2≠0) : uD4 l=(nar0,(endE l p).1,(endE l p).2):=by
 unfold uD4; rw [← h,if_pos he]
theorem uKS {l : List Tk} {n : Nar} {p : PS} (h : (n,p)=uDY l) (he : (endE l p).2=0) (hv : narE uAL n≠0) : uD4 l=(nar0,0,narE uAL n):=by
 unfold uD4; rw [← h,if_neg (by simpa using he),if_pos hv]
theorem uKR {l : List Tk} {n : Nar} {p : PS} (h : (n,p)=uDY l) (he : (endE l p).2=0) (hv : narE uAL n=0) : uD4 l=(n,0,0):=by
 unfold uD4; rw [← h,if_neg (by simpa using he),if_neg (by simpa using hv)]
set_option maxHeartbeats 4000000 in
theorem uIZ (s : List UInt8) (hs : s.length≤100000) : Ctr sysO 16 [xs s] [] (xnie (uFp s)) none []:=by
 have hcnt:=uDu s
 have htl:=Tk.rows_len (tokP s).1
 obtain ⟨l,hl⟩ : ∃ l,(tokP s).1=l:=⟨_,rfl⟩
 have hll : l.length≤100000:=by rw [← hl]; omega
 have a1:=(uA3 l [uFF] ⟨0,false⟩).2 (Nat.zero_le _)
 have a2:=(uA3 l [] (uAv l [uFF] ⟨0,false⟩).2).2 a1
 have a3:=(uBm l [123] (uAv l [] (uAv l [uFF] ⟨0,false⟩).2).2).2 a2
 have hn1:=uBB l ⟨0,false⟩ [uFF] (by omega) (by dsimp only; omega)
 have hn2:=uBB l (uAv l [uFF] ⟨0,false⟩).2 [] (by omega) (by omega)
 refine uAA Tryz.func16 rfl rfl rfl rfl rfl rfl ?_;refine uAe (uAb ?_);refine uAs rfl (uAI rfl rfl rfl) ?_;refine uAa rfl rfl rfl (uAd rfl gU) ?_;refine uAa rfl rfl rfl (uAd rfl gU) ?_;refine uAf ?_;refine uAe (uAb ?_);refine uAa rfl rfl rfl (uAc rfl gU) ?_;refine uAw rfl rfl rfl rfl rfl rfl gU gU (up (uFI _ (by omega))) rfl ?_;refine uAa rfl rfl rfl (uAc rfl gU) ?_;refine uAa rfl rfl rfl (uAy rfl gU rfl) ?_;refine uAa rfl rfl rfl (uAy rfl gU rfl) ?_;refine uAa rfl rfl rfl (uAy rfl gU rfl) ?_;refine uAa rfl rfl rfl (uAd rfl gU) ?_;refine uAa rfl rfl rfl (uAd rfl gU) ?_;refine uAa rfl rfl rfl (uAd rfl gU) ?_;refine uAf ?_;refine uAn (s:=⟨[(2,_,_),(5,_,_),(6,_,_),(7,_,_)],[(.l 2,_)],[],[]⟩) (uAj (⟨sx rfl,sx rfl,sx rfl,sx rfl,trivial⟩) (⟨sx rfl,trivial⟩) trivial) ?_;refine uAe ?_;refine uAe (uAb ?_);refine uAa rfl rfl rfl (uAc rfl gU) ?_;refine uAa rfl rfl rfl (uAk rfl rfl gU gU rfl) ?_;refine uAf ?_;refine uAm rfl (fun hc=>?_) (fun hc=>?_)
 ·try simp only [nn,uAh,T.rows_len,Tk.rows_len] at hc
  refine uAe (uAb ?_);refine uAa rfl rfl rfl (uAS rfl Tryz.underlying27 rfl gU) ?_;refine uAa rfl rfl rfl (uAc rfl gU) ?_;refine uAa rfl rfl rfl (uAc rfl gU) ?_;refine uAs rfl (uAt rfl rfl rfl rfl rfl rfl rfl) ?_;refine uAa rfl rfl rfl (uAd rfl gU) ?_;refine uAa rfl rfl rfl (uAd rfl gU) ?_;refine uAf ?_;refine uAo ?_
  repeat (first | refine tR ?_ | refine bR ?_)
  refine uAr rfl ?_ trivial
  (rw [uFp,if_pos hc]; rfl)
 ·try simp only [nn,uAh,T.rows_len,Tk.rows_len] at hc
  have hpe : uFp s=uD4 l:=by rw [uFp,if_neg (by simpa using hc),hl]
  rw [hpe]
  rw [hl]
  refine uAq ?_;refine uAe (uAb ?_);refine uAa rfl rfl rfl (uAc rfl gU) ?_;refine uAa rfl rfl rfl (uAS rfl Tryz.underlying86 rfl gU) ?_;refine uAs rfl (uAY rfl rfl rfl rfl) ?_;refine uAa rfl rfl rfl (uAd rfl gU) ?_;refine uAf ?_;refine uAn (s:=⟨[(2,_,_),(8,_,_)],[(.l 2,_),(.l 26,_)],[],[]⟩) (uAj (⟨sx rfl,sx rfl,trivial⟩) (⟨sx rfl,sx rfl,trivial⟩) trivial) ?_;refine uAe (uAb ?_);refine uAs rfl (uJt rfl rfl rfl rfl) ?_;refine uAf ?_;refine uAe (uAb ?_);refine uAa rfl rfl rfl (uAc rfl gU) ?_;refine uAM (xs:=[_]) rfl rfl rfl rfl rfl rfl rfl rfl rfl gU rfl ?_;refine uAE (.l 26) rfl rfl rfl rfl rfl rfl (up hn1) rfl (by rfl) (by rfl) rfl rfl rfl ?_;refine uAf ?_;refine uAe (uAb ?_);refine uAa rfl rfl rfl (uAc rfl gU) ?_;refine uAE (.l 26) rfl rfl rfl rfl rfl rfl (up hn2) rfl (by rfl) (by rfl) rfl rfl rfl ?_;refine uAa rfl rfl rfl (uAg rfl gU rfl rfl) ?_;refine uAs rfl (uAt rfl rfl rfl rfl rfl rfl rfl) ?_;refine uAf ?_;refine uAn (s:=⟨[(2,_,_),(8,_,_),(9,_,_)],[(.l 2,_),(.l 26,_),(.l 9,_)],[],[]⟩) (uAj (⟨sx rfl,sx rfl,sx rfl,trivial⟩) (⟨sx rfl,sx rfl,sx rfl,trivial⟩) trivial) ?_;refine uAe (uAb ?_);refine uAa rfl rfl rfl (uAc rfl gU) ?_;refine uAE (.l 26) rfl rfl rfl rfl rfl rfl (up (uBd l _ _ (by omega) (by omega))) rfl (by rfl) (by rfl) rfl rfl rfl ?_
  refine uAf ?_;refine uAe ?_;refine uAx ?_;refine uEZ (.l 9) 1 1 rfl rfl rfl ?_;refine uEZ (.l 9) 2 3 rfl rfl rfl ?_;refine uEZ (.l 9) 3 1 rfl rfl rfl ?_;refine uEZ (.l 9) 4 7 rfl rfl rfl ?_;refine uEZ (.l 9) 5 5 rfl rfl rfl ?_;refine uA6 (ι:=PS × Nar) { t:=[(2,_,_),(8,_,_),(9,_,_)],bx:=[(.l 2,_)],ow:=[(.b (.l 9) 1,_),(.b (.l 9) 2,_),(.b (.l 9) 3,_),(.b (.l 9) 4,_),(.b (.l 9) 5,_)] } (fun q=>[]) (fun q=>[((.l 26),pbx l q.1),((.l 9),q.2.cells)]) (fun q=>q.1.at'≤l.length∧q.2.Le q.1.at'∧q.2.Sm (2 * l.length + 2) ∧ ∃ m,(q.1.bad=true∨l.length < m + q.1.at')∧uDk l m q.2 q.1=uDY l) (fun q=>(l.length - q.1.at') + (if q.1.bad=true then 0 else 1)) ((uAN l [123] (uAv l [] (uAv l [uFF] ⟨0,false⟩).2).2,{ nar0 with name:=(uAv l [] (uAv l [uFF] ⟨0,false⟩).2).1 })) (⟨a3,⟨Nat.zero_le _,Nat.zero_le _,Nat.zero_le _,Nat.zero_le _,Nat.zero_le _⟩,⟨fun s hs=>by simp [nar0] at hs,fun s hs=>by simp [nar0] at hs⟩,l.length + 2, .inr (by omega),rfl⟩) (uAj (⟨sx rfl,sx rfl,sx rfl,trivial⟩) (⟨sx rfl,sx rfl,sx rfl,trivial⟩) (⟨rfl,rfl,rfl,rfl,rfl,trivial⟩)) ?_
  intro q hok
  dsimp only [List.cons_append,List.nil_append] at *
  obtain ⟨⟨at1,bad1⟩,n⟩:=q
  dsimp only at hok ⊢
  obtain ⟨hq,hle,hsm,m,hm,hi⟩:=hok
  have hle2:=hle.mono (j:=2000000) (by omega)
  cases bad1
  ·skip
   refine uAe ?_;refine uAe (uAb ?_);refine uAa rfl rfl rfl (uAc rfl gU) ?_;refine uAa rfl rfl rfl (uAz rfl gU) ?_;refine uAa rfl rfl rfl (uAg rfl gU rfl rfl) ?_;refine uAa rfl rfl rfl (uAl rfl gU rfl rfl rfl rfl) ?_;refine uAa rfl rfl rfl (uA0 rfl gU) ?_;refine uAa rfl rfl rfl (uAc rfl gU) ?_;refine uAa rfl rfl rfl (uAc rfl gU) ?_;refine uAE (.l 26) rfl rfl rfl rfl rfl rfl (up (uBP l ⟨at1,false⟩ _ (by omega) (by dsimp only; omega))) rfl (by rfl) (by rfl) rfl rfl rfl ?_;refine uAa rfl rfl rfl (uA0 rfl (fun hh=>hh)) ?_;refine uAa rfl rfl rfl (uAQ rfl rfl gU (fun _ hi=>gP rfl hi)) ?_;refine uAf ?_;refine uAn (s:=⟨[(2,_,_),(8,_,_),(9,_,_),(44,_,_)],[(.l 2,_),(.l 26,_),(.l 9,_)],[(.b (.l 9) 1,_),(.b (.l 9) 2,_),(.b (.l 9) 3,_),(.b (.l 9) 4,_),(.b (.l 9) 5,_)],[]⟩) (uAj (⟨sx rfl,sx rfl,sx rfl,sx rfl,trivial⟩) (⟨sx rfl,sx rfl,sx rfl,trivial⟩) (⟨rfl,rfl,rfl,rfl,rfl,trivial⟩)) ?_;refine uAm rfl (fun hc2=>?_) (fun hc2=>?_)
   ·try simp only [nn,uAh,T.rows_len,Tk.rows_len] at hc2
    have hz : symQ l ⟨at1,false⟩ [125]=false:=by simpa using hc2
    have hs2 : symP l ⟨at1,false⟩ [125]=⟨at1,false⟩:=by rw [symP,hz]; rfl
    have hm : l.length < m + at1:=hm.resolve_left (by simp)
    obtain ⟨m,rfl⟩ : ∃ j,m=j + 1:=⟨m - 1,by omega⟩
    rw [uK1 rfl hz] at hi
    rw [hs2]
    obtain ⟨i1,i2⟩:=uMx l n ⟨at1,false⟩ hq
    have i5:=uLj l n ⟨at1,false⟩
    dsimp only at i5
    have i3:=uMF (l:=l) (p:=⟨at1,false⟩) hle
    have i4:=uMh (l:=l) (p:=⟨at1,false⟩) hsm hq
    refine uAq ?_;refine uAx ?_;refine uAb ?_;refine uAa rfl rfl rfl (uAc rfl gU) ?_;refine uDd [⟨.l 26,0,pbx l ⟨at1,false⟩,pbx l (uCq l n ⟨at1,false⟩).2⟩,⟨.l 9,0,n.cells,(uCq l n ⟨at1,false⟩).1.cells⟩] osN rfl rfl rfl rfl rfl rfl (ps2 rfl rfl) rfl rfl (uLG l ⟨at1,false⟩ n (by omega) hq hle2) rfl rfl rfl ?_;refine uAf ?_;refine ⟨((uCq l n ⟨at1,false⟩).2,(uCq l n ⟨at1,false⟩).1),?_,?_,uAj (⟨sx rfl,sx rfl,sx rfl,trivial⟩) (⟨⟨_,rfl,?_⟩,⟨⟨_,rfl,?_⟩,⟨sx rfl,trivial⟩⟩⟩) (⟨rfl,rfl,rfl,rfl,rfl,trivial⟩)⟩
    ·refine ⟨i1,i3,i4,m,?_,hi⟩
     cases hz2 : (uCq l n ⟨at1,false⟩).2.bad with
     | true=>exact .inl rfl
     | false=>exact .inr (by have := i2 hz2; dsimp only at this ⊢; omega)
    ·dsimp only
     cases hz2 : (uCq l n ⟨at1,false⟩).2.bad with
     | true=>simp; omega
     | false=>have := i2 hz2; dsimp only at this; simp; omega
    all_goals rfl
   ·try simp only [nn,uAh,T.rows_len,Tk.rows_len] at hc2
    have hz : symQ l ⟨at1,false⟩ [125]=true:=by simpa using hc2
    have hs2 : symP l ⟨at1,false⟩ [125]=⟨at1 + 1,false⟩:=by rw [symP,if_pos hz]; rfl
    have hm : l.length < m + at1:=hm.resolve_left (by simp)
    obtain ⟨m,rfl⟩ : ∃ j,m=j + 1:=⟨m - 1,by omega⟩
    rw [uI8 rfl hz] at hi
    have hi : (n,(⟨at1 + 1,false⟩ : PS))=uDY l:=hi
    rw [hs2]
    refine uAP ?_
    repeat (first | refine uAH ?_ | refine uAF ?_ | refine uAD rfl ?_)
    refine uAe ?_;refine uAe (uAb ?_);refine uAa rfl rfl rfl (uAc rfl gU) ?_;refine uAE (.l 26) rfl rfl rfl rfl rfl rfl (up (uFx _ _ (by omega))) rfl (by rfl) (by rfl) rfl rfl rfl ?_;refine uAa rfl rfl rfl (uAc rfl gU) ?_;refine uAa rfl rfl rfl (uAy rfl gU rfl) ?_;refine uAa rfl rfl rfl (uAy rfl gU rfl) ?_;refine uAa rfl rfl rfl (uAd rfl gU) ?_;refine uAa rfl rfl rfl (uAd rfl gU) ?_;refine uAf ?_;refine uAn (s:=⟨[(2,_,_),(9,_,_),(10,_,_),(11,_,_)],[(.l 2,_),(.l 9,_)],[(.b (.l 9) 1,_),(.b (.l 9) 2,_),(.b (.l 9) 3,_),(.b (.l 9) 4,_),(.b (.l 9) 5,_)],[]⟩) (uAj (⟨sx rfl,sx rfl,sx rfl,sx rfl,trivial⟩) (⟨sx rfl,sx rfl,trivial⟩) (⟨rfl,rfl,rfl,rfl,rfl,trivial⟩)) ?_;refine uAe (uAb ?_);refine uAa rfl rfl rfl (uAc rfl gU) ?_;refine uAa rfl rfl rfl (uAk rfl rfl gU gU rfl) ?_;refine uAf ?_;refine uAm rfl (fun hc3=>?_) (fun hc3=>?_)
    ·try simp only [nn,uAh,T.rows_len,Tk.rows_len] at hc3
     refine uAe (uAb ?_);refine uAa rfl rfl rfl (uAS rfl Tryz.underlying27 rfl gU) ?_;refine uAa rfl rfl rfl (uAc rfl gU) ?_;refine uAa rfl rfl rfl (uAc rfl gU) ?_;refine uAs rfl (uAt rfl rfl rfl rfl rfl rfl rfl) ?_;refine uAa rfl rfl rfl (uAd rfl gU) ?_;refine uAa rfl rfl rfl (uAd rfl gU) ?_;refine uAf ?_;refine uAo ?_
     repeat (first | refine tR ?_ | refine bR ?_)
     refine uAr rfl ?_ trivial
     (rw [uKL hi hc3]; rfl)
    ·try simp only [nn,uAh,T.rows_len,Tk.rows_len] at hc3
     refine uAq ?_;refine uAe ?_;refine uAe (uAb ?_);refine uAa rfl rfl rfl (uAp rfl gU rfl rfl rfl rfl rfl) ?_;refine uAw rfl rfl rfl rfl rfl rfl gU gU (up (uEH n (fun s hs=>Nat.le_trans (hsm.steps s hs) (by omega)) (fun g hg=>Nat.le_trans (hsm.goals g hg) (by omega)))) rfl ?_;refine uAa rfl rfl rfl (uAd rfl gU) ?_;refine uAf ?_;refine uAn (s:=⟨[(2,_,_),(9,_,_),(12,_,_)],[(.l 2,_),(.l 9,_)],[(.b (.l 9) 1,_),(.b (.l 9) 2,_),(.b (.l 9) 3,_),(.b (.l 9) 4,_),(.b (.l 9) 5,_)],[]⟩) (uAj (⟨sx rfl,sx rfl,sx rfl,trivial⟩) (⟨sx rfl,sx rfl,trivial⟩) (⟨rfl,rfl,rfl,rfl,rfl,trivial⟩)) ?_;refine uAe (uAb ?_);refine uAa rfl rfl rfl (uAc rfl gU) ?_;refine uAa rfl rfl rfl (uAk rfl rfl gU gU rfl) ?_;refine uAf ?_;refine uAm rfl (fun hc4=>?_) (fun hc4=>?_)
     ·try simp only [nn,uAh,T.rows_len,Tk.rows_len] at hc4
      refine uAe (uAb ?_);refine uAa rfl rfl rfl (uAS rfl Tryz.underlying27 rfl gU) ?_;refine uAa rfl rfl rfl (uAc rfl gU) ?_;refine uAs rfl (uAt rfl rfl rfl rfl rfl rfl rfl) ?_;refine uAa rfl rfl rfl (uAd rfl gU) ?_;refine uAa rfl rfl rfl (uAd rfl gU) ?_;refine uAf ?_;refine uAo ?_
      repeat (first | refine tR ?_ | refine bR ?_)
      refine uAr rfl ?_ trivial
      (rw [uKS hi (by simpa using hc3) hc4]; rfl)
     ·try simp only [nn,uAh,T.rows_len,Tk.rows_len] at hc4
      refine uAq ?_;refine uAe (uAb ?_);refine uAa rfl rfl rfl (uAp rfl gU rfl rfl rfl rfl rfl) ?_;refine uAs rfl (uAt rfl rfl rfl rfl rfl rfl rfl) ?_;refine uAa rfl rfl rfl (uAd rfl gU) ?_;refine uAa rfl rfl rfl (uAd rfl gU) ?_;refine uAf ?_;refine uAo ?_
      repeat (first | refine tR ?_ | refine bR ?_)
      refine uAr rfl ?_ trivial
      (rw [uKR hi (by simpa using hc3) (by simpa using hc4)]; rfl)
  ·skip
   refine uAe ?_;refine uAe (uAb ?_);refine uAa rfl rfl rfl (uAc rfl gU) ?_;refine uAa rfl rfl rfl (uAz rfl gU) ?_;refine uAa rfl rfl rfl (uAg rfl gU rfl rfl) ?_;refine uAa rfl rfl rfl (uAl rfl gU rfl rfl rfl rfl) ?_;refine uAa rfl rfl rfl (uA0 rfl gU) ?_;refine uAa rfl rfl rfl (uAc rfl gU) ?_;refine uAa rfl rfl rfl (uAc rfl gU) ?_;refine uKT (xb false) rfl rfl rfl ?_;refine uAa rfl rfl rfl (uA0 rfl (fun hh=>hh)) ?_;refine uAa rfl rfl rfl (uAQ rfl rfl gU (fun _ hi=>gP rfl hi)) ?_;refine uAf ?_;refine uAn (s:=⟨[(2,_,_),(8,_,_),(9,_,_),(44,_,_)],[(.l 2,_),(.l 26,_),(.l 9,_)],[(.b (.l 9) 1,_),(.b (.l 9) 2,_),(.b (.l 9) 3,_),(.b (.l 9) 4,_),(.b (.l 9) 5,_)],[]⟩) (uAj (⟨sx rfl,sx rfl,sx rfl,sx rfl,trivial⟩) (⟨sx rfl,sx rfl,sx rfl,trivial⟩) (⟨rfl,rfl,rfl,rfl,rfl,trivial⟩)) ?_;refine uAm rfl (fun hc2=>?_) (fun hc2=>?_)
   ·exfalso
    simp at hc2
   ·rw [uJN rfl] at hi
    refine uAP ?_
    repeat (first | refine uAH ?_ | refine uAF ?_ | refine uAD rfl ?_)
    refine uAe ?_;refine uAe (uAb ?_);refine uAa rfl rfl rfl (uAc rfl gU) ?_;refine uAE (.l 26) rfl rfl rfl rfl rfl rfl (up (uFx _ _ (by omega))) rfl (by rfl) (by rfl) rfl rfl rfl ?_;refine uAa rfl rfl rfl (uAc rfl gU) ?_;refine uAa rfl rfl rfl (uAy rfl gU rfl) ?_;refine uAa rfl rfl rfl (uAy rfl gU rfl) ?_;refine uAa rfl rfl rfl (uAd rfl gU) ?_;refine uAa rfl rfl rfl (uAd rfl gU) ?_;refine uAf ?_;refine uAn (s:=⟨[(2,_,_),(9,_,_),(10,_,_),(11,_,_)],[(.l 2,_),(.l 9,_)],[(.b (.l 9) 1,_),(.b (.l 9) 2,_),(.b (.l 9) 3,_),(.b (.l 9) 4,_),(.b (.l 9) 5,_)],[]⟩) (uAj (⟨sx rfl,sx rfl,sx rfl,sx rfl,trivial⟩) (⟨sx rfl,sx rfl,trivial⟩) (⟨rfl,rfl,rfl,rfl,rfl,trivial⟩)) ?_;refine uAe (uAb ?_);refine uAa rfl rfl rfl (uAc rfl gU) ?_;refine uAa rfl rfl rfl (uAk rfl rfl gU gU rfl) ?_;refine uAf ?_;refine uAm rfl (fun hc3=>?_) (fun hc3=>?_)
    ·try simp only [nn,uAh,T.rows_len,Tk.rows_len] at hc3
     refine uAe (uAb ?_);refine uAa rfl rfl rfl (uAS rfl Tryz.underlying27 rfl gU) ?_;refine uAa rfl rfl rfl (uAc rfl gU) ?_;refine uAa rfl rfl rfl (uAc rfl gU) ?_;refine uAs rfl (uAt rfl rfl rfl rfl rfl rfl rfl) ?_;refine uAa rfl rfl rfl (uAd rfl gU) ?_;refine uAa rfl rfl rfl (uAd rfl gU) ?_;refine uAf ?_;refine uAo ?_
     repeat (first | refine tR ?_ | refine bR ?_)
     refine uAr rfl ?_ trivial
     (rw [uKL hi hc3]; rfl)
    ·try simp only [nn,uAh,T.rows_len,Tk.rows_len] at hc3
     refine uAq ?_;refine uAe ?_;refine uAe (uAb ?_);refine uAa rfl rfl rfl (uAp rfl gU rfl rfl rfl rfl rfl) ?_;refine uAw rfl rfl rfl rfl rfl rfl gU gU (up (uEH n (fun s hs=>Nat.le_trans (hsm.steps s hs) (by omega)) (fun g hg=>Nat.le_trans (hsm.goals g hg) (by omega)))) rfl ?_;refine uAa rfl rfl rfl (uAd rfl gU) ?_;refine uAf ?_;refine uAn (s:=⟨[(2,_,_),(9,_,_),(12,_,_)],[(.l 2,_),(.l 9,_)],[(.b (.l 9) 1,_),(.b (.l 9) 2,_),(.b (.l 9) 3,_),(.b (.l 9) 4,_),(.b (.l 9) 5,_)],[]⟩) (uAj (⟨sx rfl,sx rfl,sx rfl,trivial⟩) (⟨sx rfl,sx rfl,trivial⟩) (⟨rfl,rfl,rfl,rfl,rfl,trivial⟩)) ?_;refine uAe (uAb ?_);refine uAa rfl rfl rfl (uAc rfl gU) ?_;refine uAa rfl rfl rfl (uAk rfl rfl gU gU rfl) ?_;refine uAf ?_;refine uAm rfl (fun hc4=>?_) (fun hc4=>?_)
     ·try simp only [nn,uAh,T.rows_len,Tk.rows_len] at hc4
      refine uAe (uAb ?_);refine uAa rfl rfl rfl (uAS rfl Tryz.underlying27 rfl gU) ?_;refine uAa rfl rfl rfl (uAc rfl gU) ?_;refine uAs rfl (uAt rfl rfl rfl rfl rfl rfl rfl) ?_;refine uAa rfl rfl rfl (uAd rfl gU) ?_;refine uAa rfl rfl rfl (uAd rfl gU) ?_;refine uAf ?_;refine uAo ?_
      repeat (first | refine tR ?_ | refine bR ?_)
      refine uAr rfl ?_ trivial
      (rw [uKS hi (by simpa using hc3) hc4]; rfl)
     ·try simp only [nn,uAh,T.rows_len,Tk.rows_len] at hc4
      refine uAq ?_;refine uAe (uAb ?_);refine uAa rfl rfl rfl (uAp rfl gU rfl rfl rfl rfl rfl) ?_;refine uAs rfl (uAt rfl rfl rfl rfl rfl rfl rfl) ?_;refine uAa rfl rfl rfl (uAd rfl gU) ?_;refine uAa rfl rfl rfl (uAd rfl gU) ?_;refine uAf ?_;refine uAo ?_
      repeat (first | refine tR ?_ | refine bR ?_)
      refine uAr rfl ?_ trivial
      (rw [uKR hi (by simpa using hc3) (by simpa using hc4)]; rfl)
theorem uJZ (s : List UInt8) (hs : s.length≤100000) : Ctr sys 16 [xs s] [] (xnie (uFp s)) none []:=(uIZ s hs).wk rfl fun _ h=>h
end Go.Proofs.YtnjjdbapadkomaaGreatDoor
namespace Go.Proofs.YtnjjdbapadkomaaGreatDoor
open Go Go.Abs
theorem uLW (k : Int) : (uGo k).length≤7:=by
 unfold uGo
 have : ∀ j : Nat,(kindW.getD j []).length≤7:=by
  intro j
  match j with
  | 0=>decide
  | 1=>decide
  | 2=>decide
  | 3=>decide
  | 4=>decide
  | j + 5=>simp [kindW,List.getD_eq_getElem?_getD]
 exact this _
theorem uMt (k : Int) : (uHu k).length≤5:=by
 unfold uHu
 have : ∀ j : Nat,(sortW.getD j []).length≤5:=by
  intro j
  match j with
  | 0=>decide
  | 1=>decide
  | 2=>decide
  | j + 3=>simp [sortW,List.getD_eq_getElem?_getD]
 exact this _
theorem uEr (g : Gl) (hg : GlOk g) : Ctr sys 44 [xg g] [] (xs (uGY g)) none []:=by
 have h1:=hg.k1
 have h2:=hg.k2
 have h3:=uCs hg.role
 have h4:=hg.wth
 have h5:=hg.len
 have h6:=uLW g.kind
 have hkl : kindW.length=5:=rfl
 have hkb : kindW.getD (g.kind - 1).toNat []=uGo g.kind:=rfl
 refine uAA Tryz.func44 rfl rfl rfl rfl rfl rfl ?_;refine uAe (uAb ?_);refine uAs rfl (uAY rfl rfl rfl rfl) ?_;refine uAa rfl rfl rfl (uAd rfl gU) ?_;refine uAf ?_;refine uAe ?_;refine awp_drawn' (by kernel_rfl) ?_;refine uBa rfl rfl rfl rfl rfl rfl rfl gU gU (uEK) rfl ?_;refine uAi rfl rfl rfl rfl (uAg rfl gU rfl rfl) ?_;refine uAW rfl rfl rfl rfl rfl rfl rfl gU rfl rfl rfl rfl ?_;refine uAi rfl rfl rfl rfl (uAu rfl rfl gU gU rfl (IntWalk.i64_in _ (by omega))) ?_;refine uAi rfl rfl rfl rfl (uAB (j:=(g.kind - 1).toNat) rfl rfl gU gU rfl rfl (by first | omega | (simp at hh ⊢; omega)) (fun hh=>uDA (by first | omega | (simp at hh ⊢; omega)))) ?_;refine uAi rfl rfl rfl rfl (uA1 rfl gU rfl rfl rfl) ?_
 rw [hkb]
 refine uAi rfl rfl rfl rfl (uAG rfl rfl gU gU (by first | omega | (simp only [List.length_append,List.length_cons,List.length_nil]; omega))) ?_;refine uAi rfl rfl rfl rfl (uAg rfl gU rfl rfl) ?_;refine uAW rfl rfl rfl rfl rfl rfl rfl gU rfl rfl rfl rfl ?_;refine uAi rfl rfl rfl rfl (uAG rfl rfl gU gU (by first | omega | (simp only [List.length_append,List.length_cons,List.length_nil]; omega))) ?_;refine uAi rfl rfl rfl rfl (uAd rfl gU) ?_;refine uBe (by kernel_rfl) ?_;refine uAn (s:=⟨[(1,_,_),(3,_,_)],[(.l 1,_)],[],[]⟩) (uAj (⟨sx rfl,sx rfl,trivial⟩) (⟨sx rfl,trivial⟩) trivial) ?_;refine uAe ?_;refine uAe (uAb ?_);refine uAa rfl rfl rfl (uAp rfl gU rfl rfl rfl rfl rfl) ?_;refine uAw rfl rfl rfl rfl rfl rfl gU gU (uB1 g) rfl ?_;refine uAf ?_;refine uAm rfl (fun hc=>?_) (fun hc=>?_)
 ·try simp only [nn,uAh,T.rows_len,Gl.rows_len,Fs.rows_len,Sp.rows_len] at hc
  refine uAb ?_;refine uAa rfl rfl rfl (uAc rfl gU) ?_;refine uAa rfl rfl rfl (uAg rfl gU rfl rfl) ?_;refine uAa rfl rfl rfl (uAl rfl gU rfl rfl rfl rfl) ?_;refine uAa rfl rfl rfl (uAG rfl rfl gU gU (by first | omega | (simp only [List.length_append,List.length_cons,List.length_nil]; omega))) ?_;refine uAa rfl rfl rfl (uAG rfl rfl gU gU (by first | omega | (simp only [List.length_append,List.length_cons,List.length_nil]; omega))) ?_;refine uAa rfl rfl rfl (uAd rfl gU) ?_;refine uAf ?_;refine uAn (s := ⟨[(1,_,_),(3,_,_)],[(.l 1,_)],[],[]⟩) (uAj (⟨sx rfl,sx rfl,trivial⟩) (⟨sx rfl,trivial⟩) trivial) ?_;refine uAe (uAb ?_);refine uAa rfl rfl rfl (uAc rfl gU) ?_;refine uAa rfl rfl rfl (uAG rfl rfl gU gU (by first | omega | (simp only [List.length_append,List.length_cons,List.length_nil]; omega))) ?_;refine uAa rfl rfl rfl (uAg rfl gU rfl rfl) ?_;refine uAa rfl rfl rfl (uAl rfl gU rfl rfl rfl rfl) ?_;refine uAw rfl rfl rfl rfl rfl rfl gU gU (uG0 g.data (by have := hg.sizes; omega) hg.oks) rfl ?_;refine uAa rfl rfl rfl (uAG rfl rfl gU gU (by first | omega | (simp only [List.length_append,List.length_cons,List.length_nil]; omega))) ?_;refine uAa rfl rfl rfl (uAd rfl gU) ?_;refine uAf ?_;refine uAo ?_
  repeat (first | refine tR ?_ | refine bR ?_)
  refine uAr rfl ?_ trivial
  (rw [uGY,if_pos hc,hkb]; simp only [List.append_assoc]; rfl)
 ·try simp only [nn,uAh,T.rows_len,Gl.rows_len,Fs.rows_len,Sp.rows_len] at hc
  refine uAq ?_;refine uAe (uAb ?_);refine uAa rfl rfl rfl (uAc rfl gU) ?_;refine uAa rfl rfl rfl (uAG rfl rfl gU gU (by first | omega | (simp only [List.length_append,List.length_cons,List.length_nil]; omega))) ?_;refine uAa rfl rfl rfl (uAg rfl gU rfl rfl) ?_;refine uAa rfl rfl rfl (uAl rfl gU rfl rfl rfl rfl) ?_;refine uAw rfl rfl rfl rfl rfl rfl gU gU (uG0 g.data (by have := hg.sizes; omega) hg.oks) rfl ?_;refine uAa rfl rfl rfl (uAG rfl rfl gU gU (by first | omega | (simp only [List.length_append,List.length_cons,List.length_nil]; omega))) ?_;refine uAa rfl rfl rfl (uAd rfl gU) ?_;refine uAf ?_;refine uAo ?_
  repeat (first | refine tR ?_ | refine bR ?_)
  refine uAr rfl ?_ trivial
  (rw [uGY,if_neg (by rw [hc]; simp),hkb]; simp only [List.append_assoc,List.nil_append]; rfl)
theorem map_take {α β : Type} (f : α→β) {l : List α} {d : α} {k : Nat} (h : k < l.length) : (l.take (k + 1)).map f=(l.take k).map f++[f (l.getD k d)]:=by rw [uHM (d:=d) h,List.map_append]; rfl
theorem uIA (x : List UInt8) (c : UInt8) (hx : x.length≤2000000) : Ctr sys 136 [xs (x++[c]),xs [c]] [] (xb true) none []:=by
 have hl : (x++[c]).length=x.length + 1:=by simp
 refine uAA Tryz.func136 rfl rfl rfl rfl rfl rfl ?_;refine uAe (uAb ?_);refine uAa rfl rfl rfl (uAd rfl gU) ?_;refine uAf ?_;refine uAe (uAb ?_);refine uAa rfl rfl rfl (uAc rfl gU) ?_;refine uBl rfl rfl rfl rfl rfl gU (Tryz.underlying9) ?_ (fun hh=>by simp at hh); intro hlen;refine uAa rfl rfl rfl (uAc rfl gU) ?_;refine uBl rfl rfl rfl rfl rfl gU (Tryz.underlying9) ?_ (fun hh=>by simp at hh); intro hlen;refine uAa rfl rfl rfl (uAk rfl rfl gU gU rfl) ?_;refine uAa rfl rfl rfl (uAc rfl gU) ?_;refine uAa rfl rfl rfl (uAc rfl gU) ?_;refine uAa rfl rfl rfl (uAc rfl gU) ?_;refine uAa rfl rfl rfl (uBY rfl (fun hh=>hh) (Tryz.underlying9)) ?_;refine uAa rfl rfl rfl (uAc rfl gU) ?_;refine uAa rfl rfl rfl (uBY rfl (fun hh=>hh) (Tryz.underlying9)) ?_;refine uBo (s:=⟨[(1,_,_),(10,_,_),(11,_,_),(13,_,_),(15,_,_)],[],[],[]⟩) (uAj (⟨sx rfl,sx rfl,sx rfl,sx rfl,sx rfl,trivial⟩) trivial trivial) ?_;refine uAa rfl rfl rfl (uAu rfl rfl (fun hh=>hh) (fun hh=>hh) rfl (IntWalk.i64_in _ (by omega))) ?_;refine uAa rfl rfl rfl (uBh (l:=x.length) rfl (fun hh=>hh) Tryz.underlying9 (fun _=>⟨_,_,_,rfl,(fun hh=>hh),by first | omega | (simp only [hl,List.length_cons,List.length_nil]; omega) | (simp only [hl,List.length_cons,List.length_nil] at *; omega)⟩) (fun _=>rfl) (fun hh=>by first | omega | (simp only [hl,List.length_cons,List.length_nil]; omega) | (simp only [hl,List.length_cons,List.length_nil] at *; omega)) (fun hh=>by first | omega | (simp only [hl,List.length_cons,List.length_nil]; omega) | (simp only [hl,List.length_cons,List.length_nil] at *; omega))) ?_
 refine uAa rfl rfl rfl (uAc rfl gU) ?_;refine uAa rfl rfl rfl (uA4 rfl rfl (fun hh=>hh) (fun hh=>hh) rfl) ?_;refine uAa rfl rfl rfl (uAQ rfl rfl gU (fun _ hi=>gP rfl hi)) ?_;refine uAa rfl rfl rfl (uAd rfl gU) ?_;refine uAf ?_;refine uAo ?_
 repeat (first | refine tR ?_ | refine bR ?_)
 refine uAr rfl ?_ trivial;refine uCY ?_
 simp [List.take_of_length_le]
 omega
theorem uHm (x : List UInt8) (c : UInt8) (hx : x.length≤2000000) : Ctr sys 92 [xs (x++[c]),xs [c]] [] (xs x) none []:=by
 have hl : (x++[c]).length=x.length + 1:=by simp
 refine uAA Tryz.func92 rfl rfl rfl rfl rfl rfl ?_;refine uAe (uAb ?_);refine uAa rfl rfl rfl (uAd rfl gU) ?_;refine uAf ?_;refine uAe ?_;refine uAe (uAb ?_);refine uAa rfl rfl rfl (uAc rfl gU) ?_;refine uAa rfl rfl rfl (uAc rfl gU) ?_;refine uAw rfl rfl rfl rfl rfl rfl gU gU (uIA _ _ (by omega)) rfl ?_;refine uAf ?_;refine uAm rfl (fun hc=>?_) (fun hc=>?_)
 ·refine uAe (uAb ?_)
  refine uAa rfl rfl rfl (uAc rfl gU) ?_;refine uAa rfl rfl rfl (uAc rfl gU) ?_;refine uBl rfl rfl rfl rfl rfl gU (Tryz.underlying9) ?_ (fun hh=>by simp at hh); intro hlen;refine uAa rfl rfl rfl (uAc rfl gU) ?_;refine uBl rfl rfl rfl rfl rfl gU (Tryz.underlying9) ?_ (fun hh=>by simp at hh); intro hlen;refine uAa rfl rfl rfl (uAu rfl rfl gU gU rfl (IntWalk.i64_in _ (by omega))) ?_;refine uAa rfl rfl rfl (uBh (h':=x.length) rfl gU Tryz.underlying9 (fun _=>rfl) (fun _=>⟨_,_,_,rfl,gU,by first | omega | (simp only [hl,List.length_cons,List.length_nil]; omega) | (simp only [hl,List.length_cons,List.length_nil] at *; omega)⟩) (fun hh=>by first | omega | (simp only [hl,List.length_cons,List.length_nil]; omega) | (simp only [hl,List.length_cons,List.length_nil] at *; omega)) (fun hh=>by first | omega | (simp only [hl,List.length_cons,List.length_nil]; omega) | (simp only [hl,List.length_cons,List.length_nil] at *; omega))) ?_;refine uAa rfl rfl rfl (uAd rfl gU) ?_;refine uAf ?_;refine uAo ?_
  repeat (first | refine tR ?_ | refine bR ?_)
  refine uAr rfl ?_ trivial;exact congrArg xs (by simp)
 ·exfalso
  simp at hc
theorem uId (x : List UInt8) (c : UInt8) (hx : x.length≤2000000) : Ctr sys 42 [xs (x++[c]),xs [c]] [] (xs x) none []:=by
 refine uAA Tryz.func42 rfl rfl rfl rfl rfl rfl ?_;refine uAe (uAb ?_);refine uAa rfl rfl rfl (uAd rfl gU) ?_;refine uAf ?_;refine uAe (uAb ?_);refine uAa rfl rfl rfl (uAc rfl gU) ?_;refine uAa rfl rfl rfl (uAc rfl gU) ?_;refine uAw rfl rfl rfl rfl rfl rfl gU gU (uHm _ _ (by omega)) rfl ?_;refine uAa rfl rfl rfl (uAd rfl gU) ?_;refine uAf ?_;refine uAo ?_
 repeat (first | refine tR ?_ | refine bR ?_)
 refine uAr rfl ?_ trivial
 rfl
end Go.Proofs.YtnjjdbapadkomaaGreatDoor
namespace Go.Abs
variable {Z : Pg}
theorem Rel.rowBox {E : Env} {G : Gh} {st : St} {a : Act} {w : World} (h : Rel E G st a w) {j' : Nat} (hfr : FreshG st (.l j',true)) {cells : Array Value} {e : TypeId} {cs : List C}
  (hrep : ∀ (j : Nat) (c : C),cs[j]? = some c → ∃ v,cells[j]? = some v∧CRep w G.S c v) :
  ∃ G1,Rel E G1 (st.addBox (.l j') cs) a (w.alloc (.cells cells e))∧G1.A (.l j')=(w.heap.size,0):=by
 let f : Nat→Who:=fun o=>if o < cs.length then .box (.l j') else .none
 have hfr' : Fr (fun _ _=>False) w.heap.size w (w.alloc (.cells cells e)):=uCQ w (.cells cells e)
 refine ⟨(G.push w.heap.size f).name (.l j') (w.heap.size,0),?_,by simp [Gh.name]⟩;refine Rel.addBox ?_ ?_ rfl
 ·refine (h.sub (St.drop_sub _ (.l j'))).grow hfr' ?_ (St.drop_same (st:=st) rfl (fun k g x hk=>hfr.1 rfl k g x hk) _ _) ?_
  ·intro b o hb
   have : ¬ b=w.heap.size:=by omega
   simp [Gh.name,Gh.push,this]
  ·intro b o hne
   simp only [Gh.name,Gh.push] at hne
   split at hne
   ·rename_i hb; subst hb; simp
   ·have := h.wf b o hne; simp; omega
 ·intro j c hj
  have hjl : j < cs.length:=(List.getElem?_eq_some_iff.1 hj).1
  obtain ⟨v,hv',hr⟩:=hrep j c hj
  refine ⟨by simp [Gh.name,Gh.push,f,hjl],by simp only [Gh.name,if_true]; exact World.frozen?_alloc_new w cells e _,v,?_,?_⟩
  ·simp only [Gh.name,if_true]
   rw [Nat.zero_add]
   exact (World.cell?_alloc_new w cells e j).trans hv'
  ·refine hr.mono ?_ ?_
   ·intro b o hs
    have hb:=h.wf b o (by unfold Gh.S at hs; rw [hs]; simp)
    have : ¬ b=w.heap.size:=by omega
    simpa [Gh.S,Gh.name,Gh.push,this] using hs
   ·intro b o hs
    have hb:=h.wf b o (by unfold Gh.S at hs; rw [hs]; simp)
    exact hfr'.cell b o hb (fun x=>x)
abbrev Eff.bms (d j' sz L : Nat) (cs : List C) : Eff:={ d:=some (d,true, .v (.ms (.l j') sz 0 L)),b:=some (.l j',cs),drop:=[.t d],gain:=some (.t d,sz) }
theorem uI0 (j' : Nat) {N : Nat} {st : St} {ops : Array Oper} {o : Oper} {g : Bool} {d : Nat} {t : TypeId} {len : Nat} {parts : Array (Nat × Operand)} {xs : List Operand} {ti : TyI} {e sz by' : Nat} {rs : List (List C)}
  (ho : o.op = .buildSlice t len parts) (hg : uA7 ops st o=some true) (hd : o.dst=some d) (hN : Nat.ble (d + 1) N=true) (ht : tyAt Z.T t=some ti) (hel : ti.el=some (e,sz,by')) (hp : parts.toList=uD1 0 xs) (hx : Nat.beq xs.length len=true)
  (hrs : uCF Z.T st e sz xs=some (g,rs)) (hga : g=true) (hbig : Nat.ble (len * sz) 10000=true) (hfr : FreshG st (.l j',true)) : Op1 Z N ops o st (ap (.bms d j' sz len rs.flatten) st):=by
 intro E G a w hr hE K' Q' hK
 have hdN : d < E.nt:=by rw [hE.nt]; exact Nat.le_of_ble_eq_true hN
 rw [uBH hr hg,hd]
 rw [hd] at hK
 simp only [if_true]
 have hxl : xs.length=len:=Nat.eq_of_beq_eq_true hx
 have hbig' : len * sz≤10000:=Nat.le_of_ble_eq_true hbig
 have hrep:=uEC hr hrs hga
 have hrl : rs.length=xs.length:=hrep.len
 obtain ⟨hu,jf,ze,hinfo,hsz,_,hsz0,hze,hzec⟩:=(Z.tyOk ht).sl e sz by' hel
 have hsz' : ∀ x ∈ xs,(a.eval x).cells.size=sz:=by
  intro x hx
  obtain ⟨j,hj⟩:=List.getElem?_of_mem hx
  have hjl : j < rs.length:=by rw [hrl]; exact (List.getElem?_eq_some_iff.1 hj).1
  obtain ⟨x',hx',h1,h2⟩:=hrep.get j _ (List.getElem?_eq_getElem hjl)
  rw [hj] at hx'; simp at hx'; subst hx'
  rw [← Array.length_toList,← h2.len,h1]
 let zc : Array Value:=if len * sz=0 then #[] else ze.cells
 let cells0 : Array Value:=(Array.range (len * sz)).map (zc[· % zc.size]!)
 obtain ⟨cells,hf1,hf2,_,hf4⟩:=uHd sz a.eval xs 0 cells0 hsz' (by simp [cells0,hxl])
 have hfsz : cells.size=len * sz:=by rw [hf2]; simp [cells0]
 have hrun : (execOp a.eval o).run Z.P w = .ok (.value (.slice (some ⟨w.heap.size,0,none⟩) len len)) (w.alloc (.cells cells e)):=by
  have hmap : (parts.map fun (i,x)=>(i,a.eval x)).toList=(uD1 0 xs).map fun (i,x)=>(i,a.eval x):=by
   rw [Array.toList_map,hp]
  have hnb : ¬ (len * sz > 2 ^ 24):=by omega
  simp only [execOp,ho,Instr.buildSlice,underlying,Sem.run_bind,run_program,Result.andThen_ok,hu,Sem.run_pure,sizeOf,typeInfo,hinfo,hsz,Sem.run_ite,if_neg hnb]
  by_cases hz : len * sz=0
  ·simp only [hz,if_true]
   have hc0 : (Array.range 0).map ((#[] : Array Value)[· % (#[] : Array Value).size]!)=cells0:=by simp [cells0,hz]
   rw [hmap,hc0,hf1]
   simp [newRow]
  ·simp only [if_neg hz,zeroValue,typeInfo,Sem.run_bind,run_program,Result.andThen_ok,hinfo,Sem.run_pure,hze]
   have hc0 : (Array.range (len * sz)).map (ze.cells[· % ze.cells.size]!)=cells0:=by simp only [cells0,zc,if_neg hz]
   rw [hmap,hc0,hf1]
   simp [newRow]
 unfold Oper.wp
 rw [hrun,Oper.upon_value,hd]
 have hrow : ∀ (i : Nat) (row : List C),rs[i]? = some row→row.length=sz:=fun i row hi=>by
  obtain ⟨x,hx1,hx2,hx3⟩:=hrep.get i row hi
  exact hx2
 obtain ⟨G1,hG,hA⟩:=hr.rowBox (j':=j') hfr (cells:=cells) (e:=e) (cs:=rs.flatten) (fun m c hm=>by
  obtain ⟨i,j,row,hmi,_,hi,hj⟩:=uGE hrow hm
  subst hmi
  obtain ⟨x,hx1,hx2,hx3⟩:=hrep.get i row hi
  obtain ⟨v,hv,hcr⟩:=hx3.get j c hj
  have hjl : j < sz:=by rw [← hx2]; exact (List.getElem?_eq_some_iff.1 hj).1
  have := hf4 i x j hx1 hjl
  rw [Nat.zero_add] at this
  exact ⟨v,by rw [this]; simpa using hv,hcr⟩)
 have hput:=hG.put hdN (g:=true) (x:=.v (.ms (.l j') sz 0 len)) (v:=.slice (some ⟨w.heap.size,0,none⟩) len len) (fun _=>.inr ⟨len,Nat.le_refl _,by rw [hA]⟩) (fun hf=>by simp at hf)
 have hown:=hput.addOwn (p:=.t d) (sz:=sz) (v:=.slice (some ⟨w.heap.size,0,none⟩) len len) (by
  show (a.put (some d) _).tmps[d]? = _
  rw [uBy (by rw [hr.nt]; exact hdN)]; simp) (by
  refine .inr ⟨w.heap.size,len,len,e,rfl,⟨Nat.le_refl _,Nat.le_trans E.C_le (Nat.le_trans hr.hB hr.fr.size),fun _ _ _ hh=>by simp at hh⟩,⟨?_,uEk w cells e _⟩,fun o' h1 h2=>by omega⟩
  unfold World.shape?
  rw [show (w.alloc (.cells cells e)).heap[w.heap.size]? = some (.cells cells e) from Array.getElem?_push_size]
  simp [hfsz])
 have hsub : Sub (ap (.bms d j' sz len rs.flatten) st) (((st.addBox (.l j') rs.flatten).put d (true, .v (.ms (.l j') sz 0 len))).addOwn (.t d) sz):=by
  refine ⟨fun k x hk=>?_,fun n cs hn=>?_,fun p s hp=>?_, .inr rfl⟩
  ·rw [uCn] at hk
   show ((st.addBox (.l j') rs.flatten).put d (true, .v (.ms (.l j') sz 0 len))).get k=_
   rw [St.put_get]
   simp only [Eff.gt] at hk
   by_cases h : d=k
   ·subst h; simpa using hk
   ·have h' : ¬ k=d:=fun e=>h e.symm
    rw [if_neg h']
    have hk' : st.get k=some x:=by simpa [h] using hk
    exact hk'
  ·rw [uCr] at hn
   show getB ((.l j',rs.flatten) :: (st.drop (.l j')).bx) n=_
   rw [uAZ]
   simp only [Eff.gb] at hn
   split
   ·rename_i he; rw [if_pos he] at hn; exact hn
   ·rename_i he
    rw [if_neg he] at hn
    show (st.drop (.l j')).box n=_
    rw [St.drop_box,if_neg (fun q=>he q.symm)]
    exact hn
  ·rw [uB8] at hp
   rw [St.addOwn_own]
   simp only [Eff.go,List.mem_singleton] at hp
   split
   ·rename_i he; rw [if_pos he] at hp; exact hp
   ·rename_i he
    rw [if_neg he] at hp
    rw [St.put_own]
    split
    ·rename_i h2; rw [if_pos h2] at hp; exact hp
    ·rename_i h2
     rw [if_neg h2] at hp
     show (st.drop (.l j')).own p=_
     rw [St.drop_own]
     have hp : st.own p=some s:=hp
     rw [hfr.2 p s hp]
     simpa using hp
 exact hK G1 _ _ (hown.sub hsub)
section
variable {N : Nat} {st s0 : St} {ops : Array Oper} {B : List Nat} {q : Nat} {rest : List Oper} {acc : List Lnk} {o : Oper} {Q : St→Prop} {d : Nat}
theorem uJM (j' : Nat) {g : Bool} {t : TypeId} {len : Nat} {parts : Array (Nat × Operand)} {xs : List Operand} {ti : TyI} {e sz by' : Nat} {rws : List (List C)} (hk : ops[q]? = some o)
  (ho : o.op = .buildSlice t len parts) (hg : uA7 ops (rs (foot ops o [] []) st) o=some true) (hd : o.dst=some d) (hN : Nat.ble (d + 1) N=true) (ht : tyAt Z.T t=some ti) (hel : ti.el=some (e,sz,by')) (hp : parts.toList=uD1 0 xs) (hx : Nat.beq xs.length len=true)
  (hrs : uCF Z.T (rs (foot ops o [] []) st) e sz xs=some (g,rws)) (hga : g=true) (hbig : Nat.ble (len * sz) 10000=true) (hf1 : s0.freshO (.l j',true)=true)
  (hr : Draw Z N s0 ops B (q + 1) rest (acc++[(q, .bms d j' sz len rws.flatten,{ foot ops o [] [] with rn:=[(.l j',true)] })]) (ap (.bms d j' sz len rws.flatten) st) Q) : Draw Z N s0 ops B q (o :: rest) acc st Q:=by
 refine uCx hk (R:={ foot ops o [] [] with rn:=[(.l j',true)] }) ?_ hr (by
  intro m hm
  simp only [List.mem_cons,List.not_mem_nil,or_false] at hm
  subst hm
  exact hf1)
 intro s2 hag hfr
 have hsub : Sub (rs (foot ops o [] []) st) s2:=hag.sub
 exact uI0 j' ho (uBV hsub hg) hd hN ht hel hp hx (uEA hsub hrs) hga hbig (hfr _ (by simp))
end
theorem uF0 {st : St} {ty : TypeId} {x i : Operand} {t : TypeId} {g gi gate : Bool} {k : IntKind} {m : Int} {j sz : Nat} {es : List (List C)} {row : List C} {ti : TyI} {e by' : Nat} (h : lk Z.T st ty x=some (g, .v (.c (.sl sz es)))) (hi : lk Z.T st ty i=some (gi, .v (.c (.i k m))))
  (hg : gate=true→g=true) (hgi : gate=true→gi=true) (ht : tyAt Z.T t=some ti) (hel : ti.el=some (e,sz,by')) (hn : gate=true→m=(j : Int)) (hj : gate=true→es[j]? = some row) : PureOk Z st (.indexAddr t x i) ty gate (.v (.ro row)) :=
 fun o E G a w h1 h2 h3 h4=>uAB h hi hg hgi ht hel (hn h4) hj o E G a w h1 h2 h3 h4
theorem uI7 (j' : Nat) {N : Nat} {ops : Array Oper} {rest : List Oper} {K : St→Prop} {st : St} {o : Oper} {d k : Nat} {x : Operand} {t : TypeId} {sz e by' L m0 : Nat} {cs : List C} {xs : List (List C)} {ti : TyI}
  (ho : o.op = .call { callee:=.builtin .append,args:=#[.tmp k,x],argTypes:=#[t,t] }) (hg : uA7 ops st o=some true) (hd : o.dst=some d)
  (hs : st.get k=some (true, .v (.ms (.l m0) sz 0 L))) (hw : st.own (.t k)=some sz) (hb : st.box (.l m0)=some cs) (hx : lk Z.T st t x=some (true, .v (.c (.sl sz xs))))
  (ht : tyAt Z.T t=some ti) (hel : ti.el=some (e,sz,by')) (hN : Nat.ble (d + 1) N=true) (hkd : Nat.beq k d=false) (hf1 : st.freshO (.l j',true)=true) (hf2 : st.freshO (.l m0,false)=true) (hcl : cs.length=L * sz) (hx1 : 1≤xs.length)
  (hbig : (L + xs.length) * by'≤140737488355328) (hmax : L + xs.length≤9223372036854775807)
  (h : AL Z N ops rest K (st.msApp d k j' (.l m0) sz (L + xs.length) (cs++xs.flatten))) (hz : Z.old=false:=by rfl) : AL Z N ops (o :: rest) K st :=
 uDm (uEL hg (by
  rw [hd,ho]
  exact uJ5 hs hw hx ht hel hN hkd ⟨_,rfl⟩ (St.freshO_ok hf1) (St.freshO_ok hf2) hcl hx1 hbig hmax (uNZ hb hcl) (hz:=hz))) h
end Go.Abs
namespace Go.Proofs.YtnjjdbapadkomaaGreatDoor
open Go Go.Abs
def strC (L : List (List UInt8)) : List C:=L.map .s
theorem uHx : ∀ L : List (List UInt8),(strR L).flatten=strC L
 | []=>rfl
 | x :: L=>by
  show ([[C.s x]]++strR L).flatten=_
  rw [List.flatten_append,uHx L]; rfl
theorem uE6 (L : List (List UInt8)) : (strC L).length=L.length:=by simp [strC]
theorem uGB (a b : List (List UInt8)) : strC (a++b)=strC a++strC b:=by simp [strC]
theorem uL0 (L : List (List UInt8)) : ∀ (i : Nat) (row : List C),(strR L)[i]? = some row→row.length=1:=by
 intro i row h
 rw [strR,List.getElem?_map,Option.map_eq_some_iff] at h
 obtain ⟨x,_,rfl⟩:=h
 rfl
theorem uK5 (L : List (List UInt8)) (x : List UInt8) {j : Nat} (hj : j=L.length) : (strC (L++[x]))[0 + j * 1]? = some (.s x):=by
 subst hj; simp [strC]
theorem uJs (L : List (List UInt8)) (x y : List UInt8) {j : Nat} (hj : j=L.length) : uBx (strC (L++[x])) (0 + j * 1) [.s y]=strC (L++[y]):=by
 subst hj
 rw [uGB,uGB,Nat.zero_add,Nat.mul_one]
 have := uHY [C.s y] (strC L) [C.s x] [] rfl
 rw [uE6,List.append_nil,List.append_nil] at this
 exact this
theorem uND {a b : Nat} (h : a≤b) : Nat.ble a b=true:=Nat.ble_eq_true_of_le h
def Nar.lk (n : Nar) (k : Nat) : List (List UInt8):=[uHc n,(Itm.roles n.roles).text]++(frI n.fresh k).map Itm.text
theorem uJV (n : Nar) (k : Nat) : (n.lk k).length=2 + (frI n.fresh k).length:=by simp [Nar.lk]; omega
theorem uNK (f : Fs) : fsW f.pr=f.name++[32]++sortW.getD (f.sort - 2).toNat []:=by simp [fsW,Fs.pr,uHu]
theorem uMP {n : Nar} {k : Nat} (hs : uD9 n.fresh k) : ∃ L x,n.lk k=L++[x++[59]]∧n.lk (k + 1)=L++[x++[44,32]++fsW (n.fresh.getD k default).pr++[59]] ∧ ∃ l,(Itm.fresh (n.fresh.getD k default).role l) ∈ frI n.fresh k∧x++[59]=(Itm.fresh (n.fresh.getD k default).role l).text:=by
 obtain ⟨I,l,h1,h2,h3⟩:=uGr hs
 obtain ⟨x,hx⟩:=uLt (n.fresh.getD k default).role l
 refine ⟨[uHc n,(Itm.roles n.roles).text]++I.map Itm.text,x,?_,?_,l,by rw [h2]; simp,hx.symm⟩
 ·rw [Nar.lk,h2,← hx]; simp
 ·rw [Nar.lk,h3,List.map_append,List.map_cons,List.map_nil,uLK _ h1,hx,List.dropLast_concat]; simp
theorem uNQ {n : Nar} {k : Nat} (hs : ¬uD9 n.fresh k) : n.lk (k + 1)=n.lk k++[hFresh++(n.fresh.getD k default).role++[58,32]++fsW (n.fresh.getD k default).pr++[59]]:=by
 rw [Nar.lk,uIo hs,Nar.lk]
 simp [Itm.text,uJE]
def uE5 (n : Nar) : List UInt8 × Int:=if narE uAL n≠0 then ([],narE uAL n) else (n.text,0)
def Nar.rest (n : Nar) (j k : Nat) : List (List UInt8):=n.lk n.fresh.length++((if n.tags=[] then [] else [(Itm.tags n.tags).text])++((n.steps.take j).map (fun s=>(Itm.step s).text)++(n.goals.take k).map fun g=>(Itm.goal g).text))
theorem uJm (n : Nar) : n.rest n.steps.length n.goals.length++[[125]]=n.lines:=by
 simp only [Nar.rest,List.take_length,Nar.lk,Nar.lines,Nar.itms]
 split <;> simp [List.map_map,Function.comp_def]
theorem uHr (n : Nar) {j : Nat} (h : j < n.steps.length) : n.rest (j + 1) 0=n.rest j 0++[(Itm.step (n.steps.getD j default)).text]:=by
 simp only [Nar.rest,map_take (d:=default) (fun s=>(Itm.step s).text) h]
 simp
theorem uHZ (n : Nar) {k : Nat} (h : k < n.goals.length) : n.rest n.steps.length (k + 1)=n.rest n.steps.length k++[(Itm.goal (n.goals.getD k default)).text]:=by
 simp only [Nar.rest,map_take (d:=default) (fun g=>(Itm.goal g).text) h]
 simp
theorem uL3 (n : Nar) (j k : Nat) : (n.rest j k).length≤2 + n.fresh.length + 1 + n.steps.length + n.goals.length:=by
 have := uER n.fresh n.fresh.length
 have := List.length_take_le j n.steps
 have := List.length_take_le k n.goals
 simp only [Nar.rest,List.length_append,List.length_map,uJV]
 split <;> simp <;> omega
theorem uNt {n : Nar} (h : NarOk n) {k : Nat} (hk : k≤n.fresh.length) : (n.lk k).length≤14:=by
 have := uER n.fresh k
 have := h.f2
 rw [uJV]; omega
theorem uEU {n : Nar} (h : NarOk n) (j k : Nat) : (n.rest j k).length≤31:=by
 have := uL3 n j k
 have := h.f2
 have := h.s2
 have := h.g2
 omega
set_option maxHeartbeats 8000000 in
theorem uIF (n : Nar) (hs : ∀ s ∈ n.steps,s.msg.size≤900000) (hg : ∀ g ∈ n.goals,T.sizes g.data≤900000) : Ctr sys 12 [xn n] [] (xse (uE5 n)) none []:=by
 have hr1:=uAh n.roles
 have hr2:=Fs.rows_len n.fresh
 have hr3:=uAh n.tags
 have hr4:=Sp.rows_len n.steps
 have hr5:=Gl.rows_len n.goals
 refine uAA Tryz.func12 rfl rfl rfl rfl rfl rfl ?_;refine uAe (uAb ?_);refine uAs rfl (uAY rfl rfl rfl rfl) ?_;refine uAa rfl rfl rfl (uAd rfl gU) ?_;refine uAa rfl rfl rfl (uAd rfl gU) ?_;refine uAf ?_;refine uAe ?_;refine uAe (uAb ?_);refine uAa rfl rfl rfl (uAp rfl gU rfl rfl rfl rfl rfl) ?_;refine uAw rfl rfl rfl rfl rfl rfl gU gU (uEH n hs hg) rfl ?_;refine uAa rfl rfl rfl (uAd rfl gU) ?_;refine uAf ?_;refine uAn (s:=⟨[(1,_,_),(4,_,_)],[(.l 1,_)],[],[]⟩) (uAj (⟨sx rfl,sx rfl,trivial⟩) (⟨sx rfl,trivial⟩) trivial) ?_;refine uAe (uAb ?_);refine uAa rfl rfl rfl (uAc rfl gU) ?_;refine uAa rfl rfl rfl (uAk rfl rfl gU gU rfl) ?_;refine uAf ?_;refine uAm rfl (fun hc=>?_) (fun hc=>?_)
 ·try simp only [nn,uAh,T.rows_len,Gl.rows_len,Fs.rows_len,Sp.rows_len] at hc
  refine uAe (uAb ?_);refine uAa rfl rfl rfl (uAc rfl gU) ?_;refine uAa rfl rfl rfl (uAd rfl gU) ?_;refine uAa rfl rfl rfl (uAd rfl gU) ?_;refine uAf ?_;refine uAo ?_
  repeat (first | refine tR ?_ | refine bR ?_)
  refine uAr rfl ?_ trivial
  (rw [uE5,if_pos hc]; rfl)
 ·try simp only [nn,uAh,T.rows_len,Gl.rows_len,Fs.rows_len,Sp.rows_len] at hc
  have hE : uE5 n=(n.text,0):=by rw [uE5,if_neg (by simpa using hc)]
  have hok:=uNT (n:=n) (by simpa using hc)
  have b1:=uCs hok.name
  have b2:=uDB hok.roles
  have b3:=hok.r2
  have b4:=uDB hok.tags
  have b5:=hok.t2
  have b6:=hok.f2
  have b7:=hok.s2
  have b8:=hok.g2
  rw [hE]
  refine uAq ?_;refine uAe ?_;refine awp_drawn' (by kernel_rfl) ?_;refine uAi rfl rfl rfl rfl (uAg rfl gU rfl rfl) ?_;refine uAW rfl rfl rfl rfl rfl rfl rfl gU rfl rfl rfl rfl ?_;refine uAi rfl rfl rfl rfl (uAG rfl rfl gU gU (by first | omega | (simp only [List.length_append,List.length_cons,List.length_nil]; omega))) ?_;refine uAi rfl rfl rfl rfl (uAG rfl rfl gU gU (by first | omega | (simp only [List.length_append,List.length_cons,List.length_nil]; omega))) ?_;refine uAi rfl rfl rfl rfl (uAg rfl gU rfl rfl) ?_;refine uAW rfl rfl rfl rfl rfl rfl rfl gU rfl rfl rfl rfl ?_;refine uBa rfl rfl rfl rfl rfl rfl rfl gU gU (uDq n.roles [44,32] (by omega) (by decide) (by omega)) rfl ?_;refine uAi rfl rfl rfl rfl (uAG rfl rfl gU gU (by first | omega | (simp only [List.length_append,List.length_cons,List.length_nil]; omega))) ?_;refine uAi rfl rfl rfl rfl (uAG rfl rfl gU gU (by first | omega | (simp only [List.length_append,List.length_cons,List.length_nil]; omega))) ?_;refine uJM 28 (xs:=[_,_]) rfl rfl rfl rfl rfl rfl rfl rfl rfl rfl rfl rfl rfl ?_;refine uDy rfl (.inr rfl) rfl rfl rfl rfl rfl ?_;refine uBe (by kernel_rfl) ?_;refine uAn (s:=⟨[(1,_,_),(5,_,_)],[(.l 1,_),(.l 28,_)],[(.t 5,_)],[]⟩) (uAj (⟨sx rfl,sx rfl,trivial⟩) (⟨sx rfl,sx rfl,trivial⟩) (⟨rfl,trivial⟩)) ?_;refine uAe ?_;refine uAe (uAb ?_)
  refine uAa rfl rfl rfl (uAg rfl gU rfl rfl) ?_;refine uAa rfl rfl rfl (uAl rfl gU rfl rfl rfl rfl) ?_;refine uAU rfl rfl rfl rfl rfl gU rfl rfl ?_ (fun hh=>by simp at hh); intro hlen;refine uAa rfl rfl rfl (uAc rfl gU) ?_;refine uAf ?_;refine uAx ?_;refine uA6 (ι:=Nat) { t:=[(1,_,_),(30,_,_),(31,_,_)],bx:=[(.l 1,_)],ow:=[(.t 5,_)] } (fun k=>[(32,true,xi (k : Int)),(5,true, .v (.ms (.l 28) 1 0 (n.lk k).length))]) (fun k=>[((.l 28),strC (n.lk k))]) (fun k=>k≤n.fresh.length) (fun k=>n.fresh.length - k) (0) (by simp) (uAj (⟨sx rfl,sx rfl,sx rfl,sx rfl,sx rfl,trivial⟩) (⟨⟨_,rfl,by simp [strC,Nar.lk,frI,uHc,Itm.text,hProt,hRole]⟩,⟨sx rfl,trivial⟩⟩) (⟨rfl,trivial⟩)) ?_
  intro k hokk
  dsimp only [List.cons_append,List.nil_append]
  have hlm:=uNt hok hokk
  have hll:=uJV n k
  have hcl:=uE6 (n.lk k)
  refine uAe (uAb ?_);refine uAa rfl rfl rfl (uAk rfl rfl gU gU rfl) ?_;refine uAf ?_;refine uAe ?_;refine uAm rfl (fun hc2=>?_) (fun hc2=>?_)
  ·try simp only [nn,uAh,T.rows_len,Gl.rows_len,Fs.rows_len,Sp.rows_len] at hc2
   have hlt : k < n.fresh.length:=by omega
   obtain ⟨f1,f2,f3,f4⟩:=hok.fresh _ (uCG (d:=default) hlt)
   have f5:=uCs f1
   have f6:=uCs f2
   have f7:=uMt (n.fresh.getD k default).sort
   have f8:=uNK (n.fresh.getD k default)
   have hsl : sortW.length=3:=rfl
   have hfw : (fsW (n.fresh.getD k default).pr).length≤40:=by
    simp only [fsW,Fs.pr,List.length_append,List.length_cons,List.length_nil]; omega
   have f9 : (sortW.getD ((n.fresh.getD k default).sort - 2).toNat []).length≤5:=f7
   refine uAq ?_;refine uAe ?_;refine uAx ?_;refine uAe (uAb ?_);refine uAa rfl rfl rfl (uAc rfl gU) ?_;refine uAa rfl rfl rfl (uAB rfl rfl gU gU rfl rfl rfl (fun hh=>Fs.rows_at (by first | omega | (simp at hh ⊢; omega)))) ?_;refine uAa rfl rfl rfl (uAR rfl gU rfl rfl rfl rfl) ?_;refine uAs rfl (uAI rfl rfl rfl) ?_;refine uAa rfl rfl rfl (uAd rfl gU) ?_;refine uAs rfl (uAt rfl rfl rfl rfl rfl rfl rfl) ?_;refine uAf ?_;refine uAn (s:=⟨[(1,_,_),(5,_,_),(6,_,_),(7,_,_),(30,_,_),(31,_,_),(32,_,_)],[(.l 1,_),(.l 28,_),(.l 7,_)],[(.t 5,_)],[]⟩) (uAj (⟨sx rfl,sx rfl,sx rfl,sx rfl,sx rfl,sx rfl,sx rfl,trivial⟩) (⟨sx rfl,sx rfl,sx rfl,trivial⟩) (⟨rfl,trivial⟩)) ?_;refine uAe ?_;refine awp_drawn' (by kernel_rfl) ?_;refine uAi rfl rfl rfl rfl (uAg rfl gU rfl rfl) ?_;refine uAW rfl rfl rfl rfl rfl rfl rfl gU rfl rfl rfl rfl ?_;refine uAi rfl rfl rfl rfl (uAG rfl rfl gU gU (by first | omega | (simp only [List.length_append,List.length_cons,List.length_nil]; omega))) ?_;refine uBa rfl rfl rfl rfl rfl rfl rfl gU gU (uEJ) rfl ?_;refine uAi rfl rfl rfl rfl (uAg rfl gU rfl rfl) ?_;refine uAW rfl rfl rfl rfl rfl rfl rfl gU rfl rfl rfl rfl ?_;refine uAi rfl rfl rfl rfl (uAu rfl rfl gU gU rfl (IntWalk.i64_in _ (by omega))) ?_;refine uAi rfl rfl rfl rfl (uAB (j:=((n.fresh.getD k default).sort - 2).toNat) rfl rfl gU gU rfl rfl (by first | omega | (simp at hh ⊢; omega)) (fun hh=>uDA (by first | omega | (simp at hh ⊢; omega)))) ?_
   refine uAi rfl rfl rfl rfl (uA1 rfl gU rfl rfl rfl) ?_;refine uAi rfl rfl rfl rfl (uAG rfl rfl gU gU (by first | omega | (simp only [List.length_append,List.length_cons,List.length_nil]; omega))) ?_
   rw [← f8]
   refine uAi rfl rfl rfl rfl (uAd rfl gU) ?_;refine uBe (by kernel_rfl) ?_;refine uAn (s:=⟨[(1,_,_),(5,_,_),(6,_,_),(7,_,_),(8,_,_),(30,_,_),(31,_,_),(32,_,_)],[(.l 1,_),(.l 28,_),(.l 7,_)],[(.t 5,_)],[]⟩) (uAj (⟨sx rfl,sx rfl,sx rfl,sx rfl,sx rfl,sx rfl,sx rfl,sx rfl,trivial⟩) (⟨sx rfl,sx rfl,sx rfl,trivial⟩) (⟨(ak rfl (ak rfl (ak rfl (ak rfl (ak rfl (ak rfl (ak rfl (ak rfl (ak rfl (ak rfl (ak rfl (rfl)))))))))))),trivial⟩)) ?_;refine uAe ?_;refine uAe ?_;refine awp_drawn' (by kernel_rfl) ?_;refine uAi rfl rfl rfl rfl (uAc rfl gU) ?_;refine uAi rfl rfl rfl rfl (uAk rfl rfl gU gU rfl) ?_;refine uAi rfl rfl rfl rfl (uAc rfl gU) ?_;refine uAi rfl rfl rfl rfl (uAg rfl gU rfl rfl) ?_;refine uAW rfl rfl rfl rfl rfl rfl rfl (fun hh=>hh) rfl rfl rfl rfl ?_;refine uAi rfl rfl rfl rfl (uAc rfl gU) ?_;refine uAi rfl rfl rfl rfl (uAu rfl rfl (fun hh=>hh) gU rfl (IntWalk.i64_in _ (by omega))) ?_;refine uAi rfl rfl rfl rfl (uF0 (j:=k - 1) rfl rfl (by first | exact fun hh=>hh | exact fun _=>rfl | exact fun hh=>gL hh | exact fun hh=>gL (gL hh) | (intro hh; simp_all)) (by first | exact fun hh=>hh | exact fun _=>rfl | exact fun hh=>gL hh | exact fun hh=>gL (gL hh) | (intro hh; simp_all)) rfl rfl (fun hh=>by simp at hh; omega) (fun hh=>Fs.rows_at (by simp at hh; omega))) ?_
   refine uAi rfl rfl rfl rfl (uBc rfl (fun hh=>hh) rfl rfl) ?_;refine uAi rfl rfl rfl rfl (uA1 rfl (fun hh=>hh) rfl rfl rfl) ?_;refine uAi rfl rfl rfl rfl (uAg rfl gU rfl rfl) ?_;refine uAW rfl rfl rfl rfl rfl rfl rfl (fun hh=>hh) rfl rfl rfl rfl ?_;refine uAi rfl rfl rfl rfl (uA4 rfl rfl (fun hh=>hh) (fun hh=>hh) rfl) ?_;refine uAi rfl rfl rfl rfl (uAQ rfl rfl gU (fun _ hi=>gP rfl hi)) ?_;refine uBe (by kernel_rfl) ?_;refine uAn (s:=⟨[(1,_,_),(5,_,_),(7,_,_),(8,_,_),(30,_,_),(31,_,_),(32,_,_),(60,_,_)],[(.l 1,_),(.l 28,_),(.l 7,_)],[(.t 5,_)],[]⟩) (uAj (⟨sx rfl,sx rfl,sx rfl,sx rfl,sx rfl,sx rfl,sx rfl,sx rfl,trivial⟩) (⟨sx rfl,sx rfl,sx rfl,trivial⟩) (⟨(ak rfl (ak rfl (ak rfl (ak rfl (ak rfl (ak rfl (ak rfl (ak rfl (ak rfl (ak rfl (ak rfl (ak rfl (ak rfl (ak rfl (rfl))))))))))))))),trivial⟩)) ?_;refine uAm rfl (fun hc3=>?_) (fun hc3=>?_)
   ·try simp only [nn,uAh,T.rows_len,Gl.rows_len,Fs.rows_len,Sp.rows_len] at hc3
    have hsm : uD9 n.fresh k:=⟨by omega,hc3.2⟩
    obtain ⟨L,x,e1,e2,l,e3,e4⟩:=uMP hsm
    have hxl : x.length≤500:=by
     have := uJg hok.fresh (k := k) hokk hok.f2 _ e3
     rw [← e4,List.length_append] at this; omega
    have e5 : (n.lk k).length=L.length + 1:=by rw [e1]; simp
    have e6 : (n.lk (k + 1)).length=L.length + 1:=by rw [e2]; simp
    rw [e5]
    rw [e1]
    refine uAe (uAb ?_);refine uAa rfl rfl rfl (uAc rfl gU) ?_;refine uAa rfl rfl rfl (uAc rfl gU) ?_;refine uAa rfl rfl rfl (uKj rfl gU rfl rfl) ?_;refine uAa rfl rfl rfl (uAu rfl rfl gU gU rfl (IntWalk.i64_in _ (by omega))) ?_;refine uAa rfl rfl rfl (uIp (j:=L.length) rfl rfl gU gU rfl rfl (by first | rfl | first | omega | (simp at hh ⊢; omega)) (fun hh=>by first | omega | (simp at hh ⊢; omega))) ?_;refine uAa rfl rfl rfl (uAd rfl gU) ?_;refine uAf ?_;refine uAn (s:=⟨[(1,_,_),(5,_,_),(8,_,_),(9,_,_),(30,_,_),(31,_,_),(32,_,_)],[(.l 1,_),(.l 28,_)],[(.t 5,_)],[]⟩) (uAj (⟨sx rfl,sx rfl,sx rfl,sx rfl,sx rfl,sx rfl,sx rfl,trivial⟩) (⟨sx rfl,sx rfl,trivial⟩) (⟨rfl,trivial⟩)) ?_;refine uAe (uAb ?_);refine uAa rfl rfl rfl (uAc rfl gU) ?_;refine uAa rfl rfl rfl (uAc rfl gU) ?_;refine uAa rfl rfl rfl (uAz rfl gU) ?_;refine uAa rfl rfl rfl (uAl rfl gU rfl rfl rfl (uK5 L _ rfl)) ?_;refine uAw rfl rfl rfl rfl rfl rfl gU gU (uId x 59 (by omega)) rfl ?_;refine uAa rfl rfl rfl (uAG rfl rfl gU gU (by first | omega | (simp only [List.length_append,List.length_cons,List.length_nil]; omega))) ?_;refine uAa rfl rfl rfl (uAc rfl gU) ?_;refine uAa rfl rfl rfl (uAG rfl rfl gU gU (by first | omega | (simp only [List.length_append,List.length_cons,List.length_nil]; omega))) ?_
    refine uAa rfl rfl rfl (uAG rfl rfl gU gU (by first | omega | (simp only [List.length_append,List.length_cons,List.length_nil]; omega))) ?_;refine uAa rfl rfl rfl (uAz rfl gU) ?_;refine uAs rfl (uAt rfl rfl rfl rfl rfl rfl (uND (by rw [uE6]; simp))) ?_;refine uAf ?_;refine uAP ?_
    repeat (first | refine uAH ?_ | refine uAF ?_ | refine uAD rfl ?_)
    refine uAb ?_;refine uAa rfl rfl rfl (uAu rfl rfl gU gU rfl (IntWalk.i64_in _ (by omega))) ?_;refine uAa rfl rfl rfl (uAc rfl gU) ?_;refine uAf ?_;refine ⟨k + 1,?_,?_,uAj (⟨⟨_,rfl,?_⟩,⟨⟨_,rfl,?_⟩,⟨sx rfl,sx rfl,sx rfl,trivial⟩⟩⟩) (⟨⟨_,rfl,?_⟩,⟨sx rfl,trivial⟩⟩) (⟨rfl,trivial⟩)⟩
    all_goals first
     | rfl
     | omega
     | exact tx (by rw [e6])
     | (rw [uJs L _ _ rfl,e2]; done)
     | (rw [uJs L _ _ rfl,e2]; rfl)
   ·try simp only [nn,uAh,T.rows_len,Gl.rows_len,Fs.rows_len,Sp.rows_len] at hc3
    have hsm : ¬uD9 n.fresh k:=by
     rintro ⟨q1,q2⟩
     rcases hc3 with q | q
     ·omega
     ·exact q q2
    have e1:=uNQ hsm
    have e2 : (n.lk (k + 1)).length=(n.lk k).length + 1:=by rw [e1]; simp
    refine uAq ?_;refine uAb ?_;refine uAs rfl (uAK (.inl rfl) rfl rfl rfl) ?_;refine uAa rfl rfl rfl (uAg rfl gU rfl rfl) ?_;refine uAa rfl rfl rfl (uAl rfl gU rfl rfl rfl rfl) ?_;refine uAa rfl rfl rfl (uAG rfl rfl gU gU (by first | omega | (simp only [List.length_append,List.length_cons,List.length_nil]; omega))) ?_;refine uAa rfl rfl rfl (uAG rfl rfl gU gU (by first | omega | (simp only [List.length_append,List.length_cons,List.length_nil]; omega))) ?_;refine uAa rfl rfl rfl (uAc rfl gU) ?_;refine uAa rfl rfl rfl (uAG rfl rfl gU gU (by first | omega | (simp only [List.length_append,List.length_cons,List.length_nil]; omega))) ?_;refine uAa rfl rfl rfl (uAG rfl rfl gU gU (by first | omega | (simp only [List.length_append,List.length_cons,List.length_nil]; omega))) ?_;refine uAM (xs:=[_]) rfl rfl rfl rfl rfl rfl rfl rfl rfl gU rfl ?_;refine uI7 85 rfl rfl rfl rfl rfl rfl rfl rfl rfl rfl rfl rfl rfl (by rw [uE6,Nat.mul_one]) (by simp) (by simp; omega) (by simp; omega) ?_;refine uAs rfl (uAK (.inr rfl) rfl rfl rfl) ?_;refine uAf ?_;refine uAn (s:=⟨[(1,_,_),(5,_,_),(30,_,_),(31,_,_),(32,_,_)],[(.l 1,_),(.l 85,_)],[(.t 5,_)],[]⟩) (uAj (⟨sx rfl,sx rfl,sx rfl,sx rfl,sx rfl,trivial⟩) (⟨sx rfl,sx rfl,trivial⟩) (⟨rfl,trivial⟩)) ?_;refine uAb ?_;refine uBo (s:=⟨[(1,_,_),(5,_,_),(30,_,_),(31,_,_),(32,_,_)],[(.l 1,_),(.l 85,_)],[(.t 5,_)],[]⟩) (uAj (⟨sx rfl,sx rfl,sx rfl,sx rfl,sx rfl,trivial⟩) (⟨sx rfl,sx rfl,trivial⟩) (⟨rfl,trivial⟩)) ?_
    refine uLf 5 85 28 rfl rfl rfl rfl ?_;refine uBo (s:=⟨[(1,_,_),(5,_,_),(30,_,_),(31,_,_),(32,_,_)],[(.l 1,_),(.l 28,_)],[(.t 5,_)],[]⟩) (uAj (⟨sx rfl,sx rfl,sx rfl,sx rfl,sx rfl,trivial⟩) (⟨sx rfl,sx rfl,trivial⟩) (⟨rfl,trivial⟩)) ?_;refine uAa rfl rfl rfl (uAu rfl rfl gU gU rfl (IntWalk.i64_in _ (by omega))) ?_;refine uAa rfl rfl rfl (uAc rfl gU) ?_;refine uAf ?_;refine ⟨k + 1,?_,?_,uAj (⟨⟨_,rfl,?_⟩,⟨⟨_,rfl,?_⟩,⟨sx rfl,sx rfl,sx rfl,trivial⟩⟩⟩) (⟨⟨_,rfl,?_⟩,⟨sx rfl,trivial⟩⟩) (⟨rfl,trivial⟩)⟩
    all_goals first
     | rfl
     | omega
     | exact tx (by rw [e2]; rfl)
     | (rw [e1,uGB]; rfl)
  ·try simp only [nn,uAh,T.rows_len,Gl.rows_len,Fs.rows_len,Sp.rows_len] at hc2
   have hke : k=n.fresh.length:=by omega
   subst hke
   refine uAP ?_
   repeat (first | refine uAH ?_ | refine uAF ?_ | refine uAD rfl ?_)
   refine uAe ?_;refine uAe (uAb ?_);refine uLk 5 28 (strR (n.lk n.fresh.length)) rfl (by rw [uHx]; rfl) (uAh _) (by omega) (uL0 _) rfl ?_;refine uAa rfl rfl rfl (uAg rfl gU rfl rfl) ?_;refine uAa rfl rfl rfl (uAl rfl gU rfl rfl rfl rfl) ?_;refine uAU rfl rfl rfl rfl rfl gU rfl rfl ?_ (fun hh=>by simp at hh); intro hlen;refine uAa rfl rfl rfl (uAk rfl rfl gU gU rfl) ?_;refine uAf ?_;refine uAn (s:=⟨[(1,_,_),(5,_,_),(90,_,_)],[(.l 1,_)],[(.t 5,_)],[]⟩) (uAj (⟨sx rfl,sx rfl,sx rfl,trivial⟩) (⟨sx rfl,trivial⟩) (⟨rfl,trivial⟩)) ?_;refine uAm rfl (fun hc4=>?_) (fun hc4=>?_)
   ·try simp only [nn,uAh,T.rows_len,Gl.rows_len,Fs.rows_len,Sp.rows_len] at hc4
    have htg : n.tags≠[]:=by intro q; rw [q] at hc4; simp at hc4
    have e0 : n.rest 0 0=n.lk n.fresh.length++[(Itm.tags n.tags).text]:=by simp [Nar.rest,htg]
    refine uAb ?_;refine uAs rfl (uAK (.inl rfl) rfl rfl rfl) ?_;refine uAa rfl rfl rfl (uAg rfl gU rfl rfl) ?_;refine uAa rfl rfl rfl (uAl rfl gU rfl rfl rfl rfl) ?_;refine uAw rfl rfl rfl rfl rfl rfl gU gU (uDq n.tags [44,32] (by omega) (by decide) (by omega)) rfl ?_;refine uAa rfl rfl rfl (uAG rfl rfl gU gU (by first | omega | (simp only [List.length_append,List.length_cons,List.length_nil]; omega))) ?_;refine uAa rfl rfl rfl (uAG rfl rfl gU gU (by first | omega | (simp only [List.length_append,List.length_cons,List.length_nil]; omega))) ?_;refine uAM (xs:=[_]) rfl rfl rfl rfl rfl rfl rfl rfl rfl gU rfl ?_;refine uAs rfl (uA5 rfl rfl rfl rfl rfl rfl rfl (by first | omega | (simp only [List.length_append,List.length_singleton,uAh]; omega)) (by first | omega | (simp only [List.length_append,List.length_singleton,uAh]; omega))) ?_;refine uAs rfl (uAK (.inr rfl) rfl rfl rfl) ?_;refine uAf ?_;refine uAn (s:=⟨[(1,_,_),(5,_,_)],[(.l 1,_)],[(.t 5,_)],[]⟩) (uAj (⟨sx rfl,sx rfl,trivial⟩) (⟨sx rfl,trivial⟩) (⟨rfl,trivial⟩)) ?_;refine uAe ?_;refine uAe (uAb ?_);refine uAa rfl rfl rfl (uAg rfl gU rfl rfl) ?_;refine uAa rfl rfl rfl (uAl rfl gU rfl rfl rfl rfl) ?_;refine uAU rfl rfl rfl rfl rfl gU rfl rfl ?_ (fun hh=>by simp at hh); intro hlen;refine uAa rfl rfl rfl (uAc rfl gU) ?_
    refine uAf ?_;refine uAx ?_;refine uA6 (ι:=Nat) { t:=[(1,_,_),(100,_,_),(101,_,_)],bx:=[(.l 1,_)],ow:=[(.t 5,_)] } (fun j=>[(102,true,xi (j : Int)),(5,true,xss (n.rest j 0))]) (fun j=>[]) (fun j=>j≤n.steps.length) (fun j=>n.steps.length - j) (0) (by simp) (uAj (⟨sx rfl,⟨⟨_,rfl,by rw [e0]; exact tx ((uCk _ _).trans (by simp [Itm.text,hTag]))⟩,⟨sx rfl,sx rfl,sx rfl,trivial⟩⟩⟩) (⟨sx rfl,trivial⟩) (⟨rfl,trivial⟩)) ?_
    intro j hokj
    dsimp only [List.cons_append,List.nil_append]
    have hm1:=uEU hok j 0
    refine uAe (uAb ?_);refine uAa rfl rfl rfl (uAk rfl rfl gU gU rfl) ?_;refine uAf ?_;refine uAe ?_;refine uAm rfl (fun hc5=>?_) (fun hc5=>?_)
    ·try simp only [nn,uAh,T.rows_len,Gl.rows_len,Fs.rows_len,Sp.rows_len] at hc5
     have hlt : j < n.steps.length:=by omega
     obtain ⟨s1,s2,s3⟩:=hok.steps _ (uCG (d:=default) hlt)
     have s4:=uCs s1
     have s5:=uCs s2
     have s6:=s3.len
     refine uAq ?_;refine uAe ?_;refine uAx ?_;refine uAe (uAb ?_);refine uAa rfl rfl rfl (uAB rfl rfl gU gU rfl rfl rfl (fun hh=>Sp.rows_at (by first | omega | (simp at hh ⊢; omega)))) ?_;refine uAa rfl rfl rfl (uAR rfl gU rfl rfl rfl rfl) ?_;refine uAs rfl (uAI rfl rfl rfl) ?_;refine uAs rfl (uAt rfl rfl rfl rfl rfl rfl rfl) ?_;refine uAf ?_;refine awp_drawn' (by kernel_rfl) ?_;refine uDy rfl (.inl rfl) rfl rfl rfl rfl rfl ?_;refine uAi rfl rfl rfl rfl (uAg rfl gU rfl rfl) ?_;refine uAW rfl rfl rfl rfl rfl rfl rfl gU rfl rfl rfl rfl ?_;refine uAi rfl rfl rfl rfl (uAG rfl rfl gU gU (by first | omega | (simp only [List.length_append,List.length_cons,List.length_nil]; omega))) ?_;refine uAi rfl rfl rfl rfl (uAG rfl rfl gU gU (by first | omega | (simp only [List.length_append,List.length_cons,List.length_nil]; omega))) ?_;refine uAi rfl rfl rfl rfl (uAg rfl gU rfl rfl) ?_;refine uAW rfl rfl rfl rfl rfl rfl rfl gU rfl rfl rfl rfl ?_;refine uAi rfl rfl rfl rfl (uAG rfl rfl gU gU (by first | omega | (simp only [List.length_append,List.length_cons,List.length_nil]; omega))) ?_;refine uAi rfl rfl rfl rfl (uAG rfl rfl gU gU (by first | omega | (simp only [List.length_append,List.length_cons,List.length_nil]; omega))) ?_;refine uAi rfl rfl rfl rfl (uAg rfl gU rfl rfl) ?_;refine uBi rfl rfl rfl rfl rfl rfl rfl gU rfl rfl rfl rfl rfl ?_
     refine uBa rfl rfl rfl rfl rfl rfl rfl gU gU (uDz (n.steps.getD j default).msg (by have := s3.size; omega) s3.ok) rfl ?_;refine uAi rfl rfl rfl rfl (uAG rfl rfl gU gU (by first | omega | (simp only [List.length_append,List.length_cons,List.length_nil]; omega))) ?_;refine uAi rfl rfl rfl rfl (uAG rfl rfl gU gU (by first | omega | (simp only [List.length_append,List.length_cons,List.length_nil]; omega))) ?_;refine uCh (xs := [_]) rfl rfl rfl rfl rfl rfl rfl rfl rfl rfl gU rfl ?_;refine uBZ rfl rfl rfl rfl rfl (rko (ak2 rfl (ak rfl (ak rfl (ak rfl (ak rfl (ak rfl (ak rfl (ak rfl (ak rfl (ak rfl (ak rfl (ak rfl (ak rfl (ak rfl (rfl)))))))))))))))) rfl rfl rfl rfl rfl (by first | omega | (simp only [List.length_append,List.length_singleton,uAh]; omega)) (by first | omega | (simp only [List.length_append,List.length_singleton,uAh]; omega)) ?_;refine uDy rfl (.inr rfl) rfl rfl rfl rfl rfl ?_;refine uBe (by kernel_rfl) ?_;refine uAn (s := ⟨[(1,_,_),(5,_,_),(100,_,_),(101,_,_),(102,_,_)],[(.l 1,_)],[(.t 5,_)],[]⟩) (uAj (⟨sx rfl,sx rfl,sx rfl,sx rfl,sx rfl,trivial⟩) (⟨sx rfl,trivial⟩) (⟨rfl,trivial⟩)) ?_;refine uAb ?_;refine uAa rfl rfl rfl (uAu rfl rfl gU gU rfl (IntWalk.i64_in _ (by omega))) ?_;refine uAa rfl rfl rfl (uAc rfl gU) ?_;refine uAf ?_;refine ⟨j + 1,?_,?_,uAj (⟨⟨_,rfl,?_⟩,⟨⟨_,rfl,?_⟩,⟨sx rfl,sx rfl,sx rfl,trivial⟩⟩⟩) (⟨sx rfl,trivial⟩) (⟨rfl,trivial⟩)⟩
     all_goals first
      | rfl
      | omega
      | exact tx ((uCk _ _).trans (by rw [uHr n hlt]; simp [Itm.text,hMsg,arrow]))
    ·try simp only [nn,uAh,T.rows_len,Gl.rows_len,Fs.rows_len,Sp.rows_len] at hc5
     have hje : j=n.steps.length:=by omega
     subst hje
     refine uAP ?_
     repeat (first | refine uAH ?_ | refine uAF ?_ | refine uAD rfl ?_)
     refine uAe ?_;refine uAe (uAb ?_);refine uAa rfl rfl rfl (uAg rfl gU rfl rfl) ?_;refine uAa rfl rfl rfl (uAl rfl gU rfl rfl rfl rfl) ?_;refine uAU rfl rfl rfl rfl rfl gU rfl rfl ?_ (fun hh=>by simp at hh); intro hlen;refine uAa rfl rfl rfl (uAc rfl gU) ?_;refine uAf ?_;refine uAn (s:=⟨[(5,_,_),(124,_,_),(125,_,_),(126,_,_)],[],[(.t 5,_)],[]⟩) (uAj (⟨sx rfl,sx rfl,sx rfl,sx rfl,trivial⟩) trivial (⟨rfl,trivial⟩)) ?_;refine uAx ?_;refine uA6 (ι:=Nat) { t:=[(124,_,_),(125,_,_)],bx:=[],ow:=[(.t 5,_)] } (fun k=>[(126,true,xi (k : Int)),(5,true,xss (n.rest n.steps.length k))]) (fun k=>[]) (fun k=>k≤n.goals.length) (fun k=>n.goals.length - k) (0) (by simp) (uAj (⟨sx rfl,sx rfl,sx rfl,sx rfl,trivial⟩) trivial (⟨rfl,trivial⟩)) ?_
     intro k hokk2
     dsimp only [List.cons_append,List.nil_append]
     have hm2:=uEU hok n.steps.length k
     refine uAe (uAb ?_);refine uAa rfl rfl rfl (uAk rfl rfl gU gU rfl) ?_;refine uAf ?_;refine uAe ?_;refine uAm rfl (fun hc6=>?_) (fun hc6=>?_)
     ·try simp only [nn,uAh,T.rows_len,Gl.rows_len,Fs.rows_len,Sp.rows_len] at hc6
      have hlt : k < n.goals.length:=by omega
      have hgk:=hok.goals _ (uCG (d:=default) hlt)
      have g1:=uFj hgk
      have g2:=uGR (n.goals.getD k default)
      have g3 : (uGY (n.goals.getD k default)).length≤4600:=by
       rw [g2] at g1; simp only [List.length_append] at g1; omega
      refine uAq ?_;refine uAe ?_;refine uAx ?_;refine uAe (uAb ?_);refine uAa rfl rfl rfl (uAB rfl rfl gU gU rfl rfl rfl (fun hh=>Gl.rows_at (by first | omega | (simp at hh ⊢; omega)))) ?_;refine uAa rfl rfl rfl (uAR rfl gU rfl rfl rfl rfl) ?_;refine uAs rfl (uAI rfl rfl rfl) ?_;refine uAs rfl (uAt rfl rfl rfl rfl rfl rfl rfl) ?_;refine uAf ?_;refine uAb ?_;refine uAs rfl (uAK (.inl rfl) rfl rfl rfl) ?_;refine uAa rfl rfl rfl (uAp rfl gU rfl rfl rfl rfl rfl) ?_;refine uAw rfl rfl rfl rfl rfl rfl gU gU (uEr _ hgk) rfl ?_;refine uAa rfl rfl rfl (uAG rfl rfl gU gU (by first | omega | (simp only [List.length_append,List.length_cons,List.length_nil]; omega))) ?_;refine uAa rfl rfl rfl (uAG rfl rfl gU gU (by first | omega | (simp only [List.length_append,List.length_cons,List.length_nil]; omega))) ?_;refine uAM (xs:=[_]) rfl rfl rfl rfl rfl rfl rfl rfl rfl gU rfl ?_;refine uAs rfl (uA5 rfl rfl rfl rfl rfl rfl rfl (by first | omega | (simp only [List.length_append,List.length_singleton,uAh]; omega)) (by first | omega | (simp only [List.length_append,List.length_singleton,uAh]; omega))) ?_;refine uAs rfl (uAK (.inr rfl) rfl rfl rfl) ?_;refine uAf ?_;refine uAn (s:=⟨[(5,_,_),(124,_,_),(125,_,_),(126,_,_)],[],[(.t 5,_)],[]⟩) (uAj (⟨sx rfl,sx rfl,sx rfl,sx rfl,trivial⟩) trivial (⟨rfl,trivial⟩)) ?_
      refine uAb ?_;refine uAa rfl rfl rfl (uAu rfl rfl gU gU rfl (IntWalk.i64_in _ (by omega))) ?_;refine uAa rfl rfl rfl (uAc rfl gU) ?_;refine uAf ?_;refine ⟨k + 1,?_,?_,uAj (⟨⟨_,rfl,?_⟩,⟨⟨_,rfl,?_⟩,⟨sx rfl,sx rfl,trivial⟩⟩⟩) trivial (⟨rfl,trivial⟩)⟩
      all_goals first
       | rfl
       | omega
       | exact tx ((uCk _ _).trans (by rw [uHZ n hlt,g2]; simp [hGoal]))
     ·try simp only [nn,uAh,T.rows_len,Gl.rows_len,Fs.rows_len,Sp.rows_len] at hc6
      have hke : k=n.goals.length:=by omega
      subst hke
      have hj1:=uJm n
      have hj2 : (Lib.join n.lines [10]).length≤60000:=by
       have := hok.text_len
       simp only [Nar.text,List.length_append] at this; omega
      have hj3 : X.v (.c (.sl 1 (strR (n.rest n.steps.length n.goals.length)++[[C.s [125]]])))=xss n.lines:=by rw [← hj1]; exact uCk _ _
      have hjn : Ctr sys 40 [.v (.c (.sl 1 (strR (n.rest n.steps.length n.goals.length)++[[C.s [125]]]))),xs [10]] [] (xs (Lib.join n.lines [10])) none []:=by
       rw [hj3]; exact uDq n.lines [10] (by have := hok.lines_len; omega) (by decide) (by omega)
      refine uAP ?_
      repeat (first | refine uAH ?_ | refine uAF ?_ | refine uAD rfl ?_)
      refine uAe (uAb ?_);refine uAs rfl (uAK (.inl rfl) rfl rfl rfl) ?_;refine uAM (xs:=[_]) rfl rfl rfl rfl rfl rfl rfl rfl rfl gU rfl ?_;refine uAs rfl (uA5 rfl rfl rfl rfl rfl rfl rfl (by first | omega | (simp only [List.length_append,List.length_singleton,uAh]; omega)) (by first | omega | (simp only [List.length_append,List.length_singleton,uAh]; omega))) ?_;refine uAw rfl rfl rfl rfl rfl rfl gU gU (hjn) rfl ?_;refine uAa rfl rfl rfl (uAG rfl rfl gU gU (by first | omega | (simp only [List.length_append,List.length_cons,List.length_nil]; omega))) ?_;refine uAa rfl rfl rfl (uAd rfl gU) ?_;refine uAa rfl rfl rfl (uAd rfl gU) ?_;refine uAf ?_;refine uAo ?_
      repeat (first | refine tR ?_ | refine bR ?_)
      refine uAr rfl ?_ trivial
      rfl
   ·try simp only [nn,uAh,T.rows_len,Gl.rows_len,Fs.rows_len,Sp.rows_len] at hc4
    have htg : n.tags=[]:=List.length_eq_zero_iff.1 (by omega)
    have e0 : n.rest 0 0=n.lk n.fresh.length:=by simp [Nar.rest,htg]
    refine uAq ?_;refine uAe ?_;refine uAe (uAb ?_);refine uAa rfl rfl rfl (uAg rfl gU rfl rfl) ?_;refine uAa rfl rfl rfl (uAl rfl gU rfl rfl rfl rfl) ?_;refine uAU rfl rfl rfl rfl rfl gU rfl rfl ?_ (fun hh=>by simp at hh); intro hlen;refine uAa rfl rfl rfl (uAc rfl gU) ?_;refine uAf ?_;refine uAx ?_;refine uA6 (ι:=Nat) { t:=[(1,_,_),(100,_,_),(101,_,_)],bx:=[(.l 1,_)],ow:=[(.t 5,_)] } (fun j=>[(102,true,xi (j : Int)),(5,true,xss (n.rest j 0))]) (fun j=>[]) (fun j=>j≤n.steps.length) (fun j=>n.steps.length - j) (0) (by simp) (uAj (⟨sx rfl,⟨⟨_,rfl,by rw [e0]⟩,⟨sx rfl,sx rfl,sx rfl,trivial⟩⟩⟩) (⟨sx rfl,trivial⟩) (⟨rfl,trivial⟩)) ?_
    intro j hokj
    dsimp only [List.cons_append,List.nil_append]
    have hm1:=uEU hok j 0
    refine uAe (uAb ?_);refine uAa rfl rfl rfl (uAk rfl rfl gU gU rfl) ?_;refine uAf ?_;refine uAe ?_;refine uAm rfl (fun hc5=>?_) (fun hc5=>?_)
    ·try simp only [nn,uAh,T.rows_len,Gl.rows_len,Fs.rows_len,Sp.rows_len] at hc5
     have hlt : j < n.steps.length:=by omega
     obtain ⟨s1,s2,s3⟩:=hok.steps _ (uCG (d:=default) hlt)
     have s4:=uCs s1
     have s5:=uCs s2
     have s6:=s3.len
     refine uAq ?_;refine uAe ?_;refine uAx ?_;refine uAe (uAb ?_);refine uAa rfl rfl rfl (uAB rfl rfl gU gU rfl rfl rfl (fun hh=>Sp.rows_at (by first | omega | (simp at hh ⊢; omega)))) ?_;refine uAa rfl rfl rfl (uAR rfl gU rfl rfl rfl rfl) ?_;refine uAs rfl (uAI rfl rfl rfl) ?_;refine uAs rfl (uAt rfl rfl rfl rfl rfl rfl rfl) ?_;refine uAf ?_;refine awp_drawn' (by kernel_rfl) ?_;refine uDy rfl (.inl rfl) rfl rfl rfl rfl rfl ?_;refine uAi rfl rfl rfl rfl (uAg rfl gU rfl rfl) ?_;refine uAW rfl rfl rfl rfl rfl rfl rfl gU rfl rfl rfl rfl ?_;refine uAi rfl rfl rfl rfl (uAG rfl rfl gU gU (by first | omega | (simp only [List.length_append,List.length_cons,List.length_nil]; omega))) ?_;refine uAi rfl rfl rfl rfl (uAG rfl rfl gU gU (by first | omega | (simp only [List.length_append,List.length_cons,List.length_nil]; omega))) ?_;refine uAi rfl rfl rfl rfl (uAg rfl gU rfl rfl) ?_;refine uAW rfl rfl rfl rfl rfl rfl rfl gU rfl rfl rfl rfl ?_;refine uAi rfl rfl rfl rfl (uAG rfl rfl gU gU (by first | omega | (simp only [List.length_append,List.length_cons,List.length_nil]; omega))) ?_;refine uAi rfl rfl rfl rfl (uAG rfl rfl gU gU (by first | omega | (simp only [List.length_append,List.length_cons,List.length_nil]; omega))) ?_;refine uAi rfl rfl rfl rfl (uAg rfl gU rfl rfl) ?_;refine uBi rfl rfl rfl rfl rfl rfl rfl gU rfl rfl rfl rfl rfl ?_
     refine uBa rfl rfl rfl rfl rfl rfl rfl gU gU (uDz (n.steps.getD j default).msg (by have := s3.size; omega) s3.ok) rfl ?_;refine uAi rfl rfl rfl rfl (uAG rfl rfl gU gU (by first | omega | (simp only [List.length_append,List.length_cons,List.length_nil]; omega))) ?_;refine uAi rfl rfl rfl rfl (uAG rfl rfl gU gU (by first | omega | (simp only [List.length_append,List.length_cons,List.length_nil]; omega))) ?_;refine uCh (xs := [_]) rfl rfl rfl rfl rfl rfl rfl rfl rfl rfl gU rfl ?_;refine uBZ rfl rfl rfl rfl rfl (rko (ak2 rfl (ak rfl (ak rfl (ak rfl (ak rfl (ak rfl (ak rfl (ak rfl (ak rfl (ak rfl (ak rfl (ak rfl (ak rfl (ak rfl (rfl)))))))))))))))) rfl rfl rfl rfl rfl (by first | omega | (simp only [List.length_append,List.length_singleton,uAh]; omega)) (by first | omega | (simp only [List.length_append,List.length_singleton,uAh]; omega)) ?_;refine uDy rfl (.inr rfl) rfl rfl rfl rfl rfl ?_;refine uBe (by kernel_rfl) ?_;refine uAn (s := ⟨[(1,_,_),(5,_,_),(100,_,_),(101,_,_),(102,_,_)],[(.l 1,_)],[(.t 5,_)],[]⟩) (uAj (⟨sx rfl,sx rfl,sx rfl,sx rfl,sx rfl,trivial⟩) (⟨sx rfl,trivial⟩) (⟨rfl,trivial⟩)) ?_;refine uAb ?_;refine uAa rfl rfl rfl (uAu rfl rfl gU gU rfl (IntWalk.i64_in _ (by omega))) ?_;refine uAa rfl rfl rfl (uAc rfl gU) ?_;refine uAf ?_;refine ⟨j + 1,?_,?_,uAj (⟨⟨_,rfl,?_⟩,⟨⟨_,rfl,?_⟩,⟨sx rfl,sx rfl,sx rfl,trivial⟩⟩⟩) (⟨sx rfl,trivial⟩) (⟨rfl,trivial⟩)⟩
     all_goals first
      | rfl
      | omega
      | exact tx ((uCk _ _).trans (by rw [uHr n hlt]; simp [Itm.text,hMsg,arrow]))
    ·try simp only [nn,uAh,T.rows_len,Gl.rows_len,Fs.rows_len,Sp.rows_len] at hc5
     have hje : j=n.steps.length:=by omega
     subst hje
     refine uAP ?_
     repeat (first | refine uAH ?_ | refine uAF ?_ | refine uAD rfl ?_)
     refine uAe ?_;refine uAe (uAb ?_);refine uAa rfl rfl rfl (uAg rfl gU rfl rfl) ?_;refine uAa rfl rfl rfl (uAl rfl gU rfl rfl rfl rfl) ?_;refine uAU rfl rfl rfl rfl rfl gU rfl rfl ?_ (fun hh=>by simp at hh); intro hlen;refine uAa rfl rfl rfl (uAc rfl gU) ?_;refine uAf ?_;refine uAn (s:=⟨[(5,_,_),(124,_,_),(125,_,_),(126,_,_)],[],[(.t 5,_)],[]⟩) (uAj (⟨sx rfl,sx rfl,sx rfl,sx rfl,trivial⟩) trivial (⟨rfl,trivial⟩)) ?_;refine uAx ?_;refine uA6 (ι:=Nat) { t:=[(124,_,_),(125,_,_)],bx:=[],ow:=[(.t 5,_)] } (fun k=>[(126,true,xi (k : Int)),(5,true,xss (n.rest n.steps.length k))]) (fun k=>[]) (fun k=>k≤n.goals.length) (fun k=>n.goals.length - k) (0) (by simp) (uAj (⟨sx rfl,sx rfl,sx rfl,sx rfl,trivial⟩) trivial (⟨rfl,trivial⟩)) ?_
     intro k hokk2
     dsimp only [List.cons_append,List.nil_append]
     have hm2:=uEU hok n.steps.length k
     refine uAe (uAb ?_);refine uAa rfl rfl rfl (uAk rfl rfl gU gU rfl) ?_;refine uAf ?_;refine uAe ?_;refine uAm rfl (fun hc6=>?_) (fun hc6=>?_)
     ·try simp only [nn,uAh,T.rows_len,Gl.rows_len,Fs.rows_len,Sp.rows_len] at hc6
      have hlt : k < n.goals.length:=by omega
      have hgk:=hok.goals _ (uCG (d:=default) hlt)
      have g1:=uFj hgk
      have g2:=uGR (n.goals.getD k default)
      have g3 : (uGY (n.goals.getD k default)).length≤4600:=by
       rw [g2] at g1; simp only [List.length_append] at g1; omega
      refine uAq ?_;refine uAe ?_;refine uAx ?_;refine uAe (uAb ?_);refine uAa rfl rfl rfl (uAB rfl rfl gU gU rfl rfl rfl (fun hh=>Gl.rows_at (by first | omega | (simp at hh ⊢; omega)))) ?_;refine uAa rfl rfl rfl (uAR rfl gU rfl rfl rfl rfl) ?_;refine uAs rfl (uAI rfl rfl rfl) ?_;refine uAs rfl (uAt rfl rfl rfl rfl rfl rfl rfl) ?_;refine uAf ?_;refine uAb ?_;refine uAs rfl (uAK (.inl rfl) rfl rfl rfl) ?_;refine uAa rfl rfl rfl (uAp rfl gU rfl rfl rfl rfl rfl) ?_;refine uAw rfl rfl rfl rfl rfl rfl gU gU (uEr _ hgk) rfl ?_;refine uAa rfl rfl rfl (uAG rfl rfl gU gU (by first | omega | (simp only [List.length_append,List.length_cons,List.length_nil]; omega))) ?_;refine uAa rfl rfl rfl (uAG rfl rfl gU gU (by first | omega | (simp only [List.length_append,List.length_cons,List.length_nil]; omega))) ?_;refine uAM (xs:=[_]) rfl rfl rfl rfl rfl rfl rfl rfl rfl gU rfl ?_;refine uAs rfl (uA5 rfl rfl rfl rfl rfl rfl rfl (by first | omega | (simp only [List.length_append,List.length_singleton,uAh]; omega)) (by first | omega | (simp only [List.length_append,List.length_singleton,uAh]; omega))) ?_;refine uAs rfl (uAK (.inr rfl) rfl rfl rfl) ?_;refine uAf ?_;refine uAn (s:=⟨[(5,_,_),(124,_,_),(125,_,_),(126,_,_)],[],[(.t 5,_)],[]⟩) (uAj (⟨sx rfl,sx rfl,sx rfl,sx rfl,trivial⟩) trivial (⟨rfl,trivial⟩)) ?_
      refine uAb ?_;refine uAa rfl rfl rfl (uAu rfl rfl gU gU rfl (IntWalk.i64_in _ (by omega))) ?_;refine uAa rfl rfl rfl (uAc rfl gU) ?_;refine uAf ?_;refine ⟨k + 1,?_,?_,uAj (⟨⟨_,rfl,?_⟩,⟨⟨_,rfl,?_⟩,⟨sx rfl,sx rfl,trivial⟩⟩⟩) trivial (⟨rfl,trivial⟩)⟩
      all_goals first
       | rfl
       | omega
       | exact tx ((uCk _ _).trans (by rw [uHZ n hlt,g2]; simp [hGoal]))
     ·try simp only [nn,uAh,T.rows_len,Gl.rows_len,Fs.rows_len,Sp.rows_len] at hc6
      have hke : k=n.goals.length:=by omega
      subst hke
      have hj1:=uJm n
      have hj2 : (Lib.join n.lines [10]).length≤60000:=by
       have := hok.text_len
       simp only [Nar.text,List.length_append] at this; omega
      have hj3 : X.v (.c (.sl 1 (strR (n.rest n.steps.length n.goals.length)++[[C.s [125]]])))=xss n.lines:=by rw [← hj1]; exact uCk _ _
      have hjn : Ctr sys 40 [.v (.c (.sl 1 (strR (n.rest n.steps.length n.goals.length)++[[C.s [125]]]))),xs [10]] [] (xs (Lib.join n.lines [10])) none []:=by
       rw [hj3]; exact uDq n.lines [10] (by have := hok.lines_len; omega) (by decide) (by omega)
      refine uAP ?_
      repeat (first | refine uAH ?_ | refine uAF ?_ | refine uAD rfl ?_)
      refine uAe (uAb ?_);refine uAs rfl (uAK (.inl rfl) rfl rfl rfl) ?_;refine uAM (xs:=[_]) rfl rfl rfl rfl rfl rfl rfl rfl rfl gU rfl ?_;refine uAs rfl (uA5 rfl rfl rfl rfl rfl rfl rfl (by first | omega | (simp only [List.length_append,List.length_singleton,uAh]; omega)) (by first | omega | (simp only [List.length_append,List.length_singleton,uAh]; omega))) ?_;refine uAw rfl rfl rfl rfl rfl rfl gU gU (hjn) rfl ?_;refine uAa rfl rfl rfl (uAG rfl rfl gU gU (by first | omega | (simp only [List.length_append,List.length_cons,List.length_nil]; omega))) ?_;refine uAa rfl rfl rfl (uAd rfl gU) ?_;refine uAa rfl rfl rfl (uAd rfl gU) ?_;refine uAf ?_;refine uAo ?_
      repeat (first | refine tR ?_ | refine bR ?_)
      refine uAr rfl ?_ trivial
      rfl
end Go.Proofs.YtnjjdbapadkomaaGreatDoor
namespace Go.Proofs.YtnjjdbapadkomaaGreatDoor
open Go Go.Abs
theorem uJc (s : List UInt8) : Ctr sys 53 [xs s] [] (xb (uAL s)) none []:=by rw [← uN2 s]; exact uKo s
theorem uLr : ∀ (n : Nat) (t : T),t.size≤n→n≤2000000→Ctr sys 122 [xm t] [] (xi (rawE uAL t)) none []:=by
 intro n
 induction n with
 | zero=>intro t h; have := t.size_pos; omega
 | succ n ih =>
  intro t ht hn
  have hse:=t.size_eq
  have hrl:=T.rows_len t.kids
  have hls:=T.len_sizes t.kids
  have he:=uKI uAL t
  rw [uEz] at he
  refine uAA Tryz.func122 rfl rfl rfl rfl rfl rfl ?_;refine uAe (uAb ?_);refine uAs rfl (uAY rfl rfl rfl rfl) ?_;refine uAa rfl rfl rfl (uAd rfl gU) ?_;refine uAf ?_;refine uAe ?_;refine uAe (uAb ?_);refine uAa rfl rfl rfl (uAg rfl gU rfl rfl) ?_;refine uAa rfl rfl rfl (uAl rfl gU rfl rfl rfl rfl) ?_;refine uAa rfl rfl rfl (uAk rfl rfl gU gU rfl) ?_;refine uAa rfl rfl rfl (uAc rfl gU) ?_;refine uAa rfl rfl rfl (uAg rfl gU rfl rfl) ?_;refine uAa rfl rfl rfl (uAl rfl (fun hh=>hh) rfl rfl rfl rfl) ?_;refine uAa rfl rfl rfl (uAk rfl rfl (fun hh=>hh) gU rfl) ?_;refine uAa rfl rfl rfl (uAJ rfl rfl gU (fun _ hi=>gP rfl hi)) ?_;refine uAf ?_;refine uAn (s:=⟨[(1,_,_),(12,_,_)],[(.l 1,_)],[],[]⟩) (uAj (⟨sx rfl,sx rfl,trivial⟩) (⟨sx rfl,trivial⟩) trivial) ?_;refine uAm rfl (fun hc=>?_) (fun hc=>?_)
  ·try simp only [nn,uAh,T.rows_len,Fs.rows_len,Sp.rows_len,Gl.rows_len] at hc
   refine uAe (uAb ?_);refine uAa rfl rfl rfl (uAd rfl gU) ?_;refine uAf ?_;refine uAo ?_
   repeat (first | refine tR ?_ | refine bR ?_)
   refine uAr rfl ?_ trivial
   (rw [he,if_pos (by grind)]; rfl)
  ·try simp only [nn,uAh,T.rows_len,Fs.rows_len,Sp.rows_len,Gl.rows_len] at hc
   rw [if_neg (by grind)] at he
   refine uAq ?_;refine uAe ?_;refine uAe (uAb ?_);refine uAa rfl rfl rfl (uAg rfl gU rfl rfl) ?_;refine uAa rfl rfl rfl (uAl rfl gU rfl rfl rfl rfl) ?_;refine uAw rfl rfl rfl rfl rfl rfl gU gU (uJc _) rfl ?_;refine uAa rfl rfl rfl (uA0 rfl gU) ?_;refine uAf ?_;refine uAm rfl (fun hc2=>?_) (fun hc2=>?_)
   ·try simp only [nn,uAh,T.rows_len,Fs.rows_len,Sp.rows_len,Gl.rows_len] at hc2
    refine uAe (uAb ?_);refine uAa rfl rfl rfl (uAd rfl gU) ?_;refine uAf ?_;refine uAo ?_
    repeat (first | refine tR ?_ | refine bR ?_)
    refine uAr rfl ?_ trivial
    (rw [he,if_pos hc2]; rfl)
   ·try simp only [nn,uAh,T.rows_len,Fs.rows_len,Sp.rows_len,Gl.rows_len] at hc2
    rw [if_neg (by rw [hc2]; simp)] at he
    refine uAq ?_;refine uAe ?_;refine uAe (uAb ?_);refine uAa rfl rfl rfl (uAd rfl gU) ?_;refine uAf ?_;refine uAn (s:=⟨[(1,_,_),(3,_,_)],[(.l 1,_)],[],[]⟩) (uAj (⟨sx rfl,sx rfl,trivial⟩) (⟨sx rfl,trivial⟩) trivial) ?_;refine uAx ?_;refine uA6 (ι:=Nat) { t:=[(1,_,_)],bx:=[(.l 1,_)],ow:=[] } (fun k=>[(3,true,xi (k : Int))]) (fun k=>[]) (fun k=>k≤t.kids.length∧errs (rawE uAL) (t.kids.drop k)=rawE uAL t) (fun k=>t.kids.length - k) (0) (⟨by simp,by rw [he]; rfl⟩) (uAj (⟨sx rfl,sx rfl,trivial⟩) (⟨sx rfl,trivial⟩) trivial) ?_
    intro k hok
    dsimp only [List.cons_append,List.nil_append]
    obtain ⟨hk,hi⟩:=hok
    refine uAe ?_;refine uAe (uAb ?_);refine uAa rfl rfl rfl (uAc rfl gU) ?_;refine uAa rfl rfl rfl (uAg rfl gU rfl rfl) ?_;refine uAa rfl rfl rfl (uAl rfl gU rfl rfl rfl rfl) ?_;refine uAU rfl rfl rfl rfl rfl gU rfl rfl ?_ (fun hh=>by simp at hh); intro hlen;refine uAa rfl rfl rfl (uAk rfl rfl gU gU rfl) ?_;refine uAf ?_;refine uAn (s:=⟨[(1,_,_),(3,_,_),(21,_,_)],[(.l 1,_)],[],[]⟩) (uAj (⟨sx rfl,sx rfl,sx rfl,trivial⟩) (⟨sx rfl,trivial⟩) trivial) ?_;refine uAm rfl (fun hc3=>?_) (fun hc3=>?_)
    ·try simp only [nn,uAh,T.rows_len,Fs.rows_len,Sp.rows_len,Gl.rows_len] at hc3
     have hlt : k < t.kids.length:=by omega
     have h2:=T.getD_size hlt
     have hd:=uC4 (d:=default) hlt hi
     refine uAq ?_;refine uAe ?_;refine uAx ?_;refine uAe (uAb ?_);refine uAa rfl rfl rfl (uAg rfl gU rfl rfl) ?_;refine uAa rfl rfl rfl (uAl rfl gU rfl rfl rfl rfl) ?_;refine uAa rfl rfl rfl (uAc rfl gU) ?_;refine uAa rfl rfl rfl (uAB rfl rfl gU gU rfl rfl rfl (fun hh=>T.rows_at (by first | omega | (simp at hh ⊢; omega)))) ?_;refine uAa rfl rfl rfl (uAR rfl gU rfl rfl rfl rfl) ?_;refine uAw rfl rfl rfl rfl rfl rfl gU gU (ih (t.kids.getD k default) (by omega) (by omega)) rfl ?_;refine uAa rfl rfl rfl (uAd rfl gU) ?_;refine uAf ?_;refine uAn (s:=⟨[(1,_,_),(3,_,_),(4,_,_)],[(.l 1,_)],[],[]⟩) (uAj (⟨sx rfl,sx rfl,sx rfl,trivial⟩) (⟨sx rfl,trivial⟩) trivial) ?_;refine uAe (uAb ?_);refine uAa rfl rfl rfl (uAc rfl gU) ?_;refine uAa rfl rfl rfl (uAk rfl rfl gU gU rfl) ?_;refine uAf ?_;refine uAm rfl (fun hc1=>?_) (fun hc1=>?_)
     ·try simp only [nn,uAh,T.rows_len,Fs.rows_len,Sp.rows_len,Gl.rows_len] at hc1
      refine uAe (uAb ?_);refine uAa rfl rfl rfl (uAc rfl gU) ?_;refine uAa rfl rfl rfl (uAd rfl gU) ?_;refine uAf ?_;refine uAo ?_
      repeat (first | refine tR ?_ | refine bR ?_)
      refine uAr rfl ?_ trivial;exact uBg (hd.1 (by assumption)).symm
     ·try simp only [nn,uAh,T.rows_len,Fs.rows_len,Sp.rows_len,Gl.rows_len] at hc1
      refine uAq ?_;refine uAb ?_;refine uAa rfl rfl rfl (uAc rfl gU) ?_;refine uAa rfl rfl rfl (uAu rfl rfl gU gU rfl (IntWalk.i64_in _ (by omega))) ?_;refine uAa rfl rfl rfl (uAd rfl gU) ?_;refine uAf ?_;refine ⟨k + 1,?_,?_,uAj (⟨⟨_,rfl,?_⟩,⟨sx rfl,trivial⟩⟩) (⟨sx rfl,trivial⟩) trivial⟩
      all_goals (first | rfl | omega | exact ⟨by omega,hd.2 (by assumption)⟩)
    ·try simp only [nn,uAh,T.rows_len,Fs.rows_len,Sp.rows_len,Gl.rows_len] at hc3
     refine uAP ?_
     repeat (first | refine uAH ?_ | refine uAF ?_ | refine uAD rfl ?_)
     refine uAe (uAb ?_);refine uAa rfl rfl rfl (uAd rfl gU) ?_;refine uAf ?_;refine uAo ?_
     repeat (first | refine tR ?_ | refine bR ?_)
     refine uAr rfl ?_ trivial;exact uBg (uDr (by omega) hi).symm
theorem uLR (t : T) (ht : t.size≤900000) : Ctr sys 70 [xm t] [] (xi (uCI uAL t)) none []:=by
 refine uAA Tryz.func70 rfl rfl rfl rfl rfl rfl ?_;refine uAe (uAb ?_);refine uAs rfl (uAY rfl rfl rfl rfl) ?_;refine uAa rfl rfl rfl (uAd rfl gU) ?_;refine uAf ?_;refine uAe ?_;refine uAe (uAb ?_);refine uAa rfl rfl rfl (uAp rfl gU rfl rfl rfl rfl rfl) ?_;refine uAw rfl rfl rfl rfl rfl rfl gU gU (uJ7 _ (by omega)) rfl ?_;refine uAa rfl rfl rfl (uAd rfl gU) ?_;refine uAf ?_;refine uAn (s:=⟨[(1,_,_),(3,_,_)],[(.l 1,_)],[],[]⟩) (uAj (⟨sx rfl,sx rfl,trivial⟩) (⟨sx rfl,trivial⟩) trivial) ?_;refine uAe (uAb ?_);refine uAa rfl rfl rfl (uAc rfl gU) ?_;refine uAa rfl rfl rfl (uAk rfl rfl gU gU rfl) ?_;refine uAf ?_;refine uAm rfl (fun hc=>?_) (fun hc=>?_)
 ·try simp only [nn,uAh,T.rows_len,Fs.rows_len,Sp.rows_len,Gl.rows_len] at hc
  refine uAe (uAb ?_);refine uAa rfl rfl rfl (uAc rfl gU) ?_;refine uAa rfl rfl rfl (uAd rfl gU) ?_;refine uAf ?_;refine uAo ?_
  repeat (first | refine tR ?_ | refine bR ?_)
  refine uAr rfl ?_ trivial
  (rw [uCI,if_pos hc]; rfl)
 ·try simp only [nn,uAh,T.rows_len,Fs.rows_len,Sp.rows_len,Gl.rows_len] at hc
  refine uAq ?_;refine uAe (uAb ?_);refine uAa rfl rfl rfl (uAp rfl gU rfl rfl rfl rfl rfl) ?_;refine uAw rfl rfl rfl rfl rfl rfl gU gU (uLr _ _ (Nat.le_refl _) (by omega)) rfl ?_;refine uAa rfl rfl rfl (uAd rfl gU) ?_;refine uAf ?_;refine uAo ?_
  repeat (first | refine tR ?_ | refine bR ?_)
  refine uAr rfl ?_ trivial
  (rw [uCI,if_neg (by simpa using hc)]; rfl)
end Go.Proofs.YtnjjdbapadkomaaGreatDoor
namespace Go.Proofs.YtnjjdbapadkomaaGreatDoor
open Go Go.Abs
end Go.Proofs.YtnjjdbapadkomaaGreatDoor
namespace Go.Proofs.YtnjjdbapadkomaaGreatDoor
open Go Go.Abs
end Go.Proofs.YtnjjdbapadkomaaGreatDoor
