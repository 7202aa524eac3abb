/- Our abstract program logic and contracts of this seat's functions, part 2: no statement of its own (long names of ours are shortened by a program). -/
import Derived.Test.YteidahabkfgfjaaGreatM1
import Derived.Laws.Tables
import Derived.Laws.Small
import Derived.DataReads
import Derived.MapFrom
import Derived.Handed
import Derived.Carry
import Derived.Below
import Derived.Laws.Externs
import Derived.Lib.Bytealg
import Derived.Deep.AppendSrc
import Derived.Lib.UnsafeStr
import Derived.Laws.StructEq
import Derived.Laws.MakeOwn
import Derived.Laws.IdiomStrings
import Derived.RangeFuncBox
import Derived.MapKept
import Derived.WideLaws
import Derived.Test.YteidahabkfgfjaaGreatProg
import Derived.KernelRfl
import Derived.Lib.ItoaNum
set_option linter.unusedVariables false
set_option linter.unusedSimpArgs false
namespace Go.Abs
variable {Z : Pg}
structure Pass where
 n : Nm
 off : Nat
 cs : List C
 ds : List C
def Pass.old (p : Pass) : List C:=(p.cs.drop p.off).take p.ds.length
def St.stores (st : St) : List Pass→St
 | []=>st
 | p :: r=>(st.store p.n (I4 p.cs p.off p.ds) p.off p.ds.length).stores r
def M9 (st : St) : List Pass→Bool
 | []=>true
 | p :: r=>(Nat.ble (p.off + p.ds.length) p.cs.length && !p.n.isBd) && (r.all fun q=>!Nm.beq p.n q.n) && M9 st r
def Y.tr (ps : List Pass) : Y→Y
 | .ptr (.o j) k=>match ps[j]? with
  | some p=>.ptr p.n (p.off + k)
  | none=>.ptr (.o j) k
 | y=>y
def X.tr (ps : List Pass) : X→X
 | .v z=>.v (z.tr ps)
 | .fn f ys=>.fn f (ys.map (Y.tr ps))
 | x=>x
def Y.trOk (ps : List Pass) : Y→Bool
 | .ptr (.o j) _=>(ps[j]?).isSome
 | .ptr (.l _) _=>false
 | .ptr (.bd _ _) _=>false
 | .ms _ _ _ _=>false
 | .msv _ _ _ _ _=>false
 | _=>true
def X.trOk (ps : List Pass) : X→Bool
 | .v z=>z.trOk ps
 | .fn _ ys=>ys.all (·.trOk ps)
 | x=>x.clean
theorem Ac : ∀ (ps : List Pass) (st : St) (k : Nat),(st.stores ps).get k=st.get k
 | [],_,_=>rfl
 | p :: r,st,k=>by rw[St.stores,Ac r]; rfl
theorem Ep : ∀ (ps : List Pass) (st : St),(st.stores ps).mp=st.mp
 | [],_=>rfl
 | p :: r,st=>by rw[St.stores,Ep r]; rfl
theorem L8 : ∀ (ps : List Pass) (st : St) (m : Nm),(∀ p ∈ ps,p.n≠m)→(st.stores ps).box m=st.box m
 | [],_,_,_=>rfl
 | p :: r,st,m,h=>by
  rw[St.stores,L8 r _ m fun q hq=>h q (by simp [hq]),St.store_box,if_neg (h p (by simp))]
theorem Dc : ∀ (ps : List Pass) (st : St) (p : Pass),M9 st ps=true→p ∈ ps→(st.stores ps).box p.n=some (I4 p.cs p.off p.ds)
 | [],_,_,_,h=>by simp at h
 | q :: r,st,p,hb,h=>by
  simp only [M9,Bool.and_eq_true] at hb
  rw[St.stores]
  rcases List.mem_cons.1 h with rfl | h
  ·rw[L8 r _ p.n fun q hq e=>by
    have := List.all_eq_true.1 hb.1.2 q hq
    rw[e] at this; simp [Nm.beq_self] at this]
   rw[St.store_box,if_pos J]
  ·have hb2 : M9 (st.store q.n (I4 q.cs q.off q.ds) q.off q.ds.length) r=true:=by
    have : ∀ (l : List Pass) (s s' : St),M9 s l=M9 s' l:=by
     intro l; induction l with
     | nil=>intro _ _; rfl
     | cons x l ih=>intro s s'; simp only [M9,ih s s']
    rw[this r _ st]; exact hb.2
   exact Dc r _ p hb2 h
theorem Dg : ∀ (ps : List Pass) (st : St) (q : Pl) (sz : Nat),(st.stores ps).own q=some sz→st.own q=some sz ∧ ∀ p ∈ ps,Pl.inCells p.n p.off p.ds.length q=false
 | [],_,_,_,h=>⟨h,fun p hp=>by simp at hp⟩
 | p :: r,st,q,sz,h=>by
  rw[St.stores] at h
  obtain ⟨h1,h2⟩:=Dg r _ q sz h
  rw[St.store_own] at h1
  split at h1
  ·simp at h1
  ·rename_i hin
   refine ⟨h1,fun x hx=>?_⟩
   rcases List.mem_cons.1 hx with rfl | hx
   ·simpa using hin
   ·exact h2 x hx
theorem U0 : ∀ {ps : List Pass} {st : St},M9 st ps=true → ∀ (i j : Nat) (p q : Pass),ps[i]? = some p→ps[j]? = some q→p.n=q.n→i=j
 | [],_,_,i,_,p,_,h,_,_=>by simp at h
 | x :: r,st,hb,i,j,p,q,hi,hj,he=>by
  simp only [M9,Bool.and_eq_true] at hb
  have hne : ∀ y ∈ r,x.n≠y.n:=fun y hy e=>by
   have := List.all_eq_true.1 hb.1.2 y hy
   rw[e] at this; simp [Nm.beq_self] at this
  cases i with
  | zero =>
   simp at hi; subst hi
   cases j with
   | zero=>rfl
   | succ j=>exact absurd he (hne q (List.mem_of_getElem? (by simpa using hj)))
  | succ i =>
   cases j with
   | zero =>
    simp at hj; subst hj
    exact absurd he.symm (hne p (List.mem_of_getElem? (by simpa using hi)))
   | succ j =>
    have := U0 hb.2 i j p q (by simpa using hi) (by simpa using hj) he
    omega
theorem Bz : ∀ {ps : List Pass} {st : St},M9 st ps=true → ∀ p ∈ ps,p.off + p.ds.length≤p.cs.length
 | [],_,_,p,h=>by simp at h
 | x :: r,st,hb,p,h=>by
  simp only [M9,Bool.and_eq_true] at hb
  rcases List.mem_cons.1 h with rfl | h
  ·exact Nat.le_of_ble_eq_true hb.1.1.1
  ·exact Bz hb.2 p h
theorem Az : ∀ {ps : List Pass} {st : St},M9 st ps=true → ∀ p ∈ ps,p.n.isBd=false
 | [],_,_,p,h=>by simp at h
 | x :: r,st,hb,p,h=>by
  simp only [M9,Bool.and_eq_true,Bool.not_eq_true'] at hb
  rcases List.mem_cons.1 h with rfl | h
  ·exact hb.1.1.2
  ·exact Az hb.2 p h
theorem S0 (cs : List C) : ∀ (ds : List C) (off : Nat) (j : Nat),off + ds.length≤cs.length→(I4 cs off ds)[j]? = if off≤j∧j < off + ds.length then ds[j - off]? else cs[j]? := by
 intro ds
 induction ds generalizing cs with
 | nil=>intro off j _; rw[if_neg (by simp only [List.length_nil]; omega)]; rfl
 | cons d ds ih =>
  intro off j h
  simp only [List.length_cons] at h
  rw[I4,ih (cs.set off d) (off + 1) j (by simp; omega)]
  by_cases hj : off + 1≤j∧j < off + 1 + ds.length
  ·rw[if_pos hj,if_pos (by simp only [List.length_cons]; omega),show j - off=(j - (off + 1)) + 1 by omega]; simp
  ·rw[if_neg hj]
   by_cases he : j=off
   ·subst he
    rw[if_pos (by simp only [List.length_cons]; omega),List.getElem?_set_self (by omega)]; simp
   ·rw[if_neg (by simp only [List.length_cons]; omega),List.getElem?_set_ne (fun e=>he e.symm)]
theorem Rel.after {E : Env} {G G2 : Gh} {st st2 : St} {a : Act} {w w' : World} {M : Nat→Nat→Prop} (h : Rel E G st a w) (hf : Fr M w.heap.size w w') (hW : ∀ b o,b < w.heap.size→G2.W b o=G.W b o) (hA : G2.A=G.A)
  (hwf : ∀ b o,G2.W b o ≠ .none→b < w'.heap.size) (ht : ∀ k e,st2.get k=some e→st.get k=some e) (hM : ∀ b o,M b o → ∃ n,G.W b o = .box n) (hb : ∀ n cs,st2.box n=some cs→R8 w' G2 n cs)
  (ho : ∀ p sz,st2.own p=some sz→st.own p=some sz ∧ ∀ n off,p = .b n off → ¬ M (G.A n).1 ((G.A n).2 + off))
  (hbd : ∀ t k cs,st2.box (.bd t k)=some cs→cs≠[]→(G2.A (.bd t k)).2=0∧w'.shape? (G2.A (.bd t k)).1=some (t / 4096,2) ∧ ∃ x,w'.cell? ⟨(G2.A (.bd t k)).1,0,none⟩=some (.pointer x)∧(x=none∨x=some ⟨(G2.A (.bd t k)).1,0,none⟩)) (hmp : st2.mp=st.mp) : Rel E G2 st2 a w':=by
 have hB : E.B≤w.heap.size:=Nat.le_trans h.hB h.fr.size
 have hS : ∀ b o,G.S b o→G2.S b o:=fun b o hs=>by
  unfold Gh.S at *
  rw[hW b o (h.wf b o (by rw[hs]; simp))]
  exact hs
 have hnM : ∀ b o,(∀ n,G.W b o ≠ .box n) → ¬ M b o:=fun b o hn hm=>by
  obtain ⟨n,hn'⟩:=hM b o hm; exact hn n hn'
 have hcS : ∀ b o,G.S b o→w'.cell? ⟨b,o,none⟩=w.cell? ⟨b,o,none⟩:=fun b o hs=>by
  unfold Gh.S at hs
  exact hf.cell b o (h.wf b o (by rw[hs]; simp)) (hnM b o fun n=>by rw[hs]; simp)
 constructor
 ·exact h.df
 ·intro k g x hk
  obtain ⟨v,hv,h1,h2⟩:=h.tm k g x (ht k _ hk)
  exact ⟨v,hv,fun hg=>(h1 hg).mono hS hcS (fun _ _=>by rw[hA]),h2⟩
 ·exact hb
 ·intro p sz hp
  obtain ⟨hp1,hp2⟩:=ho p sz hp
  obtain ⟨v,hv,hov⟩:=h.ow p sz hp1
  refine ⟨v,?_,?_⟩
  ·cases p with
   | t k=>exact hv
   | b n off =>
    have hlt:=ValAt.lt h hp1 J
    show w'.cell? _=_∧G2.W _ _=_
    rw[hA,hf.cell _ _ hlt (hp2 n off J),hW _ _ hlt]
    exact hv
  ·rcases hov with hov | ⟨blk,len,cap,e,h1,h2,h3,h4⟩
   ·exact .inl hov
   ·by_cases hz : len * sz < cap * sz
    ·have hlt:=h.wf blk (len * sz) (by rw[(h4 _ (Nat.le_refl _) hz).1]; simp)
     exact .inr ⟨blk,len,cap,e,h1,h2,⟨by rw[hf.shape blk hlt]; exact h3.1,by rw[hf.mark blk hlt]; exact h3.2⟩,fun o ho1 ho2=>by
      rw[hW blk o hlt,hf.frozen blk o hlt]; exact h4 o ho1 ho2⟩
    ·have hlt : blk < w.heap.size:=by
      rcases Nat.lt_or_ge blk w.heap.size with hx | hx
      ·exact hx
      ·have h3:=h3.1; simp [World.shape?,Array.getElem?_eq_none hx] at h3
     exact .inr ⟨blk,len,cap,e,h1,h2,⟨by rw[hf.shape blk hlt]; exact h3.1,by rw[hf.mark blk hlt]; exact h3.2⟩,fun o ho1 ho2=>by omega⟩
 ·exact hwf
 ·intro b o n hb' hn
  rw[hW b o (by omega)] at hn
  exact h.olB b o n hb' hn
 ·intro b o p hb' hn
  rw[hW b o (by omega)] at hn
  exact h.olO b o p hb' hn
 ·exact h.nt
 ·exact fun j=>by rw[hA]; exact h.oA j
 ·intro b o hi
  exact hS b o (h.im b o hi)
 ·intro b o hb' hi
  rw[hW b o (by omega)] at hi
  exact h.im' b o hb' hi
 ·refine h.fr.trans (hf.mono hB fun b o hb' hm=>?_)
  obtain ⟨n,hn⟩:=hM b o hm
  exact h.olB b o n hb' hn
 ·exact h.hB
 ·intro b o hb'
  rw[hW b o (by omega)]
  exact h.lo b o hb'
 ·exact hbd
 ·intro x hx
  rw[hmp] at hx
  obtain ⟨q1,q2,q3⟩:=h.mp x hx
  have hlt:=q1.lt
  exact ⟨q1.of_same (hf.block _ hlt fun o hm=>by obtain ⟨n,hn⟩:=hM _ o hm; exact (q3 o).1 n hn),q2,fun o=>by rw[hW _ o hlt]; exact q3 o⟩
def Gh.passed (G : Gh) (ps : List Pass) : Gh where
 W:=fun b o=>match G.W b o with
  | .imm=>.imm
  | .box n=>(match (List.range ps.length).find? fun j=>(match ps[j]? with
    | some p=>Nm.beq p.n n && (Nat.beq b (G.A n).1 && (Nat.ble ((G.A n).2 + p.off) o && Nat.ble (o + 1) ((G.A n).2 + p.off + p.ds.length)))
    | none=>false) with
   | some j=>.box (.o j)
   | none=>.none)
  | _=>.none
 A:=fun n=>match n with
  | .o j=>(match ps[j]? with
   | some p=>((G.A p.n).1,(G.A p.n).2 + p.off)
   | none=>(0,0))
  | .l k=>G.A (.l k)
  | .bd t k=>G.A (.bd t k)
theorem Gh.passed_imm (G : Gh) (ps : List Pass) (b o : Nat) : (G.passed ps).W b o = .imm ↔ G.W b o = .imm:=by
 unfold Gh.passed
 dsimp only
 cases hw : G.W b o with
 | imm=>simp
 | none=>simp
 | own p=>simp
 | box n=>dsimp only; split <;> simp
theorem Gh.passed_own (G : Gh) (ps : List Pass) (b o : Nat) (p : Pl) : (G.passed ps).W b o ≠ .own p:=by
 unfold Gh.passed
 dsimp only
 cases hw : G.W b o with
 | imm=>simp
 | none=>simp
 | own p=>simp
 | box n=>dsimp only; split <;> simp
theorem Gh.passed_box {G : Gh} {ps : List Pass} {b o : Nat} {m : Nm} (h : (G.passed ps).W b o = .box m) : ∃ (j : Nat) (p : Pass),m = .o j∧ps[j]? = some p∧G.W b o = .box p.n∧b=(G.A p.n).1∧(G.A p.n).2 + p.off≤o∧o < (G.A p.n).2 + p.off + p.ds.length:=by
 unfold Gh.passed at h
 dsimp only at h
 cases hw : G.W b o with
 | imm=>rw[hw] at h; simp at h
 | none=>rw[hw] at h; simp at h
 | own p=>rw[hw] at h; simp at h
 | box n =>
  rw[hw] at h
  dsimp only at h
  split at h
  ·rename_i j hj
   have := List.find?_some hj
   cases hp : ps[j]? with
   | none=>rw[hp] at this; simp at this
   | some p =>
    rw[hp] at this
    simp only [Bool.and_eq_true] at this
    obtain ⟨h1,h2,h3,h4⟩:=this
    rw[Nm.beq_iff] at h1
    subst h1
    simp only [Who.box.injEq] at h
    exact ⟨j,p,h.symm,hp,rfl,Nat.eq_of_beq_eq_true h2,Nat.le_of_ble_eq_true h3,Nat.le_of_ble_eq_true h4⟩
  ·simp at h
theorem Gh.passed_at {G : Gh} {ps : List Pass} {st : St} (hnd : M9 st ps=true) {j : Nat} {p : Pass} (hj : ps[j]? = some p) {k : Nat} (hk : k < p.ds.length) (hw : G.W (G.A p.n).1 ((G.A p.n).2 + p.off + k) = .box p.n) :
  (G.passed ps).W (G.A p.n).1 ((G.A p.n).2 + p.off + k) = .box (.o j):=by
 unfold Gh.passed
 dsimp only
 rw[hw]
 dsimp only
 split
 ·rename_i i hi
  have := List.find?_some hi
  cases hp : ps[i]? with
  | none=>rw[hp] at this; simp at this
  | some q =>
   rw[hp] at this
   simp only [Bool.and_eq_true,Nm.beq_iff] at this
   rw[U0 hnd i j q p hp hj this.1]
 ·rename_i hnone
  exfalso
  rw[List.find?_eq_none] at hnone
  have hjl : j < ps.length:=(List.getElem?_eq_some_iff.1 hj).1
  have := hnone j (List.mem_range.2 hjl)
  rw[hj] at this
  apply this
  simp only [Bool.and_eq_true]
  exact ⟨Nm.beq_self _,by simp,Nat.ble_eq_true_of_le (by omega),Nat.ble_eq_true_of_le (by omega)⟩
theorem All2.map_left {α β γ : Type} {R : β→γ→Prop} {f : α→β} : ∀ {us : List α} {bs : List γ},All2 R (us.map f) bs→All2 (fun a b=>R (f a) b) us bs
 | [],[],_=>O
 | _ :: _,_ :: _,h=>⟨h.1,All2.map_left h.2⟩
 | [],_ :: _,h=>h.elim
 | _ :: _,[],h=>h.elim
def Z7 (ps : List Pass) (xs : List X) : Bool:=xs.all (·.trOk ps)
theorem YRep.tr {w : World} {G : Gh} {ps : List Pass} {y : Y} {v : Value} (hok : y.trOk ps=true) (h : YRep w G (y.tr ps) v) : YRep w (G.passed ps) y v:=by
 have hS : ∀ b o,G.S b o→(G.passed ps).S b o:=fun b o hs=>(G.passed_imm ps b o).2 hs
 cases y with
 | c x=>exact CRep.mono hS (fun _ _ _=>rfl) h
 | agg cs=>obtain ⟨vs,h1,h2⟩:=h; exact ⟨vs,h1,h2.mono fun _ _=>CRep.mono hS (fun _ _ _=>rfl)⟩
 | ro cs=>obtain ⟨blk,off,h1,h2⟩:=h; exact ⟨blk,off,h1,h2.mono hS (fun _ _ _=>rfl)⟩
 | ptr n off =>
  cases n with
  | l k=>simp [Y.trOk] at hok
  | bd t k=>simp [Y.trOk] at hok
  | o j =>
   simp only [Y.trOk] at hok
   cases hp : ps[j]? with
   | none=>rw[hp] at hok; simp at hok
   | some p =>
    simp only [Y.tr,hp,YRep] at h
    simp only [YRep,Gh.passed,hp]
    rw[h,Nat.add_assoc]
 | ms n sz off len=>simp [Y.trOk] at hok
 | msv n sz off len u=>simp [Y.trOk] at hok
theorem XRep.tr {w : World} {G : Gh} {ps : List Pass} {x : X} {v : Value} (hok : x.trOk ps=true) (h : XRep w G (x.tr ps) v) : XRep w (G.passed ps) x v:=by
 have hS : ∀ b o,G.S b o→(G.passed ps).S b o:=fun b o hs=>(G.passed_imm ps b o).2 hs
 cases x with
 | v z=>exact YRep.tr hok h
 | tup ys =>
  have hok' : X.clean (.tup ys)=true:=hok
  exact XRep.mono hS (fun _ _ _=>rfl) (fun n hn=>by rw[X.clean_has hok' n] at hn; simp at hn) h
 | fn f caps =>
  have hok' : (caps.all (·.trOk ps))=true:=hok
  obtain ⟨vs,h1,h2⟩:=h
  refine ⟨vs,h1,All2.mem_mono (fun y v hy hyv=>YRep.tr (List.all_eq_true.1 hok' y hy) hyv) (All2.map_left h2)⟩
 | kn one cs ms=>cases hok
 | fnv f caps u=>cases hok
theorem Lv {N : Nat} {ops : Array Oper} {st : St} {o : Oper} {fo : Operand} {args : Array Operand} {ts : Array TypeId} {f : FuncId} {xs cxs : List X} {res : X} {ps : List Pass} {dst : Option Nat} {fin : St}
  (ho : o.op = .call { callee:=.value fo,args:=args,argTypes:=ts }) (hg : G8 ops st o=some true)
  (hf : lk Z.T st 0 fo=some (true, .fn f [])) (ha : M2 Z.T st ts.toList args.toList=some (true,xs)) (htr : cxs.map (X.tr ps)=xs) (htrok : Z7 ps cxs=true)
  (hps : ∀ p ∈ ps,st.box p.n=some p.cs) (hnd : M9 st ps=true)
  (hs : Ctr Z f cxs (ps.map Pass.old) res none (ps.map Pass.ds)) (hc : res.clean=true) (hd : o.dst=dst)
  (hfin : match dst with | some d=>Nat.ble (d + 1) N=true∧fin=(st.stores ps).put d (true,res) | none=>fin=st.stores ps) : Op1 Z N ops o st fin:=by
 intro E G a w hr hE K' Q' hK
 rw[J6 hr hg]
 simp only [if_true]
 obtain ⟨cvs,hfv,hcv⟩:=F4 hr hf rfl
 have hcv0 : cvs=[]:=by cases cvs with
  | nil=>rfl
  | cons _ _=>exact hcv.elim
 subst hcv0
 have hav:=P5 hr ha J
 obtain ⟨hen,hsp⟩:=hs
 unfold Oper.wp
 rw[U1 ho hfv hen,Oper.upon_enter]
 rw[← htr] at hav
 have hlen:=Bz hnd
 have hav2 : All2 (XRep w (G.passed ps)) cxs (args.toList.map a.eval) :=
  All2.mem_mono (fun x v hx hxv=>XRep.tr (List.all_eq_true.1 htrok x hx) hxv) (All2.map_left hav)
 have hbox : ∀ (j : Nat) (p : Pass),ps[j]? = some p→R8 w G p.n p.cs:=fun j p hj=>hr.bx p.n p.cs (hps p (List.mem_of_getElem? hj))
 rw[List.append_nil]
 refine (hsp w (G.passed ps) _ hav2 ?_ ?_ ?_ (fun b o' p=>G.passed_own ps b o' p) (fun g hg=>⟨(hE.at hr g hg).1,(hE.at hr g hg).2.1,fun o n hn=>by
  obtain ⟨j,p,_,_,q,_⟩:=Gh.passed_box hn
  exact (hE.at hr g hg).2.2.1 o _ q,fun o p=>G.passed_own ps g.1 o p⟩)).mono ?_
 ·intro b o' hb
  refine hr.wf b o' ?_
  intro e
  apply hb
  unfold Gh.passed
  dsimp only
  rw[e]
 ·intro j cs hj k c hk
  rw[List.getElem?_map] at hj
  cases hp : ps[j]? with
  | none=>rw[hp] at hj; simp at hj
  | some p =>
   rw[hp] at hj
   simp only [Option.map_some,Option.some.injEq] at hj
   subst hj
   unfold Pass.old at hk
   rw[List.getElem?_take] at hk
   split at hk
   ·rename_i hkl
    rw[List.getElem?_drop] at hk
    obtain ⟨h1,h2,v,h3,h4⟩:=hbox j p hp _ c hk
    have hA : (G.passed ps).A (.o j)=((G.A p.n).1,(G.A p.n).2 + p.off):=by simp [Gh.passed,hp]
    rw[hA]
    rw[← Nat.add_assoc] at h1 h2 h3
    exact ⟨Gh.passed_at hnd hp hkl h1,h2,v,h3,h4.mono (fun b o' hs=>(G.passed_imm ps b o').2 hs) (fun _ _ _=>rfl)⟩
   ·simp at hk
 ·intro b o' n hn
  obtain ⟨j,p,rfl,hp,hw,h1,h2,h3⟩:=Gh.passed_box hn
  have hpl:=hlen p (List.mem_of_getElem? hp)
  refine ⟨j,p.old,o' - ((G.A p.n).2 + p.off),rfl,by rw[List.getElem?_map,hp]; rfl,?_,?_,?_⟩
  ·simp only [Pass.old,List.length_take,List.length_drop]; omega
  ·simp [Gh.passed,hp,h1]
  ·simp only [Gh.passed,hp]; omega
 ·rintro e w' ⟨v,G',rfl,hfr,h1,h2,h3,h4,h5,h6,h7,h8⟩
  dsimp only
  have g2 : ∀ b o',b < w.heap.size→G'.W b o' = .imm→G.W b o' = .imm:=fun b o' hb hi=>(G.passed_imm ps b o').1 (h2 b o' hb hi)
  let G2:=G.back G' w.heap.size .none
  have hS2 : ∀ b o',G'.S b o'→G2.S b o':=fun b o'=>Gh.back_imm g2 b o'
  have hW2 : ∀ b o',b < w.heap.size→G2.W b o'=G.W b o':=fun b o' hb=>by simp [G2,Gh.back,hb]
  have hrel : Rel E G2 (st.stores ps) a w':=by
   refine hr.after (M:=fun b o'=>∃ n,(G.passed ps).W b o' = .box n) hfr hW2 J ?_ (fun k e hk=>by rw[Ac] at hk; exact hk) ?_ ?_ ?_ ?_ (Ep ps st)
   ·intro b o' hb
    dsimp only [G2,Gh.back] at hb
    split at hb
    ·rename_i hlt; exact Nat.lt_of_lt_of_le hlt hfr.size
    ·refine h3 b o' ?_
     intro e; rw[e] at hb; simp at hb
   ·rintro b o' ⟨n,hn⟩
    obtain ⟨j,p,_,_,hw,_⟩:=Gh.passed_box hn
    exact ⟨_,hw⟩
   ·intro n cs hn
    by_cases hin : ∃ p ∈ ps,p.n=n
    ·obtain ⟨p,hp,rfl⟩:=hin
     rw[Dc ps st p hnd hp] at hn
     simp only [Option.some.injEq] at hn
     subst hn
     obtain ⟨j,hj⟩:=List.getElem?_of_mem hp
     have hpl:=hlen p hp
     intro k c hk
     rw[S0 p.cs p.ds p.off k hpl] at hk
     have hA2 : G2.A p.n=G.A p.n:=rfl
     rw[hA2]
     have hkl : k < p.cs.length:=by
      split at hk
      ·rename_i hh; omega
      ·exact (List.getElem?_eq_some_iff.1 hk).1
     obtain ⟨q1,q2,u,q3,q4⟩:=hbox j p hj k _ (List.getElem?_eq_getElem hkl)
     have hlt : (G.A p.n).1 < w.heap.size:=World.block_lt_of_cell? (a:=⟨(G.A p.n).1,(G.A p.n).2 + k,none⟩) w q3
     refine ⟨by rw[hW2 _ _ hlt]; exact q1,by rw[hfr.frozen _ _ hlt]; exact q2,?_⟩
     split at hk
     ·rename_i hh
      have hb:=h6 j p.ds (by rw[List.getElem?_map,hj]; rfl) (k - p.off) c hk
      rw[h5 j] at hb
      have hA : (G.passed ps).A (.o j)=((G.A p.n).1,(G.A p.n).2 + p.off):=by simp [Gh.passed,hj]
      rw[hA] at hb
      obtain ⟨_,_,u',b3,b4⟩:=hb
      dsimp only at b3
      rw[show (G.A p.n).2 + p.off + (k - p.off)=(G.A p.n).2 + k by omega] at b3
      exact ⟨u',b3,b4.mono hS2 (fun _ _ _=>rfl)⟩
     ·rename_i hh
      rw[List.getElem?_eq_getElem hkl] at hk
      simp only [Option.some.injEq] at hk
      subst hk
      refine ⟨u,?_,q4.mono (fun b o' hs=>?_) (fun b o' hs=>?_)⟩
      ·rw[hfr.cell _ _ hlt]
       ·exact q3
       ·rintro ⟨n,hn⟩
        obtain ⟨i,q,_,hq,hw,r1,r2,r3⟩:=Gh.passed_box hn
        rw[q1] at hw
        simp only [Who.box.injEq] at hw
        have := U0 hnd i j q p hq hj hw.symm
        subst this
        rw[hj] at hq
        simp only [Option.some.injEq] at hq
        subst hq
        omega
      ·exact hS2 b o' (h1 b o' ((G.passed_imm ps b o').2 hs))
      ·have hlt':=hr.wf b o' (by unfold Gh.S at hs; rw[hs]; simp)
       refine hfr.cell b o' hlt' ?_
       rintro ⟨n,hn⟩
       obtain ⟨_,_,_,_,hw,_⟩:=Gh.passed_box hn
       unfold Gh.S at hs
       rw[hs] at hw; simp at hw
    ·rw[L8 ps st n (fun p hp e=>hin ⟨p,hp,e⟩)] at hn
     intro k c hk
     obtain ⟨q1,q2,u,q3,q4⟩:=hr.bx n cs hn k c hk
     have hlt : (G.A n).1 < w.heap.size:=World.block_lt_of_cell? (a:=⟨(G.A n).1,(G.A n).2 + k,none⟩) w q3
     have hA2 : G2.A n=G.A n:=rfl
     rw[hA2]
     refine ⟨by rw[hW2 _ _ hlt]; exact q1,by rw[hfr.frozen _ _ hlt]; exact q2,u,?_,q4.mono (fun b o' hs=>?_) (fun b o' hs=>?_)⟩
     ·rw[hfr.cell _ _ hlt]
      ·exact q3
      ·rintro ⟨m,hm⟩
       obtain ⟨i,q,_,hq,hw,_⟩:=Gh.passed_box hm
       rw[q1] at hw
       simp only [Who.box.injEq] at hw
       exact hin ⟨q,List.mem_of_getElem? hq,hw.symm⟩
     ·exact hS2 b o' (h1 b o' ((G.passed_imm ps b o').2 hs))
     ·have hlt':=hr.wf b o' (by unfold Gh.S at hs; rw[hs]; simp)
      refine hfr.cell b o' hlt' ?_
      rintro ⟨n,hn⟩
      obtain ⟨_,_,_,_,hw,_⟩:=Gh.passed_box hn
      unfold Gh.S at hs
      rw[hs] at hw; simp at hw
   ·intro p sz hp
    obtain ⟨hp1,hp2⟩:=Dg ps st p sz hp
    refine ⟨hp1,?_⟩
    rintro n off rfl ⟨m,hm⟩
    obtain ⟨i,q,_,hq,hw,r1,r2,r3⟩:=Gh.passed_box hm
    obtain ⟨u,hu,_⟩:=hr.ow _ _ hp1
    rw[hu.2] at hw
    simp only [Who.box.injEq] at hw
    subst hw
    have := hp2 q (List.mem_of_getElem? hq)
    simp only [Pl.inCells,Nm.beq_self,Bool.true_and,Bool.and_eq_false_iff] at this
    rcases this with this | this
    ·have : ¬ q.off≤off:=fun hle=>by rw[Nat.ble_eq_true_of_le hle] at this; simp at this
     omega
    ·have : ¬ off + 1≤q.off + q.ds.length:=fun hle=>by rw[Nat.ble_eq_true_of_le hle] at this; simp at this
     omega
   ·intro t k cs hn hne
    have hnp : ∀ p ∈ ps,p.n ≠ .bd t k:=fun p hp e=>by
     have := Az hnd p hp
     rw[e] at this; simp [Nm.isBd] at this
    rw[L8 ps st _ hnp] at hn
    obtain ⟨q1,q2,x,q3,q4⟩:=hr.bd t k cs hn hne
    have hlt : (G.A (.bd t k)).1 < w.heap.size:=World.block_lt_of_cell? (a:=⟨(G.A (.bd t k)).1,0,none⟩) w q3
    obtain ⟨c0,hc0⟩ : ∃ c0,cs[0]? = some c0:=by
     cases cs with
     | nil=>exact absurd J hne
     | cons c0 r=>exact ⟨c0,rfl⟩
    obtain ⟨r1,_⟩:=hr.bx _ cs hn 0 c0 hc0
    rw[q1] at r1
    have hA2 : G2.A (.bd t k)=G.A (.bd t k):=rfl
    rw[hA2,hfr.shape _ hlt]
    refine ⟨q1,q2,x,?_,q4⟩
    rw[hfr.cell _ _ hlt]
    ·exact q3
    ·rintro ⟨m,hm⟩
     obtain ⟨i,q,_,hq,hw,_⟩:=Gh.passed_box hm
     rw[r1] at hw
     simp only [Who.box.injEq] at hw
     exact hnp q (List.mem_of_getElem? hq) hw.symm
  have hX : XRep w' G2 res v:=h4.mono hS2 (fun _ _ _=>rfl) (fun n hn=>by rw[X.clean_has hc n] at hn; simp at hn)
  rw[hd] at hK ⊢
  cases dst with
  | none =>
   dsimp only at hfin
   subst hfin
   exact hK G2 v w' hrel
  | some d =>
   dsimp only at hfin
   obtain ⟨hN,rfl⟩:=hfin
   have hdN : d < E.nt:=by rw[hE.nt]; exact Nat.le_of_ble_eq_true hN
   exact hK G2 v w' (hrel.put hdN (g:=true) (fun _=>hX) (fun hf=>by simp at hf))
theorem Zi {N : Nat} {ops : Array Oper} {st : St} {o : Oper} {fo : Operand} {args : Array Operand} {ts : Array TypeId} {f : FuncId} {xs cxs : List X} {res : X} {p : Pass} {d : Nat} {R : Foot}
  (ho : o.op = .call { callee:=.value fo,args:=args,argTypes:=ts }) (hg : G8 ops (rs R st) o=some true)
  (hf : lk Z.T (rs R st) 0 fo=some (true, .fn f [])) (ha : M2 Z.T (rs R st) ts.toList args.toList=some (true,xs)) (htr : cxs.map (X.tr [p])=xs) (htrok : Z7 [p] cxs=true)
  (hps : (rs R st).box p.n=some p.cs) (hnd : Nat.ble (p.off + p.ds.length) p.cs.length=true)
  (hs : Ctr Z f cxs [p.old] res none [p.ds]) (hc : res.clean=true) (hd : o.dst=some d) (hN : Nat.ble (d + 1) N=true) (hnb : p.n.isBd=false:=by rfl) :
  LS Z N ops o { d:=some (d,true,res),b:=some (p.n,I4 p.cs p.off p.ds),drop:=.t d :: N5 p.n p.off p.ds.length } R st:=by
 intro s2 hag _
 refine (Lv (ps:=[p]) (st:=s2) ho (N6 hag.sub hg) (Ab hag.sub hf) (Eu hag.sub ha) htr htrok (fun q hq=>by simp at hq; subst hq; exact hag.sub.bx _ _ hps) (by simp [M9,hnd,hnb]) hs hc hd ⟨hN,rfl⟩).sub ⟨?_,?_,?_,by exact .inr J⟩
 ·intro j e hj
  rw[P7] at hj
  rw[St.put_get,Ac]
  simp only [Eff.gt] at hj
  by_cases h : d=j
  ·subst h; simpa using hj
  ·have h' : ¬ j=d:=fun e=>h e.symm
   simpa [h,h'] using hj
 ·intro m ds hm
  rw[Q8] at hm
  show (s2.store p.n (I4 p.cs p.off p.ds) p.off p.ds.length).box m=_
  rw[St.store_box]
  simp only [Eff.gb] at hm
  split
  ·rename_i he; rw[if_pos he] at hm; exact hm
  ·rename_i he; rw[if_neg he] at hm; exact hm
 ·intro q s hq
  rw[O8] at hq
  rw[St.put_own]
  simp only [Eff.go,List.mem_cons] at hq
  split
  ·rename_i he; rw[if_pos (.inl he)] at hq; exact hq
  ·rename_i he
   show (s2.store p.n (I4 p.cs p.off p.ds) p.off p.ds.length).own q=_
   rw[St.store_own]
   split
   ·rename_i h3; rw[if_pos (.inr (mem_cellPls.2 h3))] at hq; exact hq
   ·rename_i h3; rw[if_neg (by rintro (h | h); exact he h; exact h3 (mem_cellPls.1 h))] at hq; exact hq
section
variable {s0 : St} {N : Nat} {ops : Array Oper} {B : List Nat} {k : Nat} {rest : List Oper} {acc : List Lnk} {st : St} {o : Oper} {Q : St→Prop} {gate : Bool} {d : Nat}
theorem B6 {x : X} (hk : ops[k]? = some o) (hg : G8 ops (rs (foot ops o [] []) st) o=some gate) (hd : o.dst=some d) (hN : Nat.ble (d + 1) N=true) (hp : PureOk Z (rs (foot ops o [] []) st) o.op o.type gate x)
  (hr : Draw Z N s0 ops B (k + 1) rest (acc++[(k,{ d:=some (d,gate,x),drop:=[.t d] },foot ops o [] [])]) (ap { d:=some (d,gate,x),drop:=[.t d] } st) Q) : Draw Z N s0 ops B k (o :: rest) acc st Q :=
 Q3 hk (Gx hg hd hN hp) hr
theorem U4 {g : Bool} {t : TypeId} {len : Nat} {parts : Array (Nat × Operand)} {xs : List Operand} {ti : TyI} {e sz by' : Nat} {rws : List (List C)} (hk : ops[k]? = some o)
  (ho : o.op = .buildSlice t len parts) (hg : G8 ops (rs (foot ops o [] []) st) o=some gate) (hd : o.dst=some d) (hN : Nat.ble (d + 1) N=true) (ht : tyAt Z.T t=some ti) (hel : ti.el=some (e,sz,by')) (hp : parts.toList=Ec 0 xs) (hx : Nat.beq xs.length len=true)
  (hrs : R9 Z.T (rs (foot ops o [] []) st) e sz xs=some (g,rws)) (hga : gate=true→g=true) (hbig : Nat.ble (len * sz) 10000=true)
  (hr : Draw Z N s0 ops B (k + 1) rest (acc++[(k,{ d:=some (d,gate, .v (.c (.sl sz rws))),drop:=[.t d],gain:=cond gate ((some sz).map fun sz=>(.t d,sz)) none },foot ops o [] [])]) (ap { d:=some (d,gate, .v (.c (.sl sz rws))),drop:=[.t d],gain:=cond gate ((some sz).map fun sz=>(.t d,sz)) none } st) Q) :
  Draw Z N s0 ops B k (o :: rest) acc st Q:=Q3 hk (Js ho hg hd hN ht hel hp hx hrs hga hbig) hr
theorem W1 {j : Nat} {x : Operand} {t : TypeId} {sz e by' : Nat} {es xs : List (List C)} {ti : TyI} (hk : ops[k]? = some o) (ho : o.op = .call { callee:=.builtin .append,args:=#[.tmp j,x],argTypes:=#[t,t] }) (hg : G8 ops (rs (foot ops o [] [.t j]) st) o=some true) (hd : o.dst=some d)
  (hs : (rs (foot ops o [] [.t j]) st).get j=some (true, .v (.c (.sl sz es)))) (hw : (rs (foot ops o [] [.t j]) st).own (.t j)=some sz) (hx : lk Z.T (rs (foot ops o [] [.t j]) st) t x=some (true, .v (.c (.sl sz xs))))
  (ht : tyAt Z.T t=some ti) (hel : ti.el=some (e,sz,by')) (hN : Nat.ble (d + 1) N=true) (hkd : Nat.beq j d=false) (hbig : (es.length + xs.length) * by'≤140737488355328) (hmax : es.length + xs.length≤9223372036854775807)
  (hr : Draw Z N s0 ops B (k + 1) rest (acc++[(k,{ d:=some (d,true, .v (.c (.sl sz (es++xs)))),drop:=[.t d, .t j],gain:=some (.t d,sz) },foot ops o [] [.t j])]) (ap { d:=some (d,true, .v (.c (.sl sz (es++xs)))),drop:=[.t d, .t j],gain:=some (.t d,sz) } st) Q) :
  Draw Z N s0 ops B k (o :: rest) acc st Q:=Q3 hk (Xe ho hg hd hs hw hx ht hel hN hkd hbig hmax) hr
theorem Q5 {j sz : Nat} {x : X} (hk : ops[k]? = some o) (hop : o.op = .move (.tmp j)∨o.op = .assign (.tmp j)) (hg : G8 ops (rs (foot ops o [] [.t j]) st) o=some true) (hd : o.dst=some d) (h : (rs (foot ops o [] [.t j]) st).get j=some (true,x)) (hw : (rs (foot ops o [] [.t j]) st).own (.t j)=some sz) (hN : Nat.ble (d + 1) N=true)
  (hr : Draw Z N s0 ops B (k + 1) rest (acc++[(k,{ d:=some (d,true,x),drop:=[.t d, .t j],gain:=some (.t d,sz) },foot ops o [] [.t j])]) (ap { d:=some (d,true,x),drop:=[.t d, .t j],gain:=some (.t d,sz) } st) Q) :
  Draw Z N s0 ops B k (o :: rest) acc st Q:=Q3 hk (uBe hop hg hd h hw hN) hr
theorem F0 {t : TypeId} {x v : Operand} {n : Nm} {off : Nat} {y : Y} {cs ds : List C} {ti : TyI} (hk : ops[k]? = some o) (ho : o.op = .store t x v) (hx0 : lk Z.T st t x=some (true, .v (.ptr n off))) (hg : G8 ops (rs (foot ops o [n] []) st) o=some true) (hd : o.dst=none)
  (hx : lk Z.T (rs (foot ops o [n] []) st) t x=some (true, .v (.ptr n off))) (hv : lk Z.T (rs (foot ops o [n] []) st) t v=some (true, .v y)) (hc : y.cells=some ds)
  (hb : (rs (foot ops o [n] []) st).box n=some cs) (ht : tyAt Z.T t=some ti) (hn : ds.length=ti.n) (hl : Nat.ble (off + ds.length) cs.length=true)
  (hr : Draw Z N s0 ops B (k + 1) rest (acc++[(k,{ b:=some (n,I4 cs off ds),drop:=N5 n off ds.length },foot ops o [n] [])]) (ap { b:=some (n,I4 cs off ds),drop:=N5 n off ds.length } st) Q) (hnb : (!n.isBd || !Nat.beq off 0)=true:=by rfl) :
  Draw Z N s0 ops B k (o :: rest) acc st Q:=let _:=hx0; Q3 hk (uAb ho hg hd hx hv hc hb ht hn hl hnb) hr
theorem Ot {t : TypeId} {x : Operand} {n : Nm} {off : Nat} {ti : TyI} {cs : List C} {c : C} {sz : Nat} (hk : ops[k]? = some o) (ho : o.op = .load t x) (h0 : lk Z.T st o.type x=some (true, .v (.ptr n off))) (hg : G8 ops (rs (foot ops o [n] [.b n off]) st) o=some true) (hd : o.dst=some d)
  (h : lk Z.T (rs (foot ops o [n] [.b n off]) st) o.type x=some (true, .v (.ptr n off))) (ht : tyAt Z.T t=some ti) (hagg : ti.agg=false) (hb : (rs (foot ops o [n] [.b n off]) st).box n=some cs) (hc : cs[off]? = some c) (hw : (rs (foot ops o [n] [.b n off]) st).own (.b n off)=some sz) (hN : Nat.ble (d + 1) N=true)
  (hr : Draw Z N s0 ops B (k + 1) rest (acc++[(k,{ d:=some (d,true, .v (.c c)),drop:=[.t d, .b n off],gain:=some (.t d,sz) },foot ops o [n] [.b n off])]) (ap { d:=some (d,true, .v (.c c)),drop:=[.t d, .b n off],gain:=some (.t d,sz) } st) Q) :
  Draw Z N s0 ops B k (o :: rest) acc st Q:=let _:=h0; Q3 hk (Pm ho hg hd h ht hagg hb hc hw hN) hr
theorem Nl {t : TypeId} {x : Operand} {j : Nat} {n : Nm} {off : Nat} {c : C} {cs : List C} {ti : TyI} {sz : Nat} (hk : ops[k]? = some o) (ho : o.op = .store t x (.tmp j)) (hx0 : lk Z.T st t x=some (true, .v (.ptr n off))) (hg : G8 ops (rs (foot ops o [n] [.t j]) st) o=some true) (hd : o.dst=none)
  (hx : lk Z.T (rs (foot ops o [n] [.t j]) st) t x=some (true, .v (.ptr n off))) (hv : (rs (foot ops o [n] [.t j]) st).get j=some (true, .v (.c c)))
  (hb : (rs (foot ops o [n] [.t j]) st).box n=some cs) (ht : tyAt Z.T t=some ti) (hn : ti.n=1) (hl : Nat.ble (off + 1) cs.length=true) (hw : (rs (foot ops o [n] [.t j]) st).own (.t j)=some sz)
  (hr : Draw Z N s0 ops B (k + 1) rest (acc++[(k,{ b:=some (n,I4 cs off [c]),drop:=[.t j, .b n off],gain:=some (.b n off,sz) },foot ops o [n] [.t j])]) (ap { b:=some (n,I4 cs off [c]),drop:=[.t j, .b n off],gain:=some (.b n off,sz) } st) Q) (hnb : n.isBd=false:=by rfl) :
  Draw Z N s0 ops B k (o :: rest) acc st Q:=let _:=hx0; Q3 hk (Pu ho hg hd hx hv hb ht hn hl hw hnb) hr
theorem Zc {fo : Operand} {args : Array Operand} {ts : Array TypeId} {f : FuncId} {xs cxs : List X} {res : X} (p : Pass) (hk : ops[k]? = some o)
  (ho : o.op = .call { callee:=.value fo,args:=args,argTypes:=ts }) (hg : G8 ops (rs (foot ops o [p.n] []) st) o=some true)
  (hf : lk Z.T (rs (foot ops o [p.n] []) st) 0 fo=some (true, .fn f [])) (ha : M2 Z.T (rs (foot ops o [p.n] []) st) ts.toList args.toList=some (true,xs)) (htr : cxs.map (X.tr [p])=xs) (htrok : Z7 [p] cxs=true)
  (hps : (rs (foot ops o [p.n] []) st).box p.n=some p.cs) (hnd : Nat.ble (p.off + p.ds.length) p.cs.length=true)
  (hs : Ctr Z f cxs [p.old] res none [p.ds]) (hc : res.clean=true) (hd : o.dst=some d) (hN : Nat.ble (d + 1) N=true)
  (hr : Draw Z N s0 ops B (k + 1) rest (acc++[(k,{ d:=some (d,true,res),b:=some (p.n,I4 p.cs p.off p.ds),drop:=.t d :: N5 p.n p.off p.ds.length },foot ops o [p.n] [])]) (ap { d:=some (d,true,res),b:=some (p.n,I4 p.cs p.off p.ds),drop:=.t d :: N5 p.n p.off p.ds.length } st) Q) (hnb : p.n.isBd=false:=by rfl) :
  Draw Z N s0 ops B k (o :: rest) acc st Q:=Q3 hk (Zi ho hg hf ha htr htrok hps hnd hs hc hd hN hnb) hr
end
end Go.Abs
namespace Go.Abs
variable {Z : Pg}
section
variable {s0 : St} {N : Nat} {ops : Array Oper} {B : List Nat} {k : Nat} {rest : List Oper} {acc : List Lnk} {st : St} {o : Oper} {Q : St→Prop} {gate : Bool} {d : Nat}
theorem G5 {t : TypeId} {x : Operand} {g0 g : Bool} {n : Nm} {off : Nat} {ti : TyI} {cs : List C} {c : C} (hk : ops[k]? = some o) (ho : o.op = .load t x) (h0 : lk Z.T st o.type x=some (g0, .v (.ptr n off))) (hg : G8 ops (rs (foot ops o [n] []) st) o=some gate) (hd : o.dst=some d) (hN : Nat.ble (d + 1) N=true)
  (h : lk Z.T (rs (foot ops o [n] []) st) o.type x=some (g, .v (.ptr n off))) (hgg : gate=true→g=true) (ht : tyAt Z.T t=some ti) (hagg : ti.agg=false) (hb : (rs (foot ops o [n] []) st).box n=some cs) (hc : cs[off]? = some c)
  (hr : Draw Z N s0 ops B (k + 1) rest (acc++[(k,{ d:=some (d,gate, .v (.c c)),drop:=[.t d] },foot ops o [n] [])]) (ap { d:=some (d,gate, .v (.c c)),drop:=[.t d] } st) Q) : Draw Z N s0 ops B k (o :: rest) acc st Q :=
 let _:=h0; Q3 hk (Gx hg hd hN (by rw[ho]; exact B2 h hgg ht hagg hb hc)) hr
theorem D7 {t : TypeId} {x : Operand} {g0 g : Bool} {n : Nm} {off : Nat} {ti : TyI} {cs ds : List C} (hk : ops[k]? = some o) (ho : o.op = .load t x) (h0 : lk Z.T st o.type x=some (g0, .v (.ptr n off))) (hg : G8 ops (rs (foot ops o [n] []) st) o=some gate) (hd : o.dst=some d) (hN : Nat.ble (d + 1) N=true)
  (h : lk Z.T (rs (foot ops o [n] []) st) o.type x=some (g, .v (.ptr n off))) (hgg : gate=true→g=true) (ht : tyAt Z.T t=some ti) (hagg : ti.agg=true) (hb : (rs (foot ops o [n] []) st).box n=some cs) (hds : (cs.drop off).take ti.n=ds) (hl : ds.length=ti.n)
  (hr : Draw Z N s0 ops B (k + 1) rest (acc++[(k,{ d:=some (d,gate, .v (.agg ds)),drop:=[.t d] },foot ops o [n] [])]) (ap { d:=some (d,gate, .v (.agg ds)),drop:=[.t d] } st) Q) : Draw Z N s0 ops B k (o :: rest) acc st Q :=
 let _:=h0; Q3 hk (Gx hg hd hN (by rw[ho]; exact B8 h hgg ht hagg hb hds hl)) hr
theorem awp_drawn' {Q : Exit→St→Prop} {id : Nat} {l : List Oper} (hcert : Lp l.toArray (Region.before l.toArray).toList=true) (h : Draw Z N st l.toArray (Region.before l.toArray).toList 0 l [] st (Q .normal)) : AWP Z N (.region id l.toArray true) Q st :=
 Xw _ hcert h
theorem Y7 {rest : List Oper} {K : St→Prop} {x : Operand} {t t' : TypeId} {g : Bool} {sz : Nat} {es : List (List C)} {ti : TyI} {el : Nat × Nat × Nat} (ho : o.op = .binOp .eql t x (.const (.slice none 0 0)) t') (hg : G8 ops st o=some true) (hd : o.dst=some d) (hN : Nat.ble (d + 1) N=true)
  (h : lk Z.T st o.type x=some (g, .v (.c (.sl sz es)))) (hgg : g=true) (ht : tyAt Z.T t=some ti) (hel : ti.el=some el) (hK : ∀ b : Bool,(b=true→es=[])→AL Z N ops rest K (st.put d (true, .v (.c (.b b))))) : AL Z N ops (o :: rest) K st:=by
 intro E G a w hr hE K' hK'
 obtain ⟨e,s,by'⟩:=el
 have hu:=((Z.tyOk ht).sl e s by' hel).1
 have h1:=F4 hr h hgg
 have hdN : d < E.nt:=by rw[hE.nt]; exact Nat.le_of_ble_eq_true hN
 have key : ∀ (b : Bool),(b=true→es=[])→(execOp a.eval o).run Z.P w = .ok (.value (.bool b)) w→wpList Z.P ops (Qn K') (o :: rest) a w:=by
  intro b hb hrun
  unfold wpList
  rw[J6 hr hg]
  simp only [if_true]
  refine .inl ?_
  unfold Oper.wp
  rw[hrun,Oper.upon_value,hd]
  exact hK b hb E G _ w (hr.put hdN (fun _=>XRep.mkBool b) (fun hf=>by simp at hf)) hE K' hK'
 have heq : ∀ (v : Option Addr) (n c : Nat),(Op.equal t (.slice v n c) (.slice none 0 0)).run Z.P w = .ok v.isNone w:=by
  intro v n c
  show (Op.equalIn (9999 + 1) t (.slice v n c) (.slice none 0 0)).run Z.P w=_
  rw[Op.equalIn]
  cases v <;> simp [underlying,hu]
 have hexec : ∀ (v : Option Addr) (n c : Nat),a.eval x = .slice v n c→(execOp a.eval o).run Z.P w = .ok (.value (.bool v.isNone)) w:=by
  intro v n c hv
  simp [execOp,ho,hv,Af,eqGuard,binOp,heq]
 rcases CRep.sl_cases h1 with ⟨a0,hv,hes⟩ | ⟨blk,off,len,cap,hv,_⟩
 ·exact key a0.isNone (fun _=>hes) (hexec _ _ _ hv)
 ·exact key false (fun h=>by simp at h) (hexec _ _ _ hv)
end
end Go.Abs
namespace Go.Abs
variable {Z : Pg}
theorem TyOk.fields {P : Program} {t : TypeId} {ti : TyI} {fs : Array Field} (h : tyB P t ti=true) (hu : P.underlying t=some (.struct fs)) :
  ∃ i zv,P.info? t=some i∧i.zero=some zv∧All2 (fun c v=>Ax c v=true) ti.z zv.cells.toList ∧ ∀ f ∈ fs.toList,∃ j,P.info? f.type=some j:=by
 unfold tyB at h
 split at h
 ·rename_i i d hi hd
  rw[hu] at hd
  simp only [Option.some.injEq] at hd
  subst hd
  simp only [Bool.and_eq_true,beq_iff_eq] at h
  obtain ⟨⟨⟨_,_⟩,h3⟩,⟨h4,h5⟩,_⟩:=h
  split at h3
  ·rename_i zv hz
   simp only [Bool.and_eq_true,beq_iff_eq] at h3
   refine ⟨i,zv,hi,hz,All2.ofB h3.2,?_⟩
   intro f hf
   obtain ⟨j,hj⟩:=List.getElem?_of_mem hf
   have hal:=All2.ofB h5
   have hlt : j < ti.offs.length:=by rw[hal.len]; exact (List.getElem?_eq_some_iff.1 hj).1
   obtain ⟨f',hf',hr⟩:=hal.get j _ (List.getElem?_eq_getElem hlt)
   rw[hj] at hf'
   simp only [Option.some.injEq] at hf'
   subst hf'
   simp only [Bool.and_eq_true] at hr
   obtain ⟨_,hr2⟩:=hr
   split at hr2
   ·rename_i k hk; exact ⟨k,hk⟩
   ·simp at hr2
  ·simp at h3
 ·simp at h
def Hj (T : List (Option TyI)) (st : St) (fs : List Field) : List (Nat × Operand)→List C→Option (Bool × List C)
 | [],acc=>some (true,acc)
 | (i,x) :: r,acc=>match fs[i]? with
  | some f=>(match tyAt T f.type with
   | some tj=>(match lk T st f.type x with
    | some (g, .v y)=>(match y.cells with
     | some cs=>cond (Nat.beq cs.length tj.n && Nat.ble (f.offset + cs.length) acc.length)
       (match Hj T st fs r (I4 acc f.offset cs) with | some (g',out)=>some (g && g',out) | none=>none) none
     | none=>none)
    | _=>none)
   | none=>none)
  | none=>none
section
variable {st : St} {ty : TypeId} {gate : Bool} {N : Nat} {ops : Array Oper} {o : Oper} {d : Nat} {K : St→Prop}
theorem Gg {E : Env} {G : Gh} {a : Act} {w : World} (hr : Rel E G st a w) {fs : List Field} {place : Nat→Option (Nat × Nat)}
  (hpl : ∀ (i : Nat) (f : Field) (tj : TyI),fs[i]? = some f→tyAt Z.T f.type=some tj→place i=some (f.offset,tj.n)) :
  ∀ {parts : List (Nat × Operand)} {acc out : List C} {g : Bool} {cells : Array Value},Hj Z.T st fs parts acc=some (g,out)→g=true→All2 (CRep w G.S) acc cells.toList →
   ∃ cells',Instr.fill place cells (parts.map fun (i,x)=>(i,a.eval x))=some cells'∧All2 (CRep w G.S) out cells'.toList
 | [],acc,out,g,cells,h,_,hc=>by
  simp only [Hj,Option.some.injEq,Prod.mk.injEq] at h
  obtain ⟨_,rfl⟩:=h
  exact ⟨cells,rfl,hc⟩
 | (i,x) :: r,acc,out,g,cells,h,hg,hc=>by
  simp only [Hj] at h
  split at h
  ·rename_i f hf
   split at h
   ·rename_i tj htj
    split at h
    ·rename_i g1 y hy
     split at h
     ·rename_i cs hcs
      cases hb : (Nat.beq cs.length tj.n && Nat.ble (f.offset + cs.length) acc.length) with
      | false=>rw[hb] at h; simp at h
      | true =>
       rw[hb,cond_true] at h
       rw[Bool.and_eq_true] at hb
       split at h
       ·rename_i g2 out2 h2
        simp only [Option.some.injEq,Prod.mk.injEq] at h
        obtain ⟨rfl,rfl⟩:=h
        rw[Bool.and_eq_true] at hg
        have hrep:=(show YRep w G y (a.eval x) from F4 hr hy hg.1).cells hcs
        have hn:=Nat.eq_of_beq_eq_true hb.1
        have hl:=Nat.le_of_ble_eq_true hb.2
        have hsz : (a.eval x).cells.size=tj.n:=by rw[← Array.length_toList,← hrep.len,hn]
        have hcl : acc.length=cells.size:=by rw[hc.len,Array.length_toList]
        have hfit : f.offset + (a.eval x).cells.size≤cells.size:=by rw[hsz,← hn]; omega
        obtain ⟨q1,q2⟩:=Gf f.offset (a.eval x) cells hfit
        obtain ⟨cells',h3,h4⟩:=Gg hr hpl (parts:=r) (cells:=(a.eval x).cells.zipIdx.foldl (fun cs (c,j)=>cs.setIfInBounds (f.offset + j) c) cells) h2 hg.2 (by
         refine All2.mk ((L3 _ _ _).trans (hcl.trans (q1.symm.trans Array.length_toList.symm))) ?_
         intro j c v hj hv
         rw[Array.getElem?_toList,q2 j] at hv
         rw[S0 _ _ _ _ hl] at hj
         rw[hsz,← hn] at hv
         split at hj
         ·rename_i hin
          rw[if_pos hin] at hv
          obtain ⟨v',hv',hr'⟩:=hrep.get _ _ hj
          rw[Array.getElem?_toList,hv] at hv'
          simp only [Option.some.injEq] at hv'
          subst hv'
          exact hr'
         ·rename_i hin
          rw[if_neg hin] at hv
          obtain ⟨v',hv',hr'⟩:=hc.get _ _ hj
          rw[Array.getElem?_toList,hv] at hv'
          simp only [Option.some.injEq] at hv'
          subst hv'
          exact hr')
        refine ⟨cells',?_,h4⟩
        simp only [List.map_cons,Instr.fill,hpl i f tj hf htj]
        have hno : ¬ ((a.eval x).cells.size≠tj.n∨f.offset + (a.eval x).cells.size > cells.size):=by
         rintro (h | h)
         ·exact h hsz
         ·omega
        rw[if_neg (by simpa using hno)]
        exact h3
       ·simp at h
     ·simp at h
    ·simp at h
   ·simp at h
  ·simp at h
theorem H6 {t : TypeId} {parts : Array (Nat × Operand)} {fs : Array Field} {ti : TyI} {g : Bool} {out : List C} (ht : tyAt Z.T t=some ti) (hu : Z.P.underlying t=some (.struct fs))
  (hb : Hj Z.T st fs.toList parts.toList ti.z=some (g,out)) (hg : gate=true→g=true) : PureOk Z st (.build t parts) ty gate (.v (.agg out)):=by
 intro o E G a w ho _ hr hgt
 obtain ⟨i,zv,hi,hz,hzv,hall⟩:=TyOk.fields (Z.ty ht) hu
 obtain ⟨places,hp⟩:=MapFrom.mapM_some (f:=fun f=>(Z.P.info? f.type).map fun i=>(f.offset,i.size)) (l:=fs.toList) (fun f hf=>by
  obtain ⟨j,hj⟩:=hall f hf
  exact ⟨_,by rw[hj]; rfl⟩)
 obtain ⟨cells,h1,h2⟩:=Gg hr (place:=(places.toArray[·]?)) (fun k f tj hk htj=>by
  have := mapM_some_get hp k f hk
  obtain ⟨j,_,_,hj,_,hn,_⟩:=(Z.tyOk htj).info
  rw[hj] at this
  simp only [List.getElem?_toArray]
  rw[← this,← hn]; rfl) hb (hg hgt) (hzv.mono fun c v hcv=>CRep.ofConst (w:=w) (S:=G.S) hcv)
 refine ⟨.agg cells,⟨cells.toList,by simp,h2⟩,?_⟩
 have hbuilt : Z.P.built t (parts.map fun (i,x)=>(i,a.eval x)).toList=some cells:=by
  unfold Program.built
  simp only [hi,hu,hz,hp]
  rw[Array.toList_map]
  exact h1
 simp only [execOp,ho]
 simp [run_build w t _ cells hbuilt]
theorem Po {x y : Operand} {ts : Array TypeId} {gx gy : Bool} {k k' : IntKind} {m n : Int} (hx : lk Z.T st ty x=some (gx, .v (.c (.i k m)))) (hy : lk Z.T st ty y=some (gy, .v (.c (.i k' n))))
  (hgx : gate=true→gx=true) (hgy : gate=true→gy=true) : PureOk Z st (.call { callee:=.builtin .max,args:=#[x,y],argTypes:=ts }) ty gate (.v (.c (.i k (max m n)))):=by
 intro o E G a w ho _ hr hgt
 have h1:=XRep.int (F4 hr hx (hgx hgt))
 have h2:=XRep.int (F4 hr hy (hgy hgt))
 refine ⟨.int k (max m n),CRep.i _ _,?_⟩
 have : (if n > m then n else m)=max m n:=by split <;> omega
 simp [execOp,ho,h1,h2,Go.resolve,invoke,builtin,run_max_int2,← this]
theorem Yp {x y : Operand} {ts : Array TypeId} {gx gy : Bool} {k k' : IntKind} {m n : Int} (hx : lk Z.T st ty x=some (gx, .v (.c (.i k m)))) (hy : lk Z.T st ty y=some (gy, .v (.c (.i k' n))))
  (hgx : gate=true→gx=true) (hgy : gate=true→gy=true) : PureOk Z st (.call { callee:=.builtin .min,args:=#[x,y],argTypes:=ts }) ty gate (.v (.c (.i k (min m n)))):=by
 intro o E G a w ho _ hr hgt
 have h1:=XRep.int (F4 hr hx (hgx hgt))
 have h2:=XRep.int (F4 hr hy (hgy hgt))
 refine ⟨.int k (min m n),CRep.i _ _,?_⟩
 have : (if n < m then n else m)=min m n:=by split <;> omega
 simp [execOp,ho,h1,h2,Go.resolve,invoke,builtin,run_min_int2,← this]
theorem H4 {op : Op} {sz : Nat} (hop : op = .move (.const (.slice none 0 0))∨op = .assign (.const (.slice none 0 0))) (_hx : lk Z.T st ty (.const (.slice none 0 0))=some (true, .v (.c (.sl sz [])))) (hN : Nat.ble (d + 1) N=true) :
  Does Z N st (some d) op ty ((st.put d (true, .v (.c (.sl sz [])))).addOwn (.t d) sz):=by
 intro o E G a w hd ho hty hr hE K Q hK
 have hdN : d < E.nt:=by rw[hE.nt]; exact Nat.le_of_ble_eq_true hN
 unfold Oper.wp
 have : (execOp a.eval o).run Z.P w = .ok (.value (.slice none 0 0)) w:=by
  rcases hop with rfl | rfl <;> simp [execOp,ho,Af]
 rw[this,Oper.upon_value,hd]
 have hp : Rel E G (st.put d (true, .v (.c (.sl sz [])))) (a.put (some d) (.slice none 0 0)) w:=hr.put hdN (fun _=>CRep.nil sz) (fun hf=>by simp at hf)
 refine hK G _ _ (hp.addOwn (v:=.slice none 0 0) ?_ (.inl J))
 show (a.put (some d) (.slice none 0 0)).tmps[d]? = _
 rw[K2 (by rw[hr.nt]; exact hdN),if_pos J]
theorem Y5 {t : TypeId} {x : Operand} {n : Nm} {off : Nat} {cs : List C} {ti : TyI} {sz : Nat} (hx : lk Z.T st t x=some (true, .v (.ptr n off))) (hv : lk Z.T st t (.const (.slice none 0 0))=some (true, .v (.c (.sl sz []))))
  (hb : st.box n=some cs) (ht : tyAt Z.T t=some ti) (hn : ti.n=1) (hl : Nat.ble (off + 1) cs.length=true) (hnb : (!n.isBd || !Nat.beq off 0)=true:=by rfl) :
  Does Z N st none (.store t x (.const (.slice none 0 0))) ty ((st.store n (I4 cs off [.sl sz []]) off 1).addOwn (.b n off) sz):=by
 intro o E G a w hd ho _ hr hE K Q hK
 have h1 : a.eval x=_:=F4 hr hx J
 have h2 : All2 (CRep w G.S) [.sl sz []] (a.eval (.const (.slice none 0 0))).cells.toList:=(show YRep w G (.c (.sl sz [])) _ from F4 hr hv J).cells J
 have hl':=Nat.le_of_ble_eq_true hl
 have hrun:=Q0 hr hb (ds:=[.sl sz []]) hl' ht (by simp [hn]) h2
 unfold Oper.wp
 have : (execOp a.eval o).run Z.P w = .ok .skip (w.setCells (G.A n).1 ((G.A n).2 + off) (a.eval (.const (.slice none 0 0))).cells.toList):=by
  simp [execOp,ho,h1,hrun]
 rw[this,Oper.upon_skip,hd]
 have hst:=hr.storeAll [.sl sz []] _ hb hl' h2 (nbOf hnb)
 refine hK G undef _ (Rel.putNone (hst.addOwn (v:=.slice none 0 0) ?_ (.inl J)) undef)
 obtain ⟨q1,_,u,q3,q4⟩:=hst.bx n (I4 cs off [.sl sz []]) (by rw[St.store_box,if_pos rfl]) off (.sl sz []) (Jf (by omega))
 refine ⟨?_,q1⟩
 have hcell:=hr.bx n cs hb off _ (List.getElem?_eq_getElem (by omega))
 obtain ⟨_,_,u0,hu0,_⟩:=hcell
 have h1c : (a.eval (.const (.slice none 0 0))).cells = #[.slice none 0 0]:=rfl
 rw[h1c]
 simp only [World.setCells]
 exact World.cell?_setCell_same _ _ _ hu0
theorem Ii {rest : List Oper} {fo : Operand} {args : Array Operand} {ts : Array TypeId} {f : FuncId} {xs cxs : List X} {res : X} (ps : List Pass)
  (ho : o.op = .call { callee:=.value fo,args:=args,argTypes:=ts }) (hg : G8 ops st o=some true)
  (hf : lk Z.T st 0 fo=some (true, .fn f [])) (ha : M2 Z.T st ts.toList args.toList=some (true,xs)) (htr : cxs.map (X.tr ps)=xs) (htrok : Z7 ps cxs=true)
  (hps : ∀ p ∈ ps,st.box p.n=some p.cs) (hnd : M9 st ps=true)
  (hs : Ctr Z f cxs (ps.map Pass.old) res none (ps.map Pass.ds)) (hc : res.clean=true) (hd : o.dst=some d) (hN : Nat.ble (d + 1) N=true)
  (h : AL Z N ops rest K ((st.stores ps).put d (true,res))) : AL Z N ops (o :: rest) K st :=
 U7 (Lv ho hg hf ha htr htrok hps hnd hs hc (dst:=some d) hd ⟨hN,rfl⟩) h
end
end Go.Abs
namespace Go.Abs
variable {Z : Pg}
theorem gL {a b : Bool} (h : (a && b)=true) : a=true:=by cases a <;> simp_all
theorem gA {a b : Bool} (h : a=true) (k : b=true) : (a && b)=true:=by subst h; subst k; rfl
theorem gP {g x b : Bool} (h : g=true) (hi : x=b) : (g && (x == b))=true:=by subst h; subst hi; simp
theorem Ul {N : Nat} {x y : Code} {Q : Exit→St→Prop} {st : St} (S : St) (P : Prop) (h1 : AWP Z N x (Hr (fun s=>P∧Sub S s) Q) st) (h2 : P→AWP Z N y Q S) : AWP Z N (x.seq y) Q st :=
 A8 (Rp h1 fun e s h=>by
  cases e with
  | normal=>exact B5 h.2 (h2 h.1)
  | _=>exact h)
section
variable {st : St} {ty : TypeId} {gate : Bool}
theorem E6 {x i : Operand} {t : TypeId} {g gi : Bool} {l : List UInt8} {k : IntKind} {n : Int} {j : Nat} (h : lk Z.T st ty x=some (g, .v (.c (.s l)))) (hi : lk Z.T st ty i=some (gi, .v (.c (.i k n))))
  (hg : gate=true→g=true) (hgi : gate=true→gi=true) (hu : Z.P.underlying t=some .string) (hn : n=(j : Int)) (hj : gate=true→j < l.length) : PureOk Z st (.index t x i) ty gate (.v (.c (.i .u8 ((l.getD j 0).toNat : Int)))):=by
 intro o E G a w ho hty hr hgt
 have hlt:=hj hgt
 have hget : l[j]? = some (l.getD j 0):=by rw[List.getD_eq_getElem?_getD,List.getElem?_eq_getElem hlt]; rfl
 exact Rm h hi hg hgi hu hn hget o E G a w ho hty hr hgt
end
end Go.Abs
namespace Go.Abs
def Fz (R : TypeId→List C→Prop) : List Field→List C→Prop
 | [],cs=>cs=[]
 | f :: r,cs=>∃ a b,cs=a++b∧R f.type a∧Fz R r b
def hasN (R : List C→Prop) : Nat→List C→Prop
 | 0,cs=>cs=[]
 | n + 1,cs=>∃ a b,cs=a++b∧R a∧hasN R n b
def Fw (P : Program) (L : List TypeId) : List Field→Nat→Option Nat
 | [],off=>some off
 | f :: r,off=>if f.offset=off∧f.type ∈ L then Fw P L r (off + P.cellsOf f.type) else none
def Mw (P : Program) (L : List TypeId) : Bool:=L.all fun t=>match P.underlying t with
 | some .bool | some (.int _) | some .string=>P.cellsOf t == 1
 | some (.slice e)=>P.cellsOf t == 1 && decide (e ∈ L) && P.cellsOf e != 0
 | some (.struct fs)=>Fw P L fs.toList 0 == some (P.cellsOf t)
 | some (.array n e)=>decide (e ∈ L) && P.cellsOf t == n * P.cellsOf e
 | _=>false
theorem Nz {P : Program} {L : List TypeId} : ∀ {fs : List Field} {off tot : Nat},Fw P L fs off=some tot→off≤tot
 | [],off,tot,h=>by simp [Fw] at h; omega
 | f :: r,off,tot,h=>by
  simp only [Fw] at h
  split at h
  ·have := Nz h; omega
  ·simp at h
theorem S9 {α : Type} {R : Nat→α→Prop} : ∀ (n : Nat),(∀ j,j < n → ∃ v,R j v) → ∃ vs : List α,vs.length=n ∧ ∀ (j : Nat) (v : α),vs[j]? = some v→R j v
 | 0,_=>⟨[],rfl,fun j v h=>by simp at h⟩
 | n + 1,h=>by
  obtain ⟨vs,h1,h2⟩:=S9 n fun j hj=>h j (by omega)
  obtain ⟨v,hv⟩:=h n (by omega)
  refine ⟨vs++[v],by simp [h1],fun j u hu=>?_⟩
  rw[List.getElem?_append] at hu
  split at hu
  ·exact h2 j u hu
  ·have : j=n:=by
    have := (List.getElem?_eq_some_iff.1 hu).1
    simp at this; omega
   subst this
   simp [h1] at hu
   subst hu
   exact hv
def topG (w : World) : Gh:={ W:=fun b _=>if b < w.heap.size then .imm else .none,A:=fun _=>(0,0) }
theorem uBT {w : World} {b o : Nat} (h : b < w.heap.size) : (topG w).S b o:=by
 show (if b < w.heap.size then Who.imm else Who.none)=_
 rw[if_pos h]
section
variable {H : Type} {enc : TypeId × Value→H} {P : Program} {L : List TypeId} {w : World}
theorem Gu {α β : Type} {f : α→Option β} {l : List α} {r : List β} (h : l.mapM f=some r) {i : Nat} {x : α} (hx : l[i]? = some x) : ∃ y,f x=some y∧r[i]? = some y:=by
 have h1:=Go.mapM_some_get h i x hx
 have h2:=Go.mapM_some_length h
 have hi : i < r.length:=by rw[h2]; exact (List.getElem?_eq_some_iff.1 hx).1
 exact ⟨r[i],by rw[h1,List.getElem?_eq_getElem hi],List.getElem?_eq_getElem hi⟩
theorem Oz {a : Addr} {n : Nat} {vs : List Value} (h : w.cells? 0 a n=some vs) : vs.length=n ∧ ∀ (j : Nat) (v : Value),vs[j]? = some v→w.cell? (a.add j)=some v:=by
 simp only [World.cells?,Nat.zero_le,if_true] at h
 have hl:=Go.mapM_some_length h
 simp only [List.length_range] at hl
 refine ⟨hl,fun j v hv=>?_⟩
 have hj : j < n:=by rw[← hl]; exact (List.getElem?_eq_some_iff.1 hv).1
 have := Go.mapM_some_get h j j (by simp [hj])
 rw[this]; exact hv
theorem uAX (b o x y : Nat) : ((⟨b,o,none⟩ : Addr).add x).add y=⟨b,o + x + y,none⟩:=by
 rw[Q1,Q1]
theorem CRep.mk_any {S : Nat→Nat→Prop} {sz : Nat} {es : List (List C)} {a : Addr} {len cap : Nat} (hl : es.length=len) (hc : len≤cap) (hm : len≤9223372036854775807) (hs : cap≠0→a.spot=none)
  (h : ∀ (i : Nat) (row : List C),es[i]? = some row→row.length=sz∧RowAt w S a.block (a.off + i * sz) row) : CRep w S (.sl sz es) (.slice (some a) len cap):=by
 by_cases h0 : cap=0
 ·subst h0
  have : len=0:=by omega
  subst this
  have : es=[]:=List.eq_nil_of_length_eq_zero hl
  subst this
  exact .emp sz _
 ·obtain ⟨b,o,sp⟩:=a
  have := hs h0
  simp only at this
  subst this
  exact CRep.mk_sl hl hc hm h
end
end Go.Abs
namespace Go.Abs
open Go.RowKit (Below)
section
variable {H : Type} {enc : TypeId × Value→H} {P : Program} {L : List TypeId} {w : World}
def rowD : TypeDesc→Bool
 | .struct _ | .array _ _=>true
 | _=>false
theorem Tq {t : TypeId} {v : Value} {r : Reach} {base : Nat} {d : TypeDesc} (hd : P.underlying t=some d) (hp : rowD d=true) (h : Value.okWide P w r base t v) : ∃ cs,v = .agg cs:=by
 cases d <;> simp [rowD] at hp <;> simp only [Value.okWide,hd] at h <;> obtain ⟨cs,rfl,_⟩:=h <;> exact ⟨cs,rfl⟩
end
theorem We {Z : Pg} {f : FuncId} {xs : List X} {res : Value} {x : X} (hres : ∀ (w : World) (G : Gh) (v : Value),XRep w G x v→v=res) (hc : Ctr Z f xs [] x none []) {W : World} {vs : List Value} (h : All2 (XRep W (topG W)) xs vs) (hg : ∀ g ∈ Z.gv,g.1 < W.heap.size∧g.2 W.heap[g.1]?) :
  Calls Z.P f vs.toArray W fun e w'=>e = .returned res∧Below W.heap.size W w':=by
 have hno : ∀ b o,¬ ∃ n,(topG W).W b o = .box n:=by
  intro b o ⟨n,hn⟩
  simp only [topG] at hn
  split at hn <;> simp at hn
 have hno2 : ∀ b o p,(topG W).W b o ≠ .own p:=by
  intro b o p hp
  simp only [topG] at hp
  split at hp <;> simp at hp
 refine (hc.2 W (topG W) vs h (fun b o hb=>?_) (fun j cs hj=>by simp at hj) (fun b o n hn=>absurd ⟨n,hn⟩ (hno b o)) (fun b o p hp=>?_) (fun g q=>⟨(hg g q).1,(hg g q).2,fun o n hn=>hno g.1 o ⟨n,hn⟩,hno2 g.1⟩)).mono ?_
 ·simp only [topG] at hb
  split at hb
  ·assumption
  ·simp at hb
 ·simp only [topG] at hp
  split at hp <;> simp at hp
 ·rintro e w' ⟨v,G',rfl,hf,_,_,_,hv,_⟩
  refine ⟨by rw[hres _ _ _ hv],hf.os,hf.tape,hf.output,hf.size,fun k hk=>hf.block k hk fun o ho=>hno k o ho⟩
theorem Sn {Z : Pg} {f : FuncId} {xs : List X} (hc : Ctr Z f xs [] (.v (.c (.b true))) none []) {W : World} {vs : List Value} (h : All2 (XRep W (topG W)) xs vs) (hg : ∀ g ∈ Z.gv,g.1 < W.heap.size∧g.2 W.heap[g.1]? := by intro g hg; exact absurd hg (List.not_mem_nil)) :
  Calls Z.P f vs.toArray W fun e w'=>e = .returned (.bool true)∧Below W.heap.size W w' :=
 We (fun _ _ _ h=>XRep.bool h) hc h hg
end Go.Abs
namespace Go.Abs
variable {Z : Pg} {st : St} {ty : TypeId} {gate : Bool}
theorem uAW (st : St) (d : Nat) (gate : Bool) (x : X) (sz : Nat) : Sub (st.put d (gate,x)) (st.ret d gate x (some sz)):=by
 cases gate with
 | false=>exact Sub.refl _
 | true =>
  refine ⟨fun _ _ h=>h,fun _ _ h=>h,fun p s h=>?_, .inr J⟩
  show ((st.put d (true,x)).addOwn (.t d) sz).own p=some s
  rw[St.addOwn_own]
  split
  ·rename_i he
   subst he
   rw[St.put_own,if_pos J] at h
   simp at h
  ·exact h
theorem Hy {N : Nat} {ops : Array Oper} {rest : List Oper} {K : St→Prop} {o : Oper} {g : Bool} {d : Nat} {t : TypeId} {len : Nat} {parts : Array (Nat × Operand)} {xs : List Operand} {ti : TyI} {e sz by' : Nat} {rs : List (List C)}
  (ho : o.op = .buildSlice t len parts) (hg : G8 ops st o=some gate) (hd : o.dst=some d) (hN : Nat.ble (d + 1) N=true) (ht : tyAt Z.T t=some ti) (hel : ti.el=some (e,sz,by')) (hp : parts.toList=Ec 0 xs) (hx : Nat.beq xs.length len=true)
  (hrs : R9 Z.T st e sz xs=some (g,rs)) (hga : gate=true→g=true) (hbig : Nat.ble (len * sz) 10000=true)
  (h : AL Z N ops rest K (st.put d (gate, .v (.c (.sl sz rs))))) : AL Z N ops (o :: rest) K st :=
 U7 ((X2 ho hg hd hN ht hel hp hx hrs hga hbig).sub (uAW _ _ _ _ _)) h
theorem E7 {s0 : St} {N : Nat} {ops : Array Oper} {B : List Nat} {k : Nat} {rest : List Oper} {acc : List Lnk} {o : Oper} {Q : St→Prop} {d : Nat} {g gf : Bool} {fo : Operand} {args : Array Operand} {ts : Array TypeId} {f : FuncId} {caps : List Y} {xs : List X} {res : X} (hk : ops[k]? = some o)
  (ho : o.op = .call { callee:=.value fo,args:=args,argTypes:=ts }) (hg : G8 ops (rs (foot ops o [] []) st) o=some gate) (hd : o.dst=some d) (hN : Nat.ble (d + 1) N=true)
  (hf : lk Z.T (rs (foot ops o [] []) st) 0 fo=some (gf, .fn f caps)) (ha : M2 Z.T (rs (foot ops o [] []) st) ts.toList args.toList=some (g,xs)) (hgf : gate=true→gf=true) (hga : gate=true→g=true)
  (hs : Ctr Z f (xs++caps.map .v) [] res none []) (hc : res.clean=true)
  (hr : Draw Z N s0 ops B (k + 1) rest (acc++[(k,{ d:=some (d,gate,res),drop:=[.t d] },foot ops o [] [])]) (ap { d:=some (d,gate,res),drop:=[.t d] } st) Q) :
  Draw Z N s0 ops B k (o :: rest) acc st Q:=Q3 hk (by
   have h:=uAZ (R:=foot ops o [] []) ho hg hd hN hf ha hgf hga hs hc
   rw[show cond gate (Option.map (fun sz=>(Pl.t d,sz)) none) none=none from by cases gate <;> rfl] at h
   exact h) hr
end Go.Abs
namespace Go.Abs
variable {Z : Pg}
def St.boxes2 (st : St) (n' n : Nm) (cs : List C) : St:={ st with bx:=(n',cs) :: (n,[]) :: st.bx }
theorem St.boxes2_box (st : St) (n' n : Nm) (cs : List C) (m : Nm) : (st.boxes2 n' n cs).box m=if n'=m then some cs else if n=m then some [] else st.box m:=by
 show getB ((n',cs) :: (n,[]) :: st.bx) m=_
 rw[G6,G6]; rfl
theorem Rel.intoBox {E : Env} {G : Gh} {st : St} {a : Act} {w w1 : World} (h : Rel E G st a w) {n' n : Nm} {p : Pl} {blk L : Nat} {cs : List C} (hloc : ∃ j,n' = .l j) (hnl : ∃ j,n = .l j)
  (hfr : FreshG st (n',true)) (hfo : FreshG st (n,false)) (hF : ∀ o,o < L→G.W blk o = .box n∨G.W blk o = .own p)
  (h1 : w1.os=w.os) (h2 : w1.tape=w.tape) (h3 : w1.output=w.output) (h4 : w1.heap.size=w.heap.size) (h5 : ∀ b,(∀ o,¬ (b=blk∧o < L∧G.W b o = .own p))→w1.heap[b]? = w.heap[b]?)
  (h6 : ∀ b o,¬ (b=blk∧o < L∧G.W b o = .own p)→w1.cell? ⟨b,o,none⟩=w.cell? ⟨b,o,none⟩) (h8 : ∀ b,L0 w1 b=L0 w b) (h9 : ∀ b,w1.shape? b=w.shape? b) (hold : E.D=0)
  (hcs : ∀ (j : Nat) (c : C),cs[j]? = some c→j < L∧w.frozen? ⟨blk,j,none⟩=false ∧ ∃ v,w1.cell? ⟨blk,j,none⟩=some v∧CRep w G.S c v) :
  Rel E { W:=fun b o=>if b=blk∧o < L then .box n' else G.W b o,A:=fun m=>if m=n' then (blk,0) else G.A m } ((st.unown p).boxes2 n' n cs) a w1:=by
 have hS : ∀ b o,G.S b o→Gh.S { W:=fun b o=>if b=blk∧o < L then .box n' else G.W b o,A:=fun m=>if m=n' then (blk,0) else G.A m } b o:=fun b o hs=>by
  unfold Gh.S at *
  dsimp only
  rw[if_neg (by rintro ⟨rfl,ho⟩; rcases hF o ho with e | e <;> rw[e] at hs <;> simp at hs)]
  exact hs
 have hcell : ∀ b o,G.W b o ≠ .own p→w1.cell? ⟨b,o,none⟩=w.cell? ⟨b,o,none⟩:=fun b o hne=>h6 b o fun hh=>hne hh.2.2
 have hc : ∀ b o,G.S b o→w1.cell? ⟨b,o,none⟩=w.cell? ⟨b,o,none⟩:=fun b o hs=>hcell b o (by unfold Gh.S at hs; rw[hs]; simp)
 constructor
 ·exact h.df
 ·intro k g x hk
  obtain ⟨u,hu,q1,q2⟩:=h.tm k g x hk
  refine ⟨u,hu,fun hg=>(q1 hg).mono hS hc (fun m hm=>?_),q2⟩
  have : m≠n' := fun e=>by subst e; have := hfr.1 J k g x hk; rw[hm] at this; simp at this
  simp [this]
 ·intro m ds hm j c hj
  rw[St.boxes2_box] at hm
  split at hm
  ·rename_i he; subst he
   simp only [Option.some.injEq] at hm; subst hm
   obtain ⟨q1,q2,v,q3,q4⟩:=hcs j c hj
   dsimp only
   rw[if_pos J]
   dsimp only
   rw[Nat.zero_add,if_pos ⟨rfl,q1⟩]
   exact ⟨rfl,by rw[O5 (h8 _)]; exact q2,v,q3,q4.mono hS hc⟩
  ·rename_i hne
   split at hm
   ·simp only [Option.some.injEq] at hm; subst hm; simp at hj
   ·rename_i hne2
    obtain ⟨q1,q2,u,q3,q4⟩:=h.bx m ds hm j c hj
    have hne' : ¬ m=n':=fun e=>hne e.symm
    dsimp only
    rw[if_neg hne']
    refine ⟨?_,by rw[O5 (h8 _)]; exact q2,u,by rw[hcell _ _ (by rw[q1]; simp)]; exact q3,q4.mono hS hc⟩
    rw[if_neg]
    ·exact q1
    ·rintro ⟨e1,ho⟩
     rcases hF _ ho with e | e <;> rw[← e1,q1] at e
     ·injection e with e; exact hne2 e.symm
     ·simp at e
 ·intro r s hr
  have hr2 : (st.unown p).own r=some s:=hr
  rw[St.unown_own] at hr2
  split at hr2
  ·simp at hr2
  ·rename_i hrp
   obtain ⟨u,hu,ho⟩:=h.ow r s hr2
   refine ⟨u,?_,?_⟩
   ·cases r with
    | t k=>exact hu
    | b m off =>
     have hm1 : ¬ m=n':=fun e=>by
      have := hfr.2 _ _ hr2; subst e; simp [Pl.inBox,Nm.beq_self] at this
     have hm2 : ¬ m=n:=fun e=>by
      have := hfo.2 _ _ hr2; subst e; simp [Pl.inBox,Nm.beq_self] at this
     refine ⟨?_,?_⟩
     ·dsimp only; rw[if_neg hm1,hcell _ _ (by rw[hu.2]; simp)]; exact hu.1
     ·dsimp only
      rw[if_neg hm1,if_neg]
      ·exact hu.2
      ·rintro ⟨e1,ho'⟩
       rcases hF _ ho' with e | e <;> rw[← e1,hu.2] at e
       ·injection e with e; exact hm2 e
       ·simp at e
   ·rcases ho with ho | ⟨b2,len,cap,e,q1,q2,q3,q4⟩
    ·exact .inl ho
    ·refine .inr ⟨b2,len,cap,e,q1,q2,⟨by rw[h9]; exact q3.1,by rw[h8]; exact q3.2⟩,fun o ho1 ho2=>?_⟩
     obtain ⟨q5,q6⟩:=q4 o ho1 ho2
     refine ⟨?_,by rw[O5 (h8 _)]; exact q6⟩
     dsimp only
     rw[if_neg]
     ·exact q5
     ·rintro ⟨e1,ho'⟩
      rcases hF _ ho' with e | e <;> rw[← e1,q5] at e
      ·simp at e
      ·injection e with e; exact hrp e
 ·intro b o hb
  rw[h4]
  dsimp only at hb
  split at hb
  ·rename_i hf
   obtain ⟨rfl,ho⟩:=hf
   refine h.wf b o ?_
   rcases hF o ho with e | e <;> rw[e] <;> simp
  ·exact h.wf b o hb
 ·intro b o m hb hn
  dsimp only at hn
  split at hn
  ·rename_i hf
   obtain ⟨rfl,ho⟩:=hf
   rcases hF o ho with e | e
   ·exact h.olB b o _ hb e
   ·exact .inr (h.olO b o _ hb e)
  ·exact h.olB b o m hb hn
 ·intro b o q hb hn
  dsimp only at hn
  split at hn
  ·simp at hn
  ·exact h.olO b o q hb hn
 ·exact h.nt
 ·intro j
  dsimp only
  rw[if_neg (by obtain ⟨m',rfl⟩:=hloc; simp)]
  exact h.oA j
 ·intro b o hi
  exact hS b o (h.im b o hi)
 ·intro b o hb hi
  dsimp only at hi
  split at hi
  ·simp at hi
  ·exact h.im' b o hb hi
 ·refine h.fr.trans ⟨h1,h2,h3,by rw[h4]; exact Nat.le_refl _,?_,?_,fun b _=>h8 _,fun b _=>h9 _⟩
  ·intro b hb hM
   refine h5 b fun o hf=>hM o (.inr ?_)
   exact h.olO b o p hb hf.2.2
  ·intro b o hb hM
   refine h6 b o fun hf=>hM (.inr ?_)
   exact h.olO b o p hb hf.2.2
 ·exact h.hB
 ·intro b o hb
  dsimp only
  split
  ·rename_i hf
   obtain ⟨rfl,ho⟩:=hf
   exfalso
   rcases hF o ho with e | e
   ·obtain ⟨m,rfl⟩:=hnl
    obtain ⟨j,hj⟩:=(h.lo b o hb).1 _ e
    simp at hj
   ·exact (h.lo b o hb).2 (by rw[E.C_new hold]; exact hb) _ e
  ·exact h.lo b o hb
 ·intro t k ds hm hne
  obtain ⟨m',rfl⟩:=hloc
  obtain ⟨m,rfl⟩:=hnl
  rw[St.boxes2_box,if_neg (by simp),if_neg (by simp)] at hm
  obtain ⟨q1,q2,x,q3,q4⟩:=h.bd t k ds hm hne
  obtain ⟨c0,hc0⟩ : ∃ c0,ds[0]? = some c0:=by
   cases ds with
   | nil=>exact absurd J hne
   | cons c0 r=>exact ⟨c0,rfl⟩
  obtain ⟨r1,_⟩:=h.bx _ ds hm 0 c0 hc0
  rw[q1] at r1
  dsimp only
  rw[if_neg (by simp),h9,hcell _ _ (by rw[r1]; simp)]
  exact ⟨q1,q2,x,q3,q4⟩
 ·intro x hx
  obtain ⟨q1,q2,q3⟩:=h.mp x hx
  have hne : ∀ o,¬ (x.1=blk∧o < L):=fun o ⟨e,ho⟩=>by
   rcases hF o ho with q | q
   ·exact (q3 o).1 n (by rw[e]; exact q)
   ·exact (q3 o).2 p (by rw[e]; exact q)
  refine ⟨q1.of_same (h5 _ fun o hh=>hne o ⟨hh.1,hh.2.1⟩),q2,fun o=>?_⟩
  dsimp only
  rw[if_neg (hne o)]
  exact q3 o
theorem Rel.emptyBox {E : Env} {G : Gh} {st : St} {a : Act} {w : World} (h : Rel E G st a w) (n : Nm) : Rel E G { st with bx:=(n,[]) :: st.bx } a w where
 df:=h.df
 tm:=h.tm
 bx:=by
  intro m cs hm
  have : St.box { st with bx:=(n,[]) :: st.bx } m=if n=m then some [] else st.box m:=G6 _ _ _ _
  rw[this] at hm
  split at hm
  ·simp only [Option.some.injEq] at hm; subst hm; intro j c hj; simp at hj
  ·exact h.bx m cs hm
 ow:=h.ow
 wf:=h.wf
 olB:=h.olB
 olO:=h.olO
 nt:=h.nt
 oA:=h.oA
 im:=h.im
 im':=h.im'
 fr:=h.fr
 hB:=h.hB
 lo:=h.lo
 bd:=by
  intro t k ds hm hne
  have hm2 : getB ((n,[]) :: st.bx) (.bd t k)=some ds:=hm
  rw[G6] at hm2
  split at hm2
  ·simp only [Option.some.injEq] at hm2; exact absurd hm2.symm hne
  ·exact h.bd t k ds hm2 hne
 mp:=h.mp
theorem Rel.newMs {E : Env} {G : Gh} {st : St} {a : Act} {w : World} (h : Rel E G st a w) (p : Pl) {j' : Nat} (hfr : FreshG st (.l j',true)) {cells : Array Value} {e : TypeId} (hpe : ∀ t k o,p = .b (.bd t k) o→e=t % 4096) {sz len cap : Nat} {cs : List C} (hc : len≤cap) (hsz : cells.size=cap * sz) (hl : cs.length=len * sz)
  (hrep : ∀ (j : Nat) (c : C),cs[j]? = some c → ∃ v,cells[j]? = some v∧CRep w G.S c v) :
  ∃ G1,Rel E G1 ((st.unown p).addBox (.l j') cs) a (w.drew.alloc (.cells cells e))∧G1.A (.l j')=(w.heap.size,0)∧OwnAt E.C (w.drew.alloc (.cells cells e)) G1 p sz (.slice (some ⟨w.heap.size,0,none⟩) len cap):=by
 let f : Nat→Who:=fun o=>if o < len * sz then .box (.l j') else if o < cap * sz then .own p else .none
 have hfr' : Fr (fun _ _=>False) w.heap.size w (w.drew.alloc (.cells cells e)):=by
  have h1:=Bt w.drew (.cells cells e)
  exact ⟨h1.os,h1.tape,h1.output,h1.size,h1.block,h1.cell,h1.mark,h1.shape⟩
 refine ⟨(G.push w.heap.size f).name (.l j') (w.heap.size,0),?_,by simp [Gh.name],?_⟩
 ·refine Rel.addBox ?_ ?_ J
  ·refine ((h.sub (st.unown_sub p)).sub (St.drop_sub _ (.l j'))).grow hfr' ?_ (St.drop_same (st:=st.unown p) J (fun k g x hk=>hfr.1 J k g x hk) _ _) ?_
   ·intro b o hb
    have : ¬ b=w.heap.size:=by omega
    simp [Gh.name,Gh.push,this]
   ·intro b o hne
    simp only [Gh.name,Gh.push] at hne
    split at hne
    ·rename_i hb; subst hb; simp
    ·have := h.wf b o hne; simp; omega
  ·intro j c hj
   have hjl : j < len * sz:=by rw[← hl]; exact (List.getElem?_eq_some_iff.1 hj).1
   obtain ⟨v,hv',hr⟩:=hrep j c hj
   refine ⟨by simp [Gh.name,Gh.push,f,hjl],by simp only [Gh.name,if_true]; exact World.frozen?_alloc_new w.drew cells e _,v,?_,?_⟩
   ·simp only [Gh.name,if_true]
    rw[Nat.zero_add]
    exact (World.cell?_alloc_new w.drew cells e j).trans hv'
   ·refine hr.mono ?_ ?_
    ·intro b o hs
     have hb:=h.wf b o (by unfold Gh.S at hs; rw[hs]; simp)
     have : ¬ b=w.heap.size:=by omega
     simpa [Gh.S,Gh.name,Gh.push,this] using hs
    ·intro b o hs
     have hb:=h.wf b o (by unfold Gh.S at hs; rw[hs]; simp)
     exact hfr'.cell b o hb (fun x=>x)
 ·refine .inr ⟨w.heap.size,len,cap,e,rfl,⟨hc,Nat.le_trans E.C_le (Nat.le_trans h.hB h.fr.size),hpe⟩,⟨?_,Fa w.drew cells e _⟩,fun o' h1 h2=>?_⟩
  ·unfold World.shape?
   rw[show (w.drew.alloc (.cells cells e)).heap[w.heap.size]? = some (.cells cells e) from Array.getElem?_push_size]
   simp [hsz]
  ·have hn : ¬ o' < len * sz:=by omega
   exact ⟨by simp [Gh.name,Gh.push,f,hn,h2],World.frozen?_alloc_new w.drew cells e o'⟩
theorem Jc {sz : Nat} : ∀ {xs : List (List C)} {m : Nat} {c : C},(∀ (i : Nat) (row : List C),xs[i]? = some row→row.length=sz)→xs.flatten[m]? = some c →
  ∃ (i j : Nat) (row : List C),m=i * sz + j∧j < sz∧xs[i]? = some row∧row[j]? = some c
 | [],m,c,_,h=>by simp at h
 | r :: xs,m,c,hr,h=>by
  have h0 : r.length=sz:=hr 0 r J
  rw[List.flatten_cons,List.getElem?_append] at h
  split at h
  ·rename_i hm
   exact ⟨0,m,r,by simp,by omega,rfl,h⟩
  ·rename_i hm
   obtain ⟨i,j,row,e,hj,h1,h2⟩:=Jc (xs:=xs) (fun i row hi=>hr (i + 1) row (by simpa using hi)) h
   exact ⟨i + 1,j,row,by rw[Nat.succ_mul]; omega,hj,by simpa using h1,h2⟩
theorem Dt {sz : Nat} : ∀ {xs : List (List C)},(∀ (i : Nat) (row : List C),xs[i]? = some row→row.length=sz)→xs.flatten.length=xs.length * sz
 | [],_=>by simp
 | r :: xs,hr=>by
  have h0 : r.length=sz:=hr 0 r J
  rw[List.flatten_cons,List.length_append,Dt (xs:=xs) (fun i row hi=>hr (i + 1) row (by simpa using hi)),List.length_cons,Nat.succ_mul]; omega
theorem Xj {E : Env} {G : Gh} {st : St} {a : Act} {w : World} (hr : Rel E G st a w) (hold : E.D=0) {p : Pl} {j' : Nat} {n : Nm} {sz e by' L : Nat} {cs : List C} {xs : List (List C)} {v' xv : Value} {t ty : TypeId} {jf : TypeInfo} {ze : Value}
  (hu : Z.P.underlying t=some (.slice e)) (hinfo : Z.P.info? e=some jf) (hsz : jf.size=sz) (hby : jf.bytes=by') (hsz0 : sz≠0) (hze : jf.zero=some ze) (hzec : ze.cells.size=sz)
  (hown : OwnAt E.C w G p sz v') (hnlo : ∃ j,n = .l j) (hfr : FreshG st (.l j',true)) (hfo : FreshG st (n,false))
  (hv : (v' = .slice none 0 0∧L=0∧cs=[]) ∨ ∃ blk cap,v' = .slice (some ⟨blk,0,none⟩) L cap ∧ ∀ (j : Nat) (c : C),cs[j]? = some c→G.W blk j = .box n∧w.frozen? ⟨blk,j,none⟩=false ∧ ∃ v,w.cell? ⟨blk,j,none⟩=some v∧CRep w G.S c v)
  (hcl : cs.length=L * sz) (hxr : CRep w G.S (.sl sz xs) xv) (hx1 : 1≤xs.length) (hbig : (L + xs.length) * by'≤140737488355328) (hmax : L + xs.length≤9223372036854775807) (hpe : ∀ t k o,p = .b (.bd t k) o→e=t % 4096:=by intro _ _ _ hh; simp at hh) :
  ∃ G1 w1 u cap',(Builtin.append_ #[t,t] ty #[v',xv]).run Z.P w = .ok u w1∧Rel E G1 ((st.unown p).boxes2 (.l j') n (cs++xs.flatten)) a w1 ∧
   u = .slice (some ⟨(G1.A (.l j')).1,(G1.A (.l j')).2 + 0,none⟩) (L + xs.length) cap'∧L + xs.length≤cap'∧OwnAt E.C w1 G1 p sz u:=by
 rcases CRep.sl_cases hxr with ⟨xa,hxv,rfl⟩ | ⟨xb,xo,m,mc,hxv,hxl⟩
 ·simp at hx1
 rw[hxv] at hxr
 obtain ⟨news,hnl,hncell,hnone,hnrep⟩:=Cx hxr
 subst hxl
 have hrow : ∀ (i : Nat) (row : List C),xs[i]? = some row→row.length=sz:=fun i row hi=>(hxr.elem.2.2.2 i row hi).1
 have hfl:=Dt hrow
 have hnew : ∀ (j : Nat) (c : C),xs.flatten[j]? = some c → ∃ v,news[j]? = some v∧CRep w G.S c v:=by
  intro j c hj
  obtain ⟨i,k,row,rfl,hk,h1,h2⟩:=Jc hrow hj
  exact hnrep i k row c h1 h2
 have grow : ∀ (olds : List Value) (cap : Nat),olds.length=L * sz→(∀ (j : Nat) (c : C),cs[j]? = some c → ∃ v,olds[j]? = some v∧CRep w G.S c v)→L + xs.length≤cap →
   ∃ G1,Rel E G1 ((st.unown p).boxes2 (.l j') n (cs++xs.flatten)) a (w.drew.alloc (.cells (olds.toArray++news.toArray++Builtin.zeroCells ze.cells (cap - (L + xs.length))) e)) ∧
    G1.A (.l j')=(w.heap.size,0)∧OwnAt E.C (w.drew.alloc (.cells (olds.toArray++news.toArray++Builtin.zeroCells ze.cells (cap - (L + xs.length))) e)) G1 p sz (.slice (some ⟨w.heap.size,0,none⟩) (L + xs.length) cap):=by
  intro olds cap hol horep hge
  obtain ⟨G1,q1,q2,q3⟩:=hr.newMs p hfr (e:=e) hpe (sz:=sz) (len:=L + xs.length) (cap:=cap) (cs:=cs++xs.flatten) (cells:=olds.toArray++news.toArray++Builtin.zeroCells ze.cells (cap - (L + xs.length))) hge
   (by simp only [Array.size_append,List.size_toArray,size_zeroCells,hzec,hnl,hol,← Nat.add_mul]; congr 1; omega) (by rw[List.length_append,hcl,hfl,Nat.add_mul]) (fun j c hj=>by
    rw[List.getElem?_append] at hj
    split at hj
    ·obtain ⟨v,h1,h2⟩:=horep j c hj
     have hlt:=(List.getElem?_eq_some_iff.1 h1).1
     refine ⟨v,?_,h2⟩
     rw[Array.getElem?_append_left (by simp; omega),Array.getElem?_append_left (by simpa using hlt)]
     simpa using h1
    ·rename_i hge2
     obtain ⟨v,h1,h2⟩:=hnew _ c hj
     have hlt:=(List.getElem?_eq_some_iff.1 h1).1
     refine ⟨v,?_,h2⟩
     rw[Array.getElem?_append_left (by simp; omega),Array.getElem?_append_right (by simp; omega)]
     have : j - olds.toArray.size=j - cs.length:=by simp [hol,hcl]
     rw[this]
     simpa using h1)
  refine ⟨G1,?_,q2,q3⟩
  by_cases hnn : n = .l j'
  ·refine Rel.sub (st:=(st.unown p).addBox (.l j') (cs++xs.flatten)) (st':=(st.unown p).boxes2 (.l j') n (cs++xs.flatten)) ⟨fun k e hk=>hk,fun m ds hm=>?_,fun q s hq=>?_, .inr J⟩ q1
   ·rw[St.boxes2_box] at hm
    have hb : ((st.unown p).addBox (.l j') (cs++xs.flatten)).box m=if Nm.l j'=m then some (cs++xs.flatten) else ((st.unown p).drop (.l j')).box m:=G6 _ _ _ _
    rw[hb]
    split at hm
    ·rename_i he; rw[if_pos he]; exact hm
    ·rename_i he
     rw[hnn,if_neg he] at hm
     rw[if_neg he,St.drop_box,if_neg (fun e=>he e.symm)]; exact hm
   ·show ((st.unown p).drop (.l j')).own q=_
    rw[St.drop_own]
    have hq' : (st.unown p).own q=some s:=hq
    have hq2:=hq'
    rw[St.unown_own] at hq2
    split at hq2
    ·simp at hq2
    ·rw[if_neg (by rw[hfr.2 _ _ hq2]; simp)]; exact hq'
  ·refine Rel.sub (st:={ (st.unown p).addBox (.l j') (cs++xs.flatten) with bx:=(n,[]) :: ((st.unown p).addBox (.l j') (cs++xs.flatten)).bx }) (st':=(st.unown p).boxes2 (.l j') n (cs++xs.flatten)) ⟨fun k e hk=>hk,fun m ds hm=>?_,fun q s hq=>?_, .inr J⟩ (q1.emptyBox n)
   ·rw[St.boxes2_box] at hm
    show getB ((n,[]) :: (Nm.l j',cs++xs.flatten) :: _) m=_
    rw[G6,G6]
    split at hm
    ·rename_i he
     subst he
     rw[if_neg hnn,if_pos J]; exact hm
    ·rename_i he
     split at hm
     ·rename_i he2; rw[if_pos he2]; exact hm
     ·rename_i he2
      rw[if_neg he2,if_neg he]
      show ((st.unown p).drop (.l j')).box m=_
      rw[St.drop_box,if_neg (fun e=>he e.symm)]; exact hm
   ·show ((st.unown p).drop (.l j')).own q=_
    rw[St.drop_own]
    have hq' : (st.unown p).own q=some s:=hq
    have hq2:=hq'
    rw[St.unown_own] at hq2
    split at hq2
    ·simp at hq2
    ·rw[if_neg (by rw[hfr.2 _ _ hq2]; simp)]; exact hq'
 rcases hv with ⟨hvn,hL,hcs⟩ | ⟨blk,cap,hvs,hbox⟩
 ·subst hvn; subst hL; subst hcs
  have hrun:=run_append_nil (P:=Z.P) w t ty e jf ze hu hinfo hze ⟨xb,xo,none⟩ xs.length mc news (by rw[hnl,hsz]) hncell (by omega) (by omega) (by rw[hby]; simp only [Nat.zero_add] at hbig; omega)
  have hge:=grownCap_ge w xs.length 0 e
  obtain ⟨G1,q1,q2,q3⟩:=grow [] (grownCap w xs.length 0 e) (by simp) (fun j c hj=>by simp at hj) (by omega)
  rw[Nat.zero_add] at q1 q3 ⊢
  refine ⟨G1,_,_,_,by rw[hxv]; exact hrun,by simpa using q1,?_,hge,by simpa using q3⟩
  rw[q2]
 ·subst hvs
  rcases hown with ha0 | ⟨blk2,len2,cap2,e2,hv2,hlc2,⟨hshape,hfr0⟩,hspare⟩
  ·simp at ha0
  simp only [Value.slice.injEq,Option.some.injEq,Addr.mk.injEq] at hv2
  obtain ⟨⟨rfl,_⟩,rfl,rfl⟩:=hv2
  by_cases hroom : L + xs.length≤cap
  ·have hfit : (L + xs.length) * sz≤cap * sz:=Nat.mul_le_mul_right _ hroom
   rw[Nat.add_mul] at hfit
   have hsome : ∀ j,j < news.length→(w.cell? ⟨blk,L * sz + j,none⟩).isSome=true:=by
    intro j hj
    unfold World.shape? at hshape
    unfold World.cell?
    split at hshape
    ·rename_i c e3 fz hheap
     simp only [Option.some.injEq,Prod.mk.injEq] at hshape
     obtain ⟨_,hcs⟩:=hshape
     simp only [hheap]
     simp
     omega
    ·simp at hshape
   have hst:=run_storeCells_cells (P:=Z.P) blk (L * sz) news 0 w (by simpa using hsome) (fun j hj=>by
    simpa using (hspare (L * sz + j) (by omega) (by omega)).2) hnone
   rw[Nat.add_zero] at hst
   obtain ⟨f1,f2,f3,f4,f5,f6,f7,f8,f9⟩:=X0 blk news (L * sz) w hsome
   have hrun : (Builtin.append_ #[t,t] ty #[.slice (some ⟨blk,0,none⟩) L cap, .slice (some ⟨xb,xo,none⟩) xs.length mc]).run Z.P w = .ok (.slice (some ⟨blk,0,none⟩) (L + xs.length) cap) (w.setCells blk (L * sz) news):=by
    have hf:=run_firstCells_some (P:=Z.P) w sz xs.length ⟨xb,xo,none⟩ xs.length mc news hnl hncell
    simp [Builtin.append_,run_underlying hu,sizeOf,typeInfo,hinfo,hsz,Builtin.lenOf,hroom,hf,Q1,hst]
   have hF : ∀ o,o < (L + xs.length) * sz→G.W blk o = .box n∨G.W blk o = .own p:=by
    intro o ho
    rw[Nat.add_mul] at ho
    by_cases hol : o < L * sz
    ·exact .inl (hbox o _ (List.getElem?_eq_getElem (by omega))).1
    ·exact .inr (hspare o (by omega) (by omega)).1
   have hrange : ∀ b o,¬ (b=blk∧o < (L + xs.length) * sz∧G.W b o = .own p) → ¬ (b=blk∧L * sz≤o∧o < L * sz + news.length):=by
    rintro b o hn ⟨rfl,h1,h2⟩
    exact hn ⟨rfl,by rw[Nat.add_mul]; omega,(hspare o h1 (by omega)).1⟩
   have hrel:=hr.intoBox (n':=.l j') (n:=n) (p:=p) (blk:=blk) (L:=(L + xs.length) * sz) (cs:=cs++xs.flatten) (w1:=w.setCells blk (L * sz) news) ⟨_,rfl⟩ hnlo hfr hfo hF f1 f2 f3 f4 (fun b hb=>by
     by_cases hbb : b=blk
     ·subst hbb
      by_cases hz : news.length=0
      ·have hn0 : news=[]:=List.eq_nil_of_length_eq_zero hz
       rw[hn0]; rfl
      ·exact absurd ⟨rfl,Nat.le_refl _,by omega⟩ (hrange b (L * sz) (hb (L * sz)))
     ·exact f5 b hbb) (fun b o hb=>f6 b o (hrange b o hb)) f8 f9 hold (fun j c hj=>by
      rw[List.getElem?_append] at hj
      split at hj
      ·rename_i hlt
       obtain ⟨q1,q2,v,q3,q4⟩:=hbox j c hj
       refine ⟨by rw[Nat.add_mul]; omega,q2,v,?_,q4⟩
       rw[f6 blk j (by rintro ⟨_,h1,_⟩; omega)]; exact q3
      ·rename_i hge
       obtain ⟨v,h1,h2⟩:=hnew _ c hj
       have hlt:=(List.getElem?_eq_some_iff.1 h1).1
       have hj2 : j=L * sz + (j - cs.length):=by omega
       refine ⟨by rw[Nat.add_mul]; omega,(hspare j (by omega) (by omega)).2,v,?_,h2⟩
       rw[hj2]; exact f7 _ v h1)
   refine ⟨_,_,_,_,by rw[hxv]; exact hrun,hrel,?_,hroom, .inr ⟨blk,L + xs.length,cap,e2,rfl,⟨hroom,hlc2.2⟩,⟨by rw[f9]; exact hshape,by rw[f8]; exact Ih hfr0 (by rw[Nat.add_mul]; omega)⟩,fun o' h1 h2=>?_⟩⟩
   ·dsimp only; rw[if_pos J]
   ·have h1':=h1
    rw[Nat.add_mul] at h1
    obtain ⟨q5,q6⟩:=hspare o' (by omega) h2
    refine ⟨?_,by rw[O5 (f8 _)]; exact q6⟩
    dsimp only
    rw[if_neg (by rintro ⟨_,h3⟩; omega)]
    exact q5
  ·obtain ⟨olds,hol,hor⟩:=Al (R:=fun j v=>w.cell? ⟨blk,j,none⟩=some v ∧ ∃ c,cs[j]? = some c∧CRep w G.S c v) (L * sz) fun j hj=>by
    have hc:=List.getElem?_eq_getElem (l:=cs) (i:=j) (by omega)
    obtain ⟨_,_,v,q3,q4⟩:=hbox j _ hc
    exact ⟨v,q3,_,hc,q4⟩
   have hrun:=run_append_grow (P:=Z.P) w t ty e jf ze hu hinfo hze ⟨blk,0,none⟩ L cap olds (by rw[hol,hsz]) (fun j v hj=>by rw[Q1,Nat.zero_add]; exact (hor j v hj).1) ⟨xb,xo,none⟩ xs.length mc news (by rw[hnl,hsz]) hncell (by omega) (by omega) (growslice_fits (by omega) (by rw[hby]; exact hbig))
   have hge:=grownCap_ge w (L + xs.length) cap e
   obtain ⟨G1,q1,q2,q3⟩:=grow olds (grownCap w (L + xs.length) cap e) hol (fun j c hj=>by
    have hlt:=(List.getElem?_eq_some_iff.1 hj).1
    have hv:=List.getElem?_eq_getElem (l:=olds) (i:=j) (by omega)
    obtain ⟨_,c',h1,h2⟩:=hor j _ hv
    rw[hj] at h1; simp only [Option.some.injEq] at h1; subst h1
    exact ⟨_,hv,h2⟩) hge
   refine ⟨G1,_,_,_,by rw[hxv]; exact hrun,q1,?_,hge,q3⟩
   rw[q2]
section
variable {N : Nat} {st : St} {ty : TypeId}
def St.msApp (st : St) (d k j' : Nat) (n : Nm) (sz L : Nat) (cs : List C) : St:=(((st.unown (.t k)).boxes2 (.l j') n cs).put d (true, .v (.ms (.l j') sz 0 L))).addOwn (.t d) sz
theorem Td {d k j' : Nat} {x : Operand} {t : TypeId} {sz e by' L : Nat} {n : Nm} {cs : List C} {xs : List (List C)} {ti : TyI} {y : Y} (hs : st.get k=some (true, .v y)) (hw : st.own (.t k)=some sz)
  (hx : lk Z.T st t x=some (true, .v (.c (.sl sz xs)))) (ht : tyAt Z.T t=some ti) (hel : ti.el=some (e,sz,by')) (hN : Nat.ble (d + 1) N=true) (hkd : Nat.beq k d=false)
  (hnl : ∃ j,n = .l j) (hfr : FreshG st (.l j',true)) (hfo : FreshG st (n,false)) (hcl : cs.length=L * sz) (hx1 : 1≤xs.length) (hbig : (L + xs.length) * by'≤140737488355328) (hmax : L + xs.length≤9223372036854775807)
  (hy : ∀ (E : Env) (G : Gh) (a : Act) (w : World) (v' : Value),Rel E G st a w→YRep w G y v'→OwnAt E.C w G (.t k) sz v'→(v' = .slice none 0 0∧L=0∧cs=[]) ∨ ∃ blk cap,v' = .slice (some ⟨blk,0,none⟩) L cap ∧ ∀ (j : Nat) (c : C),cs[j]? = some c→G.W blk j = .box n∧w.frozen? ⟨blk,j,none⟩=false ∧ ∃ v,w.cell? ⟨blk,j,none⟩=some v∧CRep w G.S c v) (hz : Z.old=false:=by rfl) :
  Does Z N st (some d) (.call { callee:=.builtin .append,args:=#[.tmp k,x],argTypes:=#[t,t] }) ty (st.msApp d k j' n sz (L + xs.length) (cs++xs.flatten)):=by
 intro o E G a w hd ho _ hr hE K Q hK
 have hdN : d < E.nt:=by rw[hE.nt]; exact Nat.le_of_ble_eq_true hN
 have hkd' : ¬ d=k:=fun e=>by subst e; simp at hkd
 obtain ⟨hu,jf,ze,hinfo,hsz,hby,hsz0,hze,hzec⟩:=(Z.tyOk ht).sl e sz by' hel
 obtain ⟨v,hv,hv1,_⟩:=hr.tm k true _ hs
 obtain ⟨v',hv',hown⟩:=hr.ow _ _ hw
 have : v'=v:=by
  have hv2 : a.tmps[k]? = some v':=hv'
  rw[hv] at hv2; simpa using hv2.symm
 subst this
 have hxr : CRep w G.S (.sl sz xs) (a.eval x):=F4 hr hx J
 have hev : a.eval (.tmp k)=v':=by simp [Act.eval,Array.getD_eq_getD_getElem?,hv]
 have hexec : (execOp a.eval o).run Z.P w=((Builtin.append_ #[t,t] o.type #[v',a.eval x]).run Z.P w).andThen fun u w'=>.ok (.value u) w':=by
  simp [execOp,ho,Go.resolve,invoke,builtin,hev]
 obtain ⟨G1,w1,u,cap',hrun,hrel,hu1,hcap,ho'⟩:=Xj hr (hE.old hz) (p:=.t k) (ty:=o.type) hu hinfo hsz hby hsz0 hze hzec hown hnl hfr hfo (hy E G a w v' hr (hv1 rfl) hown) hcl hxr hx1 hbig hmax
 unfold Oper.wp
 rw[hexec,hrun]
 simp only [Result.andThen_ok]
 rw[Oper.upon_value,hd]
 have hput:=hrel.put hdN (g:=true) (x:=.v (.ms (.l j') sz 0 (L + xs.length))) (v:=u) (fun _=>.inr ⟨cap',hcap,hu1⟩) (fun hf=>by simp at hf)
 have := hput.relabel (q := .t d) ho' (by rw[St.put_own,if_pos J]) (by
  show (a.put (some d) u).tmps[d]? = _
  rw[K2 (by rw[hr.nt]; exact hdN)]; simp)
 refine hK (G1.relabel (.t k) (.t d)) u w1 (Rel.sub (st:=(((((st.unown (.t k)).boxes2 (.l j') n (cs++xs.flatten)).put d (true, .v (.ms (.l j') sz 0 (L + xs.length)))).unown (.t k)).addOwn (.t d) sz)) (st':=st.msApp d k j' n sz (L + xs.length) (cs++xs.flatten)) ⟨fun _ _ q=>q,fun _ _ q=>q,?_, .inr J⟩ this)
 intro r s hrs
 unfold St.msApp at hrs
 rw[St.addOwn_own] at hrs ⊢
 split at hrs
 ·rename_i he; rw[if_pos he]; exact hrs
 ·rename_i he
  rw[if_neg he,St.unown_own]
  split
  ·rename_i hk
   subst hk
   rw[St.put_own,if_neg (by simp; exact fun e=>hkd' e.symm)] at hrs
   have h2 : (st.unown (.t k)).own (.t k)=some s:=hrs
   rw[St.unown_own,if_pos J] at h2
   simp at h2
  ·exact hrs
theorem uCc {k L sz : Nat} {n : Nm} {cs : List C} {st : St} (hb : st.box n=some cs) (hcl : cs.length=L * sz) : ∀ (E : Env) (G : Gh) (a : Act) (w : World) (v' : Value),Rel E G st a w→YRep w G (.ms n sz 0 L) v'→OwnAt E.C w G (.t k) sz v' →
  (v' = .slice none 0 0∧L=0∧cs=[]) ∨ ∃ blk cap,v' = .slice (some ⟨blk,0,none⟩) L cap ∧ ∀ (j : Nat) (c : C),cs[j]? = some c→G.W blk j = .box n∧w.frozen? ⟨blk,j,none⟩=false ∧ ∃ v,w.cell? ⟨blk,j,none⟩=some v∧CRep w G.S c v:=by
 intro E G a w v' hr hy ho
 rcases hy with ⟨rfl,rfl⟩ | ⟨cap,hcap,rfl⟩
 ·exact .inl ⟨rfl,rfl,List.eq_nil_of_length_eq_zero (by rw[hcl,Nat.zero_mul])⟩
 rcases ho with ho | ⟨blk,len,cap2,e,hv,_⟩
 ·simp at ho
 ·simp only [Value.slice.injEq,Option.some.injEq,Addr.mk.injEq,Nat.add_zero] at hv
  obtain ⟨⟨h1,h2,_⟩,_⟩:=hv
  refine .inr ⟨(G.A n).1,cap,by simp [h2],fun j c hj=>?_⟩
  have := hr.bx n cs hb j c hj
  rw[h2,Nat.zero_add] at this
  exact this
section
variable {s0 : St} {ops : Array Oper} {B : List Nat} {q : Nat} {rest : List Oper} {acc : List Lnk} {o : Oper} {Q : St→Prop} {d : Nat}
end
theorem Ap {x : Operand} {t : TypeId} {g gate : Bool} {n : Nm} {sz off L : Nat} {ti : TyI} {el : Nat × Nat × Nat} (h : lk Z.T st ty x=some (g, .v (.ms n sz off L))) (hg : gate=true→g=true)
  (ht : tyAt Z.T t=some ti) (hel : ti.el=some el) : PureOk Z st (.call { callee:=.builtin .len,args:=#[x],argTypes:=#[t] }) ty gate (.v (.c (.i .i64 (L : Int)))):=by
 intro o E G a w ho _ hr hgt
 obtain ⟨e,s,by'⟩:=el
 have hu:=((Z.tyOk ht).sl e s by' hel).1
 refine ⟨.int .i64 L,CRep.i _ _,?_⟩
 rcases F4 hr h (hg hgt) with ⟨rfl,h2⟩ | ⟨cap,_,h2⟩
 ·simp [execOp,ho,h2,Go.resolve,invoke,builtin,Builtin.len_,underlying,hu,goInt]
 ·simp [execOp,ho,h2,Go.resolve,invoke,builtin,Builtin.len_,underlying,hu,goInt]
theorem L2 {x i : Operand} {t : TypeId} {g gi gate : Bool} {n : Nm} {sz off L : Nat} {k : IntKind} {m : Int} {j : Nat} {ti : TyI} {e by' : Nat} (h : lk Z.T st ty x=some (g, .v (.ms n sz off L))) (hi : lk Z.T st ty i=some (gi, .v (.c (.i k m))))
  (hg : gate=true→g=true) (hgi : gate=true→gi=true) (ht : tyAt Z.T t=some ti) (hel : ti.el=some (e,sz,by')) (hn : m=(j : Int)) (hj : gate=true→j < L) : PureOk Z st (.indexAddr t x i) ty gate (.v (.ptr n (off + j * sz))):=by
 intro o E G a w ho _ hr hgt
 have hj:=hj hgt
 rcases F4 hr h (hg hgt) with ⟨rfl,h1⟩ | ⟨cap,_,h1⟩
 ·omega
 have h2:=XRep.int (F4 hr hi (hgi hgt))
 subst hn
 obtain ⟨hu,jf,ze,hinfo,hsz,_,_,_,_⟩:=(Z.tyOk ht).sl e sz by' hel
 refine ⟨.pointer (some ⟨(G.A n).1,(G.A n).2 + (off + j * sz),none⟩),rfl,?_⟩
 simp [execOp,ho,h1,h2,Instr.indexAt,asIntOf,underlying,hu,hj,sizeOf,typeInfo,hinfo,hsz,Q1,Nat.add_assoc]
end
end Go.Abs
namespace Go.Abs
variable {Z : Pg}
def St.frz (st : St) (k m sz : Nat) (es : List (List C)) : St:={ st with t:=(k,true, .v (.c (.sl sz es))) :: st.t,bx:=(.l m,[]) :: st.bx }
open Classical in
/-- The cells of a box are written no more. -/
noncomputable def Gh.frz (G : Gh) (n : Nm) : Gh:={ G with W:=fun b o=>if G.W b o = .box n then .imm else G.W b o }
theorem Dz {sz : Nat} : ∀ {xs : List (List C)} {i j : Nat} {row : List C} {c : C},(∀ (i : Nat) (row : List C),xs[i]? = some row→row.length=sz)→xs[i]? = some row→row[j]? = some c→xs.flatten[i * sz + j]? = some c
 | [],i,j,row,c,_,h,_=>by simp at h
 | x :: xs,0,j,row,c,hr,h,hc=>by
  simp only [List.getElem?_cons_zero,Option.some.injEq] at h
  subst h
  have hj:=(List.getElem?_eq_some_iff.1 hc).1
  rw[List.flatten_cons,Nat.zero_mul,Nat.zero_add,List.getElem?_append_left hj,hc]
 | x :: xs,i + 1,j,row,c,hr,h,hc=>by
  have hx:=hr 0 x J
  rw[List.flatten_cons,List.getElem?_append_right (by rw[hx,Nat.add_mul]; omega)]
  have := Dz (xs := xs) (i := i) (fun i row hi=>hr (i + 1) row (by simpa using hi)) (by simpa using h) hc
  rw[← this]
  congr 1
  rw[hx,Nat.add_mul]; omega
theorem Gh.frz_S {G : Gh} {n : Nm} {b o : Nat} (h : G.S b o) : (G.frz n).S b o:=by
 unfold Gh.S Gh.frz at *
 dsimp only
 rw[if_neg (by rw[h]; simp)]
 exact h
theorem Rel.frzB {E : Env} {G : Gh} {st : St} {a : Act} {w : World} (h : Rel E G st a w) {m : Nat} (hfo : FreshG st (.l m,false)) :
  Rel E (G.frz (.l m)) { st with bx:=(.l m,[]) :: st.bx } a w:=by
 have hmono : ∀ {y : C} {v : Value},CRep w G.S y v→CRep w (G.frz (.l m)).S y v:=fun hc=>hc.mono (fun _ _=>Gh.frz_S) (fun _ _ _=>rfl)
 have hne : ∀ {b o : Nat} {x : Who},G.W b o=x→x ≠ .box (.l m)→(G.frz (.l m)).W b o=x:=fun {b o x} e hx=>by
  unfold Gh.frz; dsimp only; rw[if_neg (by rw[e]; exact hx)]; exact e
 constructor
 ·exact h.df
 ·intro j g x hj
  obtain ⟨u,hu,q1,q2⟩:=h.tm j g x hj
  exact ⟨u,hu,fun hg=>(q1 hg).mono (fun _ _=>Gh.frz_S) (fun _ _ _=>rfl) (fun _ _=>rfl),q2⟩
 ·intro n ds hn j c hj
  have hn2 : getB ((.l m,[]) :: st.bx) n=some ds:=hn
  rw[G6] at hn2
  split at hn2
  ·simp only [Option.some.injEq] at hn2; subst hn2; simp at hj
  ·rename_i hx
   obtain ⟨q1,q2,v,q3,q4⟩:=h.bx n ds hn2 j c hj
   exact ⟨hne q1 (by intro e; injection e with e; exact hx e.symm),q2,v,q3,hmono q4⟩
 ·intro p s hp
  have hp2 : st.own p=some s:=hp
  obtain ⟨u,hu,ho⟩:=h.ow p s hp2
  refine ⟨u,?_,?_⟩
  ·cases p with
   | t k'=>exact hu
   | b n off =>
    refine ⟨hu.1,hne hu.2 ?_⟩
    intro e; injection e with e
    have := hfo.2 _ _ hp2
    subst e; simp [Pl.inBox,Nm.beq_self] at this
  ·rcases ho with ho | ⟨b2,len,cap,e,q1,q2,q3,q4⟩
   ·exact .inl ho
   ·exact .inr ⟨b2,len,cap,e,q1,q2,q3,fun o h1 h2=>⟨hne (q4 o h1 h2).1 (by simp),(q4 o h1 h2).2⟩⟩
 ·intro b o hw
  refine h.wf b o fun e=>hw (hne e (by simp))
 ·intro b o n hb' hn
  unfold Gh.frz at hn; dsimp only at hn
  split at hn
  ·simp at hn
  ·exact h.olB b o n hb' hn
 ·intro b o p hb' hn
  unfold Gh.frz at hn; dsimp only at hn
  split at hn
  ·simp at hn
  ·exact h.olO b o p hb' hn
 ·exact h.nt
 ·exact h.oA
 ·intro b o hi
  exact hne (h.im b o hi) (by simp)
 ·intro b o hb' hi
  unfold Gh.frz at hi; dsimp only at hi
  split at hi
  ·rename_i e
   obtain ⟨j,hj⟩:=(h.lo b o hb').1 _ e
   simp at hj
  ·exact h.im' b o hb' hi
 ·exact h.fr
 ·exact h.hB
 ·intro b o hb'
  unfold Gh.frz; dsimp only
  split
  ·simp
  ·exact h.lo b o hb'
 ·intro t j ds hn hne2
  have hn2 : getB ((.l m,[]) :: st.bx) (.bd t j)=some ds:=hn
  rw[G6,if_neg (by simp)] at hn2
  exact h.bd t j ds hn2 hne2
 ·intro x hx
  obtain ⟨q1,q2,q3⟩:=h.mp x hx
  refine ⟨q1,q2,fun o=>?_⟩
  unfold Gh.frz; dsimp only
  split
  ·exact ⟨fun n=>by simp,fun q=>by simp⟩
  ·exact q3 o
theorem Rel.frzC {E : Env} {G : Gh} {st : St} {a : Act} {w : World} (h : Rel E G st a w) {m sz L cap : Nat} {es : List (List C)} (hb : st.box (.l m)=some es.flatten) (hL : es.length=L) (hm : L≤9223372036854775807)
  (hrow : ∀ (i : Nat) (row : List C),es[i]? = some row→row.length=sz) (hc : L≤cap) : CRep w (G.frz (.l m)).S (.sl sz es) (.slice (some ⟨(G.A (.l m)).1,(G.A (.l m)).2 + 0,none⟩) L cap):=by
 refine CRep.mk_sl hL hc hm fun i row hi=>⟨hrow i row hi,fun j' c hj'=>?_⟩
 obtain ⟨q1,q2,v,q3,q4⟩:=h.bx _ _ hb _ c (Dz hrow hi hj')
 rw[Nat.add_zero,Nat.add_assoc]
 refine ⟨?_,v,q3,q4.mono (fun _ _=>Gh.frz_S) (fun _ _ _=>rfl)⟩
 unfold Gh.S Gh.frz; dsimp only; rw[if_pos q1]
theorem Rel.freeze {E : Env} {G : Gh} {st : St} {a : Act} {w : World} (h : Rel E G st a w) {k m sz L : Nat} {es : List (List C)} (hs : st.get k=some (true, .v (.ms (.l m) sz 0 L)))
  (hb : st.box (.l m)=some es.flatten) (hL : es.length=L) (hm : L≤9223372036854775807) (hrow : ∀ (i : Nat) (row : List C),es[i]? = some row→row.length=sz) (hfo : FreshG st (.l m,false)) :
  Rel E (G.frz (.l m)) (st.frz k m sz es) a w:=by
 have h0:=h.frzB hfo
 refine { df:=h0.df,tm:=?_,bx:=h0.bx,ow:=h0.ow,wf:=h0.wf,olB:=h0.olB,olO:=h0.olO,nt:=h0.nt,oA:=h0.oA,im:=h0.im,im':=h0.im',fr:=h0.fr,hB:=h0.hB,lo:=h0.lo,bd:=h0.bd,mp:=h0.mp }
 intro j g x hj
 have hj2 : getT ((k,true, .v (.c (.sl sz es))) :: st.t) j=some (g,x):=hj
 rw[J9] at hj2
 split at hj2
 ·rename_i he; subst he
  simp only [Option.some.injEq,Prod.mk.injEq] at hj2
  obtain ⟨rfl,rfl⟩:=hj2
  obtain ⟨v,hv,hv1,_⟩:=h.tm _ _ _ hs
  refine ⟨v,hv,fun _=>?_,fun hg=>by simp at hg⟩
  rcases hv1 rfl with ⟨rfl,rfl⟩ | ⟨cap,hc,rfl⟩
  ·rw[List.eq_nil_of_length_eq_zero hL]; exact CRep.nil sz
  ·exact h.frzC hb hL hm hrow hc
 ·exact h0.tm j g x hj2
theorem Kx {N : Nat} {ops : Array Oper} {rest : List Oper} {K : St→Prop} {st : St} (k m : Nat) {sz L : Nat} (es : List (List C)) (hs : st.get k=some (true, .v (.ms (.l m) sz 0 L)))
  (hb : st.box (.l m)=some es.flatten) (hL : es.length=L) (hm : L≤9223372036854775807) (hrow : ∀ (i : Nat) (row : List C),es[i]? = some row→row.length=sz) (hfo : st.freshO (.l m,false)=true)
  (h : AL Z N ops rest K (st.frz k m sz es)) : AL Z N ops rest K st :=
 fun E G a w hr hE=>h E _ a w (hr.freeze hs hb hL hm hrow (St.freshO_ok hfo)) hE
def St.thw (st : St) (k m sz : Nat) : St:={ st with t:=(k,true, .v (.ms (.l m) sz 0 0)) :: st.t,bx:=(.l m,[]) :: st.bx }
theorem Rel.thaw {E : Env} {G : Gh} {st : St} {a : Act} {w : World} (h : Rel E G st a w) {k m sz : Nat} (hs : st.get k=some (true, .v (.c (.sl sz [])))) (hw : st.own (.t k)=some sz) (hfr : FreshG st (.l m,true)) :
  ∃ G',Rel E G' (st.thw k m sz) a w:=by
 obtain ⟨v,hv,hv1,_⟩:=h.tm _ _ _ hs
 obtain ⟨v',hv',ho⟩:=h.ow _ _ hw
 have : v'=v:=by have h1 : a.tmps[k]? = some v':=hv'; rw[hv] at h1; exact (Option.some.inj h1).symm
 subst this
 have hx : CRep w G.S (.sl sz []) v':=hv1 J
 obtain ⟨A,hA⟩ : ∃ A : Nat × Nat,v' = .slice none 0 0 ∨ ∃ cap,v' = .slice (some ⟨A.1,A.2 + 0,none⟩) 0 cap:=by
  rcases ho with rfl | ⟨blk,len,cap,e,rfl,_⟩
  ·exact ⟨(0,0), .inl J⟩
  ·have : len=0 := by have := (CRep.elem hx).1; simpa using this.symm
   subst this
   exact ⟨(blk,0), .inr ⟨cap,rfl⟩⟩
 refine ⟨{ W:=G.W,A:=fun n=>if n = .l m then A else G.A n },?_⟩
 have hy : ∀ {y : X} {u : Value},y.has (.l m)=false→XRep w G y u→XRep w { W:=G.W,A:=fun n=>if n = .l m then A else G.A n } y u:=fun {y u} hy hu =>
  XRep.mono (G:=G) (G':={ W:=G.W,A:=fun n=>if n = .l m then A else G.A n }) (fun _ _ e=>e) (fun _ _ _=>rfl) (fun n hn=>by
   have : ¬ n = .l m:=fun e=>by subst e; rw[hy] at hn; simp at hn
   dsimp only; rw[if_neg this]) hu
 constructor
 ·exact h.df
 ·intro j g x hj
  have hj2 : getT ((k,true, .v (.ms (.l m) sz 0 0)) :: st.t) j=some (g,x):=hj
  rw[J9] at hj2
  split at hj2
  ·rename_i he; subst he
   simp only [Option.some.injEq,Prod.mk.injEq] at hj2
   obtain ⟨rfl,rfl⟩:=hj2
   refine ⟨v',hv,fun _=>?_,fun hg=>by simp at hg⟩
   rcases hA with e | ⟨cap,e⟩
   ·exact .inl ⟨rfl,e⟩
   ·exact .inr ⟨cap,Nat.zero_le _,by dsimp only; rw[if_pos J]; exact e⟩
  ·obtain ⟨u,hu,q1,q2⟩:=h.tm j g x hj2
   exact ⟨u,hu,fun hg=>hy (hfr.1 J j g x hj2) (q1 hg),q2⟩
 ·intro n ds hn j c hj
  have hn2 : getB ((.l m,[]) :: st.bx) n=some ds:=hn
  rw[G6] at hn2
  split at hn2
  ·simp only [Option.some.injEq] at hn2; subst hn2; simp at hj
  ·rename_i hx2
   have : ¬ n = .l m:=fun e=>hx2 e.symm
   dsimp only; rw[if_neg this]
   exact h.bx n ds hn2 j c hj
 ·intro p s hp
  have hp2 : st.own p=some s:=hp
  obtain ⟨u,hu,ho⟩:=h.ow p s hp2
  refine ⟨u,?_,ho⟩
  cases p with
  | t k'=>exact hu
  | b n off =>
   have : ¬ n = .l m:=fun e=>by
    have := hfr.2 _ _ hp2
    subst e; simp [Pl.inBox,Nm.beq_self] at this
   show w.cell? _=_∧G.W _ _=_
   dsimp only; rw[if_neg this]
   exact hu
 ·exact h.wf
 ·exact h.olB
 ·exact h.olO
 ·exact h.nt
 ·intro j
  dsimp only
  rw[if_neg (by simp)]
  exact h.oA j
 ·exact h.im
 ·exact h.im'
 ·exact h.fr
 ·exact h.hB
 ·exact h.lo
 ·intro t j ds hn hne2
  have hn2 : getB ((.l m,[]) :: st.bx) (.bd t j)=some ds:=hn
  rw[G6,if_neg (by simp)] at hn2
  dsimp only
  rw[if_neg (by simp)]
  exact h.bd t j ds hn2 hne2
 ·exact h.mp
theorem Im {sz : Nat} : ∀ {xs : List (List C)} {i : Nat} {row : List C},(∀ (i : Nat) (row : List C),xs[i]? = some row→row.length=sz)→xs[i]? = some row→(xs.flatten.drop (i * sz)).take sz=row
 | [],i,row,_,h=>by simp at h
 | x :: xs,0,row,hr,h=>by
  simp only [List.getElem?_cons_zero,Option.some.injEq] at h
  subst h
  rw[Nat.zero_mul,List.drop_zero,List.flatten_cons,← hr 0 x J,List.take_left]
 | x :: xs,i + 1,row,hr,h=>by
  have hx:=hr 0 x J
  rw[List.flatten_cons,List.drop_append,List.drop_eq_nil_of_le (by rw[hx,Nat.add_mul]; omega),List.nil_append,hx,Nat.add_mul,Nat.one_mul,Nat.add_sub_cancel]
  exact Im (fun i row hi=>hr (i + 1) row (by simpa using hi)) (by simpa using h)
theorem Kc : ∀ (ds p m s : List C),m.length=ds.length→I4 (p++(m++s)) p.length ds=p++(ds++s)
 | [],p,m,s,h=>by rw[List.eq_nil_of_length_eq_zero h]; rfl
 | d :: ds,p,[],s,h=>by simp at h
 | d :: ds,p,x :: m,s,h=>by
  have h' : m.length=ds.length:=by simpa using h
  rw[I4,List.cons_append,List.set_append_right _ _ (Nat.le_refl _),Nat.sub_self,List.set_cons_zero]
  have := Kc ds (p++[d]) m s h'
  rw[List.append_assoc,List.length_append] at this
  simpa using this
theorem Jk {sz : Nat} : ∀ {xs : List (List C)} {i : Nat} {ds : List C},(∀ (i : Nat) (row : List C),xs[i]? = some row→row.length=sz)→i < xs.length→ds.length=sz→I4 xs.flatten (i * sz) ds=(xs.set i ds).flatten:=by
 intro xs i ds hr hi hd
 have hx:=List.getElem?_eq_getElem hi
 have hl:=hr i _ hx
 have e1 : xs=xs.take i++xs[i] :: xs.drop (i + 1):=by rw[← List.drop_eq_getElem_cons hi,List.take_append_drop]
 have hti : (xs.take i).flatten.length=i * sz:=by
  rw[Dt (sz:=sz) (fun j row hj=>by
   rw[List.getElem?_take] at hj
   split at hj
   ·exact hr j row hj
   ·simp at hj),List.length_take,Nat.min_eq_left (by omega)]
 have e2 : xs.flatten=(xs.take i).flatten++(xs[i]++(xs.drop (i + 1)).flatten):=by
  conv=>lhs; rw[e1]
  rw[List.flatten_append,List.flatten_cons]
 rw[e2,← hti,Kc _ _ _ _ (by rw[hl,hd]),List.set_eq_take_append_cons_drop,if_pos hi,List.flatten_append,List.flatten_cons]
end Go.Abs
namespace Go.Abs
variable {Z : Pg}
def Ah (l : List UInt8) : List (List C):=l.map fun b=>[.i .u8 (b.toNat : Int)]
theorem S4 (l : List UInt8) : (Ah l).length=l.length:=by simp [Ah]
end Go.Abs
namespace Go.Abs
variable {Z : Pg}
def Dw (b : Nat) (w w0 : World) : Prop :=
 (w.cell? ⟨b,0,none⟩=some (.pointer none)∧w0=w.setCell ⟨b,0,none⟩ (.pointer (some ⟨b,0,none⟩)))∨(w.cell? ⟨b,0,none⟩=some (.pointer (some ⟨b,0,none⟩))∧w0=w)
structure BdSys (Z : Pg) where
 tB : TypeId
 tS : TypeId
 tStr : TypeId
 tU : TypeId
 tPU : TypeId
 tI : TypeId
 tN : Nat
 hN1 : tN / 4096=tB
 hN2 : tN % 4096=tU
 fW : FuncId
 fB : FuncId
 hasB : Bool
 fS : FuncId
 jf : TypeInfo
 hu : Z.P.underlying tS=some (.slice tU)
 hstr : Z.P.underlying tStr=some .string
 hpu : Z.P.underlying tPU=some (.pointer tU)
 hinfo : Z.P.info? tU=some jf
 hsz : jf.size=1
 hby : jf.bytes=1
 hze : jf.zero=some (.int .u8 0)
 hcells : Z.P.cellsOf tU=1
 enW : P8 Z fW
 enB : hasB=true→P8 Z fB
 enS : P8 Z fS
 ws : ∀ (b : Nat) (w w0 w1 : World) (v' : Value) (uo : Option Addr) (un uc : Nat) (s : ByteArray),Dw b w w0→w.shape? b=some (tB,2)→w.frozen? ⟨b,0,none⟩=false →
  w0.cell? ⟨b,1,none⟩=some v'→(Builtin.append_ #[tS,tStr] tS #[v', .string s]).run Z.P w0 = .ok (.slice uo un uc) w1→w1.cell? ⟨b,1,none⟩=some v'→w1.frozen? ⟨b,1,none⟩=false →
  Calls Z.P fW #[.pointer (some ⟨b,0,none⟩), .string s] w fun e w'=>e = .returned (.tuple #[.int .i64 s.size, .nilIface])∧w'=w1.setCell ⟨b,1,none⟩ (.slice uo un uc)
 wb : hasB=true → ∀ (b : Nat) (w w0 w1 : World) (v' : Value) (uo : Option Addr) (un uc : Nat) (c : Int),Dw b w w0→w.shape? b=some (tB,2)→w.frozen? ⟨b,0,none⟩=false →
  w0.cell? ⟨b,1,none⟩=some v'→(Builtin.append_ #[tS,tS] tS #[v', .slice (some ⟨w0.heap.size,0,none⟩) 1 1]).run Z.P (w0.alloc (.cells #[.int .u8 c] tU)) = .ok (.slice uo un uc) w1→w1.cell? ⟨b,1,none⟩=some v'→w1.frozen? ⟨b,1,none⟩=false →
  Calls Z.P fB #[.pointer (some ⟨b,0,none⟩), .int .u8 c] w fun e w'=>e = .returned .nilIface∧w'=w1.setCell ⟨b,1,none⟩ (.slice uo un uc)
 st : ∀ (b : Nat) (w w1 w2 : World) (ao : Option Addr) (n cap : Nat) (p : Value) (s : ByteArray),w.cell? ⟨b,1,none⟩=some (.slice ao n cap) →
  (Builtin.unsafeSliceData_ #[tS] tPU #[.slice ao n cap]).run Z.P w.drew = .ok p w1→w1.cell? ⟨b,1,none⟩=some (.slice ao n cap) →
  (Builtin.unsafeString_ #[tPU,tI] tStr #[p, .int .i64 n]).run Z.P w1 = .ok (.string s) w2 →
  Calls Z.P fS #[.pointer (some ⟨b,0,none⟩)] w fun e w'=>e = .returned (.string s)∧w'=w2
end Go.Abs
namespace Go.Abs
variable {Z : Pg}
theorem Rel.checked {E : Env} {G : Gh} {st : St} {a : Act} {w : World} (hr : Rel E G st a w) {t k : Nat} {cs : List C} (hb : st.box (.bd t k)=some (.bl :: cs)) :
  ∃ w0,Dw (G.A (.bd t k)).1 w w0∧Rel E G (st.store (.bd t k) (.bl :: cs) 0 1) a w0:=by
 obtain ⟨q1,q2,x,q3,q4⟩:=hr.bd t k _ hb (by simp)
 rcases q4 with rfl | rfl
 ·refine ⟨_, .inl ⟨q3,rfl⟩,?_⟩
  have := hr.store1 hb (k := 0) (c := .bl) (v := .pointer (some ⟨(G.A (.bd t k)).1,0,none⟩)) (by simp) (CRep.bl _) (fun _ _=>⟨_,rfl, .inr J⟩)
  rw[q1] at this
  exact this
 ·refine ⟨w, .inr ⟨q3,rfl⟩,?_⟩
  refine Rel.sub (st:=st) (st':=st.store (.bd t k) (.bl :: cs) 0 1) ⟨fun _ _ h=>h,fun m ds hm=>?_,fun p s hp=>?_, .inr J⟩ hr
  ·rw[St.store_box] at hm
   split at hm
   ·rename_i he; subst he; rw[hb]; exact hm
   ·exact hm
  ·rw[St.store_own] at hp
   split at hp
   ·simp at hp
   ·exact hp
section
variable {N : Nat} {st : St} {ops : Array Oper} {rest : List Oper} {K : St→Prop} {o : Oper} {d k : Nat} {fo x y : Operand} {ts : Array TypeId} {m : List UInt8}
end
end Go.Abs
namespace Go.Abs
variable {Z : Pg}
theorem F3 {N : Nat} {ι : Type} {c : Code} {Q : Exit→St→Prop} {st : St} (F : St) (V : ι→List (Nat × Bool × X)) (VB : ι→List (Nm × List C)) (ok : ι→Prop) (m : ι→Nat) (i0 : ι) (h0 : ok i0)
  (hs : Sub { t:=V i0++F.t,bx:=VB i0++F.bx,ow:=F.ow,mp:=F.mp } st)
  (round : ∀ i,ok i→AWP Z N c (Hr (fun s=>∃ j,ok j∧m j < m i∧Sub { t:=V j++F.t,bx:=VB j++F.bx,ow:=F.ow,mp:=F.mp } s) Q) { t:=V i++F.t,bx:=VB i++F.bx,ow:=F.ow,mp:=F.mp }) : AWP Z N (.loop c) Q st :=
 P3 (fun i=>{ t:=V i++F.t,bx:=VB i++F.bx,ow:=F.ow,mp:=F.mp }) ok m i0 h0 hs round
def eqC : Nat→C→C→Option Bool
 | 1, .i k m, .i k' n=>cond (decide (k=k')) (some (m == n)) none
 | 0, .b x, .b y=>some (x == y)
 | 2, .s l, .s m=>some (l == m)
 | _,_,_=>none
def eqFl : List Nat→List C→List C→Option Bool
 | [],[],[]=>some true
 | k :: ks,c :: cs,d :: ds=>match eqC k c d,eqFl ks cs ds with
  | some x,some y=>some (x && y)
  | _,_=>none
 | _,_,_=>none
def Jd (P : Program) (t : TypeId) : Option Nat:=match P.underlying t with
 | some .bool=>some 0
 | some (.int _)=>some 1
 | some .string=>some 2
 | _=>none
def Rf (P : Program) : List Field→Nat→Option (List Nat)
 | [],_=>some []
 | f :: r, n => cond (Nat.beq f.offset n && f.name != "_") (match Jd P f.type, Rf P r (n + 1) with
  | some k,some ks=>some (k :: ks)
  | _,_=>none) none
theorem uBo {P : Program} {w : World} {S : Nat→Nat→Prop} {c d : C} {u v : Value} {r : Bool} {t : TypeId} {q : Nat} (n : Nat) (hu : CRep w S c u) (hv : CRep w S d v) (h : eqC q c d=some r)
  (ht : Jd P t=some q) : (Op.equalIn (n + 1) t u v).run P w = .ok r w:=by
 unfold Jd at ht
 unfold eqC at h
 split at h
 ·rename_i k m k' n'
  cases hu; cases hv
  by_cases hk : k=k'
  ·subst hk
   simp at h; subst h
   split at ht <;> first|(rename_i hd; simp at ht; done)|skip
   all_goals first
    | (rename_i hd; exact run_equalIn_int w n t k _ m n' hd)
    | (simp at ht)
  ·simp [hk] at h
 ·cases hu; cases hv
  simp at h; subst h
  split at ht <;> first
   | (rename_i hd; exact run_equalIn_bool' w n t _ _ hd)
   | (simp at ht)
 ·rename_i l m
  cases hu; cases hv
  simp at h; subst h
  split at ht <;> first
   | (rename_i hd; rw[run_equalIn_string w n t _ _ hd,Et,Et])
   | (simp at ht)
 ·simp at h
theorem Oj {P : Program} {w : World} {t : TypeId} {q : Nat} (ht : Jd P t=some q) : (isAgg t).run P w = .ok false w:=by
 unfold Jd at ht
 unfold isAgg underlying
 split at ht <;> simp_all
theorem Rk {P : Program} {w : World} {S : Nat→Nat→Prop} {xs ys : Array Value} (n : Nat) : ∀ {fs : List Field} {off : Nat} {ks : List Nat} {cs ds : List C} {us vs : List Value} {r : Bool},Rf P fs off=some ks→eqFl ks cs ds=some r →
  All2 (CRep w S) cs us→All2 (CRep w S) ds vs→xs.toList.drop off=us→ys.toList.drop off=vs→(Op.eqFields (n + 1) xs ys fs).run P w = .ok r w
 | [],off,ks,cs,ds,us,vs,r,hf,he,_,_,_,_=>by
  simp [Rf] at hf; subst hf
  unfold eqFl at he
  split at he <;> simp_all [Op.eqFields]
 | f :: fs,off,ks,cs,ds,us,vs,r,hf,he,hu,hv,hx,hy=>by
  simp only [Rf] at hf
  cases hb : (Nat.beq f.offset off && f.name != "_") with
  | false=>rw[hb] at hf; simp at hf
  | true =>
   rw[hb] at hf
   simp only [cond_true] at hf
   rw[Bool.and_eq_true] at hb
   have hoff : f.offset=off:=Nat.eq_of_beq_eq_true hb.1
   have hname : f.name ≠ "_" := by simpa using hb.2
   split at hf
   ·rename_i k ks' hk hks
    simp at hf; subst hf
    unfold eqFl at he
    split at he
    ·simp_all
    ·rename_i k2 ks2 c cs' d ds' heq
     obtain ⟨rfl,rfl⟩:=List.cons.inj heq
     split at he
     ·rename_i x y hx1 hy1
      simp at he; subst he
      cases us with
      | nil=>exact hu.elim
      | cons u us =>
      cases vs with
      | nil=>exact hv.elim
      | cons v vs =>
      have hxu : xs[off]? = some u:=by
       have := congrArg (·[0]?) hx
       simpa [List.getElem?_drop] using this
      have hyv : ys[off]? = some v:=by
       have := congrArg (·[0]?) hy
       simpa [List.getElem?_drop] using this
      have hx2 : xs.toList.drop (off + 1)=us:=by rw[← List.drop_drop,hx]; rfl
      have hy2 : ys.toList.drop (off + 1)=vs:=by rw[← List.drop_drop,hy]; rfl
      have ih:=Rk (P:=P) (w:=w) (S:=S) (xs:=xs) (ys:=ys) n hks hy1 hu.2 hv.2 hx2 hy2
      have h1:=uBo (P:=P) n hu.1 hv.1 hx1 hk
      have hA:=Oj (w:=w) hk
      simp only [Op.eqFields,if_pos hname,Sem.run_bind]
      have hp1 : (part f.type xs f.offset).run P w = .ok u w:=by simp [part,hA,hoff,hxu]
      have hp2 : (part f.type ys f.offset).run P w = .ok v w:=by simp [part,hA,hoff,hyv]
      rw[hp1]
      simp only [Result.andThen_ok]
      rw[hp2]
      simp only [Result.andThen_ok]
      rw[h1]
      simp only [Result.andThen_ok]
      cases x with
      | false=>simp
      | true=>simpa using ih
     ·simp at he
    ·simp at he
   ·simp at hf
section
variable {st : St} {ty : TypeId} {gate : Bool}
theorem Jx {x y : Operand} {t t' : TypeId} {gx gy neg : Bool} {cs ds : List C} {fs : Array Field} {ks : List Nat} {r : Bool} {op : BinOp} (hop : (op = .eql∧neg=false)∨(op = .neq∧neg=true))
  (hx : lk Z.T st ty x=some (gx, .v (.agg cs))) (hy : lk Z.T st ty y=some (gy, .v (.agg ds)))
  (hgx : gate=true→gx=true) (hgy : gate=true→gy=true) (hu : Z.P.underlying t=some (.struct fs)) (hk : Rf Z.P fs.toList 0=some ks) (hst : Z.P.stoodInHeld t=false) (heg : Z.P.eqGuardType Z.P.depth t=false)
  (he : eqFl ks cs ds=some r) : PureOk Z st (.binOp op t x y t') ty gate (.v (.c (.b (r != neg)))):=by
 intro o E G a w ho hty hr hgt
 obtain ⟨us,hus,hcu⟩:=F4 hr hx (hgx hgt)
 obtain ⟨vs,hvs,hcv⟩:=F4 hr hy (hgy hgt)
 have hfo : Z.P.fieldsOf t=fs:=by simp [Program.fieldsOf,hu]
 have hrun : (Op.equalIn 10000 t (.agg us.toArray) (.agg vs.toArray)).run Z.P w = .ok r w:=by
  rw[show (10000 : Nat)=9998 + 1 + 1 from J,run_equalIn_agg w _ t _ _ (by rw[hfo]; exact hu) hst,hfo]
  exact Rk 9998 hk he hcu hcv (by simp) (by simp)
 refine ⟨.bool (r != neg),CRep.b _,?_⟩
 simp only [execOp,ho,hus,hvs,Sem.run_bind,run_eqGuard_agg w op t x y _ _ heg,Result.andThen_ok]
 rcases hop with ⟨rfl,rfl⟩ | ⟨rfl,rfl⟩
 ·rw[run_eql_struct,hrun]; simp [Result.andThen]
 ·rw[run_neq_struct,hrun]; simp [Result.andThen]
theorem Wo {t t' : TypeId} {x y : Operand} {gx gy : Bool} {k : IntKind} {m n s : Int} (hx : lk Z.T st ty x=some (gx, .v (.c (.i k m)))) (hy : lk Z.T st ty y=some (gy, .v (.c (.i k n))))
  (hgx : gate=true→gx=true) (hgy : gate=true→gy=true) (hn : gate=true→n≠0) (hs : gate=true→k.wrap (m.tdiv n)=s) : PureOk Z st (.binOp .quo t x y t') ty gate (.v (.c (.i k s))):=by
 intro o E G a w ho hty hr hgt
 exact uAM hx hy hgx hgy (hn hgt) (hs hgt) o E G a w ho hty hr hgt
theorem Jv {x : Operand} {src dst e : TypeId} {g : Bool} {l : List UInt8} {es : List (List C)} (h : lk Z.T st ty x=some (g, .v (.c (.sl 1 es)))) (hes : es=Ah l) (hg : gate=true→g=true)
  (hs : Z.P.underlying src=some (.slice e)) (he : Z.P.underlying e=some (.int .u8)) (hd : Z.P.underlying dst=some .string) : PureOk Z st (.convert src dst x) ty gate (.v (.c (.s l))):=by
 subst hes
 intro o E G a w ho hty hr hgt
 have hc : CRep w G.S (.sl 1 (Ah l)) _:=F4 hr h (hg hgt)
 have hlm:=hc.lenMax
 rw[S4] at hlm
 refine ⟨.string ⟨l.toArray⟩,CRep.s l hlm,?_⟩
 have hrun : (convert src dst (a.eval x)).run Z.P w = .ok (.string ⟨l.toArray⟩) w:=by
  generalize a.eval x=v at hc
  rcases hc.sl_cases with ⟨a',rfl,he0⟩ | ⟨blk,off,len,cap,rfl,hlen⟩
  ·have hl0 : l=[]:=by
    cases l with
    | nil=>rfl
    | cons b l=>simp [Ah] at he0
   subst hl0
   cases a' with
   | none =>
    rw[run_convert_bytes_string w src dst e none 0 0 hs he hd]
    simp [Conv.bytesToString]
    rfl
   | some a'=>exact run_convert_bytes_back w src dst e a' 0 [] hs he hd (fun j hj=>by simp at hj)
  ·obtain ⟨h1,h2,h3,h4⟩:=hc.elem
   rw[S4] at h1
   subst h1
   refine run_convert_bytes_back w src dst e _ cap l hs he hd fun j hj=>?_
   obtain ⟨_,hrow⟩:=h4 j [.i .u8 (l[j].toNat : Int)] (by simp [Ah,List.getElem?_eq_getElem hj])
   obtain ⟨_,u,q1,q2⟩:=hrow 0 _ rfl
   cases q2
   rw[Q1]
   simpa using q1
 simp only [execOp,ho,Sem.run_bind,hrun,Result.andThen_ok]
 rfl
end
theorem Rd {N : Nat} {st : St} {ty d : Nat} {t e sz by' : Nat} {x y : Operand} {ti te : TyI} {n : Nat} {m : Int} {k : IntKind} (hx : lk Z.T st ty x=some (true, .v (.c (.i k m)))) (hy : lk Z.T st ty y=some (true, .v (.c (.i k m))))
  (ht : tyAt Z.T t=some ti) (hel : ti.el=some (e,sz,by')) (hte : tyAt Z.T e=some te) (hN : Nat.ble (d + 1) N=true) (hfr : st.fresh (.l d)=true) (hm : m=(n : Int)) (hbig : n * by'≤140737488355328) (hmax : n≤9223372036854775807) :
  Does Z N st (some d) (.makeSlice t x y) ty ((st.addBox (.l d) (List.replicate n te.z).flatten).put d (true, .v (.ms (.l d) sz 0 n))):=by
 intro o E G a w hd ho _ hr hE K Q hK
 have hdN : d < E.nt:=by rw[hE.nt]; exact Nat.le_of_ble_eq_true hN
 obtain ⟨hu,jf,ze,hinfo,hsz,hby,hsz0,hze,hzec⟩:=(Z.tyOk ht).sl e sz by' hel
 obtain ⟨i,dd,zv,hi,_,hin,_,hzv,_,hall⟩:=(Z.tyOk hte).info
 obtain rfl : i=jf:=Option.some.inj (hi.symm.trans hinfo)
 obtain rfl : zv=ze:=Option.some.inj (hzv.symm.trans hze)
 have hzl : te.z.length=sz:=by rw[hall.len,Array.length_toList,hzec]
 have hx1:=XRep.int (F4 hr hx J)
 have hy1:=XRep.int (F4 hr hy J)
 have hrun:=run_make (P:=Z.P) w t e i zv hu hinfo hze k k m m (by omega) (Int.le_refl _) (by
  have hc : i.bytes * n=n * by':=by rw[hby,Nat.mul_comm]
  have : ((i.bytes * n : Nat) : Int)≤281474976710656:=by omega
  rw[hm]; simpa using this) (by omega)
 have hn : m.toNat=n:=by omega
 rw[hn,hsz] at hrun
 have hrows : ∀ (i : Nat) (row : List C),(List.replicate n te.z)[i]? = some row→row.length=sz:=by
  intro i row hi
  rw[List.getElem?_replicate] at hi
  split at hi
  ·simp at hi; rw[← hi]; exact hzl
  ·simp at hi
 have hlen : (List.replicate n te.z).flatten.length=n * sz:=by rw[Dt hrows]; simp
 have hcells : All2 (CRep w G.S) (List.replicate n te.z).flatten (madeCells zv.cells (n * sz)).toList:=by
  refine All2.mk (by rw[hlen,Array.length_toList,size_madeCells]) fun j c v hj hv=>?_
  obtain ⟨i',j',row,rfl,hj',hrow,hc⟩:=Jc hrows hj
  rw[List.getElem?_replicate] at hrow
  split at hrow
  ·simp at hrow; subst hrow
   obtain ⟨u,hu1,hu2⟩:=hall.get j' c hc
   have hmod : (i' * sz + j') % sz=j':=by rw[Nat.mul_comm,Nat.mul_add_mod]; exact Nat.mod_eq_of_lt hj'
   have hv2 : v=u:=by
    have hlt : i' * sz + j' < n * sz := by have := (List.getElem?_eq_some_iff.1 hj).1; omega
    simp only [madeCells,Array.toList_map,Array.toList_range,List.getElem?_map,List.getElem?_range hlt,Option.map_some,Option.some.injEq] at hv
    rw[hzec,hmod] at hv
    rw[← hv]
    have : zv.cells[j']? = some u:=by simpa using hu1
    rw[getElem!_def,this]
   subst hv2
   exact CRep.ofConst hu2
  ·simp at hrow
 obtain ⟨G1,hrel,hA⟩:=hr.newBox (d:=d) (fun _ _ _ hk=>St.fresh_has hfr hk) (t:=e) hcells
 have hput:=hrel.put hdN (g:=true) (x:=.v (.ms (.l d) sz 0 n)) (v:=.slice (some ⟨w.heap.size,0,none⟩) n n) (fun _=>.inr ⟨n,Nat.le_refl _,by rw[hA]⟩) (fun hf=>by simp at hf)
 unfold Oper.wp
 have : (execOp a.eval o).run Z.P w = .ok (.value (.slice (some ⟨w.heap.size,0,none⟩) n n)) (w.alloc (.cells (madeCells zv.cells (n * sz)) e)):=by
  simp only [execOp,ho,hx1,hy1,Sem.run_bind,hrun,Result.andThen_ok]
  rfl
 rw[this,Oper.upon_value,hd]
 exact hK G1 _ _ hput
end Go.Abs
namespace Go.Abs
variable {Z : Pg}
def C.ex : C→C
 | .sl _ []=>.o (.slice none 0 0)
 | c=>c
theorem uBK {w : World} {S : Nat→Nat→Prop} {c : C} {v : Value} (h : Ax c v=true) : CRep w S c.ex v:=by
 unfold C.ex
 split
 ·unfold Ax at h
  split at h <;> first
   | (rename_i he; simp at he; done)
   | skip
  all_goals first
   | exact CRep.o _ J
   | simp_all
 ·exact CRep.ofConst h
theorem All2.exs {w : World} {S : Nat→Nat→Prop} : ∀ {cs : List C} {vs : List Value},All2 (fun c v=>Ax c v=true) cs vs→All2 (CRep w S) (cs.map C.ex) vs
 | [],[],_=>O
 | _ :: _,_ :: _,h=>⟨uBK h.1,All2.exs h.2⟩
 | [],_ :: _,h=>h.elim
 | _ :: _,[],h=>h.elim
section
variable {N : Nat} {st : St} {ty : TypeId} {gate : Bool} {ops : Array Oper} {rest : List Oper} {K : St→Prop}
theorem Mt {d : Nat} {t : TypeId} {ti : TyI} (ht : tyAt Z.T t=some ti) (hN : Nat.ble (d + 1) N=true) (hfr : ∀ k g x,st.get k=some (g,x)→x.has (.l d)=false) :
  Does Z N st (some d) (.alloc t) ty ((st.addBox (.l d) (ti.z.map C.ex)).put d (true, .v (.ptr (.l d) 0))):=by
 intro o E G a w hd ho _ hr hE K Q hK
 have hdN : d < E.nt:=by rw[hE.nt]; exact Nat.le_of_ble_eq_true hN
 obtain ⟨i,dd,zv,hi,_,_,_,hz,_,hall⟩:=(Z.tyOk ht).info
 obtain ⟨G',hr'⟩:=hr.boxed hdN hfr (t:=t) (All2.exs (w:=w) (S:=G.S) hall)
 unfold Oper.wp
 have : (execOp a.eval o).run Z.P w = .ok (.value (.pointer (some ⟨w.heap.size,0,none⟩))) (w.alloc (.cells zv.cells t)):=by
  simp [execOp,ho,Instr.alloc,zeroValue,typeInfo,hi,hz,newVar,newRow]
 rw[this,Oper.upon_value,hd]
 exact hK G' _ _ hr'
theorem Fp {d : Nat} {t : TypeId} {ti : TyI} {cs : List C} (ht : tyAt Z.T t=some ti) (hz : ti.z.map C.ex=cs) (hN : Nat.ble (d + 1) N=true) (hfr : st.fresh (.l d)=true) :
  Does Z N st (some d) (.alloc t) ty ((st.addBox (.l d) cs).put d (true, .v (.ptr (.l d) 0))):=by
 subst hz; exact Mt ht hN fun _ _ _ hk=>St.fresh_has hfr hk
def St.own0 (st : St) (n : Nm) (cs : List C) (off sz : Nat) : St:=({ st with bx:=(n,cs.set off (.sl sz [])) :: st.bx } : St).addOwn (.b n off) sz
theorem Rel.own0 {E : Env} {G : Gh} {st : St} {a : Act} {w : World} (h : Rel E G st a w) {n : Nm} {cs : List C} {off sz : Nat} (hb : st.box n=some cs) (hc : cs[off]? = some (.o (.slice none 0 0))) : Rel E G (st.own0 n cs off sz) a w:=by
 have hlt : off < cs.length:=(List.getElem?_eq_some_iff.1 hc).1
 have hbox:=h.bx n cs hb
 have hr : Rel E G { st with bx:=(n,cs.set off (.sl sz [])) :: st.bx } a w:={
  df:=h.df
  tm:=h.tm
  bx:=by
   intro m ds hm
   have : getB ((n,cs.set off (.sl sz [])) :: st.bx) m=some ds:=hm
   rw[G6] at this
   split at this
   ·rename_i he; subst he
    simp only [Option.some.injEq] at this; subst this
    intro j c hj
    rw[List.getElem?_set] at hj
    split at hj
    ·rename_i he; subst he
     simp only [Option.some.injEq] at hj; subst hj
     obtain ⟨q1,q2,v,q3,q4⟩:=hbox off _ hc
     cases q4
     exact ⟨q1,q2,_,q3,CRep.nil sz⟩
    ·exact hbox j c hj
   ·exact h.bx m ds this
  ow:=h.ow
  wf:=h.wf
  olB:=h.olB
  olO:=h.olO
  nt:=h.nt
  oA:=h.oA
  im:=h.im
  im':=h.im'
  fr:=h.fr
  hB:=h.hB
  lo:=h.lo
  bd:=by
   intro t k ds hm hne
   have : getB ((n,cs.set off (.sl sz [])) :: st.bx) (.bd t k)=some ds:=hm
   rw[G6] at this
   split at this
   ·rename_i he; subst he
    exact h.bd t k cs hb (by intro e; subst e; simp at hlt)
   ·exact h.bd t k ds this hne
  mp:=h.mp }
 obtain ⟨q1,q2,v,q3,q4⟩:=hbox off _ hc
 cases q4
 exact hr.addOwn (p:=.b n off) (v:=.slice none 0 0) ⟨q3,q1⟩ (.inl J)
theorem Cf {c : Code} {Q : Exit→St→Prop} (n : Nm) (off sz : Nat) {cs ds : List C} (hb : st.box n=some cs) (hc : cs[off]? = some (.o (.slice none 0 0))) (hds : cs.set off (.sl sz [])=ds)
  (h : AWP Z N c Q (({ st with bx:=(n,ds) :: st.bx } : St).addOwn (.b n off) sz)) : AWP Z N c Q st:=by
 subst hds
 exact fun E G a w hr hE=>h E G a w (hr.own0 hb hc) hE
end
end Go.Abs
namespace Go.Abs
variable {Z : Pg}
section
variable {N : Nat} {st : St} {ops : Array Oper} {rest : List Oper} {K : St→Prop} {o : Oper} {d k : Nat} {fo x : Operand} {ts : Array TypeId} {m : List UInt8}
end
end Go.Abs
namespace Go.Abs
theorem U {α : Type} {o : Option α} {e : α} (h : o=some e) : ∃ x,o=some x∧x=e:=⟨e,h,rfl⟩
theorem gU {p : Prop} {b : Bool} (_ : p) : b=b:=rfl
theorem tR {next : St→Prop} {Q : Exit→St→Prop} {s : St} (h : Q .ret s) : Hr next Q .ret s:=h
theorem bR {id : Nat} {Q : Exit→St→Prop} {s : St} (h : Q .ret s) : Cv id Q .ret s:=h
theorem ak {e : Eff} {s : St} {p : Pl} {sz : Nat} (hk : (!(e.drop.any (Pl.beq p)) && e.gain.isNone)=true) (h : s.own p=some sz) : (ap e s).own p=some sz:=by
 rw[Bool.and_eq_true] at hk
 obtain ⟨h1,h2⟩:=hk
 have hg : e.gain=none:=by simpa using h2
 rw[O8,Eff.go,hg]
 dsimp only
 have : ¬ p ∈ e.drop:=by
  intro hp
  have : e.drop.any (Pl.beq p)=true:=List.any_eq_true.2 ⟨p,hp,Pl.beq_self p⟩
  rw[this] at h1; simp at h1
 rw[if_neg this]
 exact h
theorem T6 {cs ds : List C} (h : ds.length=cs.length) : I4 cs 0 ds=ds:=by
 apply List.ext_getElem?
 intro j
 rw[S0 cs ds 0 j (by omega)]
 split
 ·rfl
 ·rename_i hj
  rw[List.getElem?_eq_none (by omega),List.getElem?_eq_none (by omega)]
theorem Kh {n : Nm} {cs ds : List C} (h : ds.length=cs.length) : (⟨n,0,cs,ds⟩ : Pass).old=cs:=by
 simp [Pass.old,h]
section
variable {Z : Pg} {N : Nat} {ops : Array Oper} {K : St→Prop} {st : St} {o : Oper} {d : Nat}
theorem Jz {rest : List Oper} {fo : Operand} {args : Array Operand} {ts : Array TypeId} {f : FuncId} {xs cxs : List X} {res : X} (n : Nm) {cs ds : List C}
  (ho : o.op = .call { callee:=.value fo,args:=args,argTypes:=ts }) (hg : G8 ops st o=some true)
  (hf : lk Z.T st 0 fo=some (true, .fn f [])) (ha : M2 Z.T st ts.toList args.toList=some (true,xs)) (hb : st.box n=some cs) (hd : o.dst=some d)
  (hs : Ctr Z f cxs [cs] res none [ds]) (hl : ds.length=cs.length) (htr : cxs.map (X.tr [⟨n,0,cs,ds⟩])=xs) (htrok : Z7 [⟨n,0,cs,ds⟩] cxs=true) (hnb : n.isBd=false) (hc : res.clean=true) (hN : Nat.ble (d + 1) N=true)
  (h : AL Z N ops rest K ((st.store n ds 0 ds.length).put d (true,res))) : AL Z N ops (o :: rest) K st:=by
 refine Ii [⟨n,0,cs,ds⟩] ho hg hf ha htr htrok (by intro p hp; simp at hp; subst hp; exact hb) ?_ ?_ hc hd hN ?_
 ·simp [M9,hl,hnb]
 ·simpa [Kh hl] using hs
 ·simpa [St.stores,T6 hl] using h
theorem Lk {rest : List Oper} {B : List Nat} {s0 : St} {k : Nat} {acc : List (Nat × Eff × Foot)} {Q : St→Prop} {fo : Operand} {args : Array Operand} {ts : Array TypeId} {f : FuncId} {xs cxs : List X} {res : X} (n : Nm) {cs ds : List C} (hk : ops[k]? = some o)
  (ho : o.op = .call { callee:=.value fo,args:=args,argTypes:=ts }) (hg : G8 ops (rs (foot ops o [n] []) st) o=some true)
  (hf : lk Z.T (rs (foot ops o [n] []) st) 0 fo=some (true, .fn f [])) (ha : M2 Z.T (rs (foot ops o [n] []) st) ts.toList args.toList=some (true,xs)) (hb : (rs (foot ops o [n] []) st).box n=some cs) (hd : o.dst=some d)
  (hs : Ctr Z f cxs [cs] res none [ds]) (hl : ds.length=cs.length) (htr : cxs.map (X.tr [⟨n,0,cs,ds⟩])=xs) (htrok : Z7 [⟨n,0,cs,ds⟩] cxs=true) (hnb : n.isBd=false) (hc : res.clean=true) (hN : Nat.ble (d + 1) N=true)
  (hr : Draw Z N s0 ops B (k + 1) rest (acc++[(k,{ d:=some (d,true,res),b:=some (n,ds),drop:=.t d :: N5 n 0 ds.length },foot ops o [n] [])]) (ap { d:=some (d,true,res),b:=some (n,ds),drop:=.t d :: N5 n 0 ds.length } st) Q) :
  Draw Z N s0 ops B k (o :: rest) acc st Q:=by
 refine Zc ⟨n,0,cs,ds⟩ hk ho hg hf ha htr htrok hb (by simp [hl]) ?_ hc hd hN ?_ hnb
 ·simpa [Kh hl] using hs
 ·simpa [T6 hl] using hr
end
end Go.Abs
namespace Go.Abs
variable {Z : Pg}
theorem Ni {f : FuncId} {args : List X} (us : List Value) {res : X} {v : Value} (hen : P8 Z f) (ha : ∀ (w : World) (G : Gh) (vs : List Value),All2 (XRep w G) args vs→vs=us)
  (hc : ∀ w,Calls Z.P f us.toArray w fun e w'=>e = .returned v∧w'=w) (hr : ∀ w G,XRep w G res v) : Ctr Z f args [] res none []:=by
 refine ⟨hen,fun w G vs hvs hwf hbx hbox hown _=>?_⟩
 obtain rfl:=ha w G vs hvs
 refine (hc w).mono ?_
 rintro e w' ⟨rfl,rfl⟩
 exact ⟨v,G,rfl,Fr.refl _ _ _,fun _ _ h=>h,fun _ _ _ h=>h,hwf,hr _ _,fun _=>rfl,fun j cs h=>by simp at h,fun sz h=>by simp at h,fun b o h=>absurd h (hown b o _)⟩
def St.val (st : St) (k : Nat) (n : Nm) (sz off len : Nat) (u : Value) : St:={ st with t:=(k,true, .v (.msv n sz off len u)) :: st.t }
theorem Rel.val {E : Env} {G : Gh} {st : St} {a : Act} {w : World} (h : Rel E G st a w) {k sz off len : Nat} {n : Nm} (hs : st.get k=some (true, .v (.ms n sz off len))) (hl : 0 < len) : ∃ u,Rel E G (st.val k n sz off len u) a w:=by
 obtain ⟨v,hv,hv1,_⟩:=h.tm _ _ _ hs
 refine ⟨v,{ df:=h.df,tm:=?_,bx:=h.bx,ow:=h.ow,wf:=h.wf,olB:=h.olB,olO:=h.olO,nt:=h.nt,oA:=h.oA,im:=h.im,im':=h.im',fr:=h.fr,hB:=h.hB,lo:=h.lo,bd:=h.bd,mp:=h.mp }⟩
 intro j g x hj
 have hj2 : getT ((k,true, .v (.msv n sz off len v)) :: st.t) j=some (g,x):=hj
 rw[J9] at hj2
 split at hj2
 ·rename_i he; subst he
  simp only [Option.some.injEq,Prod.mk.injEq] at hj2
  obtain ⟨rfl,rfl⟩:=hj2
  refine ⟨v,hv,fun _=>?_,fun hg=>by simp at hg⟩
  rcases hv1 rfl with ⟨e,_⟩ | e
  ·omega
  ·exact ⟨rfl,e⟩
 ·exact h.tm _ _ _ hj2
theorem M3 {N : Nat} {ops : Array Oper} {rest : List Oper} {K : St→Prop} {st : St} (k : Nat) {sz off len : Nat} {n : Nm} (hs : st.get k=some (true, .v (.ms n sz off len))) (hl : 0 < len)
  (h : ∀ u,AL Z N ops rest K (st.val k n sz off len u)) : AL Z N ops rest K st:=fun E G a w hr hE=>by
 obtain ⟨u,hu⟩:=hr.val hs hl
 exact h u E G a w hu hE
def St.same (st : St) (j : Nat) (n : Nm) (sz off len : Nat) : St:={ st with t:=(j,true, .v (.ms n sz off len)) :: st.t }
theorem Rel.same {E : Env} {G : Gh} {st : St} {a : Act} {w : World} (h : Rel E G st a w) {j k sz off len : Nat} {n : Nm} {u : Value} (hj : st.get j=some (true, .v (.c (.o u)))) (hs : st.get k=some (true, .v (.msv n sz off len u))) :
  Rel E G (st.same j n sz off len) a w:=by
 obtain ⟨v,hv,hv1,_⟩:=h.tm _ _ _ hj
 obtain ⟨v',hv',hv2,_⟩:=h.tm _ _ _ hs
 have e1 : v=u:=by
  have : CRep w G.S (.o u) v:=hv1 J
  cases this; rfl
 subst e1
 refine { df:=h.df,tm:=?_,bx:=h.bx,ow:=h.ow,wf:=h.wf,olB:=h.olB,olO:=h.olO,nt:=h.nt,oA:=h.oA,im:=h.im,im':=h.im',fr:=h.fr,hB:=h.hB,lo:=h.lo,bd:=h.bd,mp:=h.mp }
 intro i g x hi
 have hj2 : getT ((j,true, .v (.ms n sz off len)) :: st.t) i=some (g,x):=hi
 rw[J9] at hj2
 split at hj2
 ·rename_i he; subst he
  simp only [Option.some.injEq,Prod.mk.injEq] at hj2
  obtain ⟨rfl,rfl⟩:=hj2
  refine ⟨v,hv,fun _=>?_,fun hg=>by simp at hg⟩
  obtain ⟨e,q⟩:=hv2 rfl
  subst e
  exact .inr q
 ·exact h.tm _ _ _ hj2
theorem Eh {N : Nat} {ops : Array Oper} {rest : List Oper} {K : St→Prop} {st : St} (j k : Nat) {sz off len : Nat} {n : Nm} {u : Value} (hj : st.get j=some (true, .v (.c (.o u)))) (hs : st.get k=some (true, .v (.msv n sz off len u)))
  (h : AL Z N ops rest K (st.same j n sz off len)) : AL Z N ops rest K st:=fun E G a w hr hE=>h E G a w (hr.same hj hs) hE
section
variable {st : St} {ty : TypeId} {gate : Bool}
theorem Ye {E : Env} {G : Gh} {a : Act} {w : World} (hr : Rel E G st a w) : ∀ {os : List Operand} {ys : List Y},(os.map fun o=>match o with | .tmp k=>(match st.get k with | some (true, .v y)=>some y | _=>none) | _=>none)=ys.map some →
  All2 (YRep w G) ys (os.map a.eval)
 | [],[],_=>O
 | [],_ :: _,h=>by simp at h
 | _ :: _,[],h=>by simp at h
 | o :: os,y :: ys,h=>by
  simp only [List.map_cons,List.cons.injEq] at h
  refine ⟨?_,Ye hr h.2⟩
  have h1:=h.1
  split at h1
  ·rename_i k
   split at h1
   ·rename_i y' he
    simp only [Option.some.injEq] at h1; subst h1
    exact F4 (T:=[]) (ty:=0) (o:=.tmp k) hr he J
   ·simp at h1
  ·simp at h1
theorem Y6 {f : FuncId} {caps : Array Operand} {ys : List Y} (h : (caps.toList.map fun o=>match o with | .tmp k=>(match st.get k with | some (true, .v y)=>some y | _=>none) | _=>none)=ys.map some) :
  PureOk Z st (.makeFunc (.func f) #[] caps) ty gate (.fn f ys):=by
 intro o E G a w ho _ hr hgt
 refine ⟨.func (.func f) #[] (caps.toList.map a.eval).toArray,⟨_,rfl,Ye hr h⟩,?_⟩
 have : (caps.toList.map a.eval).toArray=caps.map a.eval:=by rw[← Array.toList_map,Array.toArray_toList]
 rw[this]
 simp [execOp,ho,Instr.makeFunc]
end
structure SetFn (Z : Pg) (f : FuncId) : Prop where
 en : P8 Z f
 run : ∀ (w : World) (pb po qb qo : Nat) (m n c : Int) (blk off len cap : Nat),w.cell? ⟨pb,po,none⟩=some (.int .i64 n)→w.cell? ⟨qb,qo,none⟩=some (.slice (some ⟨blk,off,none⟩) len cap)→0≤m→(len : Int)=n + 1→(len : Int) < 9223372036854775807 →
  (∀ j,j < len→(w.cell? ⟨blk,off + j,none⟩).isSome=true)→(∀ j,j < len→w.frozen? ⟨blk,off + j,none⟩=false) →
  Calls Z.P f #[.int .i64 m, .int .u64 c, .pointer (some ⟨pb,po,none⟩), .pointer (some ⟨qb,qo,none⟩)] w fun e w'=>e = .returned (.tuple #[])∧w'=if m≤n then w.setCell ⟨blk,off + m.toNat,none⟩ (.int .u64 c) else w
end Go.Abs
namespace Go.Abs
variable {Z : Pg}
def arr (k : IntKind) (g : Nat→Int) (n : Nat) : List C:=(List.range n).map fun m=>C.i k (g m)
section
variable {N : Nat} {ops : Array Oper} {rest : List Oper} {K : St→Prop} {st : St} {o : Oper} {d : Nat} {ty : TypeId}
end
section
variable {N : Nat} {ops : Array Oper} {rest : List Oper} {st : St} {o : Oper} {s0 : St} {B : List Nat} {q : Nat} {acc : List Lnk} {Q : St→Prop}
end
end Go.Abs
namespace Go.Abs
theorem rko {ops : Array Oper} {o : Oper} {rb : List Nm} {st : St} {p : Pl} {sz : Nat} (h : st.own p=some sz) : (rs (foot ops o rb [p]) st).own p=some sz:=by
 show getO (Gi st [p]) p=some sz
 simp only [Gi,h]
 rw[L9,if_pos J]
theorem ak2 {e : Eff} {s : St} {p : Pl} {sz : Nat} (hk : e.keeps p=true) (h : s.own p=some sz) : (ap e s).own p=some sz:=by
 unfold Eff.keeps at hk
 rw[Bool.and_eq_true] at hk
 obtain ⟨h1,h2⟩:=hk
 rw[O8,Eff.go]
 have hd : ¬ p ∈ e.drop:=by
  intro hp
  have : e.drop.any (Pl.beq p)=true:=List.any_eq_true.2 ⟨p,hp,Pl.beq_self p⟩
  rw[this] at h1; simp at h1
 cases hg : e.gain with
 | none=>dsimp only; rw[if_neg hd]; exact h
 | some x =>
  obtain ⟨q,y⟩:=x
  rw[hg] at h2
  dsimp only at h2 ⊢
  have hq : ¬ q=p:=by
   intro z; subst z; rw[Pl.beq_self] at h2; simp at h2
  rw[if_neg hq,if_neg hd]; exact h
end Go.Abs
namespace Go.Abs
open Go.RowKit (Below)
variable {Z : Pg}
def intAt (b : Option Obj) : Prop:=∃ cs t s m,b=some (.cells cs t s)∧cs[0]? = some (.int .i64 m)
theorem intAt.cell {w : World} {g : Nat} (h : intAt w.heap[g]?) : ∃ m,w.cell? ⟨g,0,none⟩=some (.int .i64 m):=by
 obtain ⟨cs,t,s,m,h1,h2⟩:=h
 exact ⟨m,by unfold World.cell?; rw[h1]; simpa using h2⟩
theorem intAt.of {w : World} {g : Nat} {m : Int} (h : w.cell? ⟨g,0,none⟩=some (.int .i64 m)) : intAt w.heap[g]? := by
 unfold World.cell? at h
 dsimp only at h
 split at h
 ·rename_i cs t s hb
  exact ⟨cs,t,s,m,hb,by simpa using h⟩
 ·simp at h
theorem Ctr.wk {Z Z' : Pg} {f : FuncId} {args : List X} {bs bs' : List (List C)} {res : X} {ro : Option Nat} (hP : Z'.P=Z.P) (hg : ∀ g ∈ Z.gv,g ∈ Z'.gv) (h : Ctr Z f args bs res ro bs') : Ctr Z' f args bs res ro bs':=by
 obtain ⟨⟨fn,h1,h2,h3⟩,h4⟩:=h
 refine ⟨⟨fn,by rw[hP]; exact h1,h2,h3⟩,fun w G vs a b c d e g=>?_⟩
 rw[hP]
 exact h4 w G vs a b c d e fun x hx=>g x (hg x hx)
end Go.Abs
namespace Go.Abs
variable {Z : Pg}
section
variable {N : Nat} {st : St} {ops : Array Oper} {o : Oper} {d k : Nat} {fo x y : Operand} {ts : Array TypeId} {m : List UInt8}
end
end Go.Abs
namespace Go.Abs
variable {Z : Pg}
theorem XRep.ov {w : World} {G : Gh} {u v : Value} (h : XRep w G (.v (.c (.o u))) v) : v=u:=by
 cases h; rfl
def mget : List (List UInt8 × Value)→List UInt8→Option Value
 | [],_=>none
 | (a,v) :: r,k=>if a=k then some v else mget r k
def mput : List (List UInt8 × Value)→List UInt8→Value→List (List UInt8 × Value)
 | [],k,v=>[(k,v)]
 | (a,u) :: r,k,v=>if a=k then (k,v) :: r else (a,u) :: mput r k v
def mrow (p : List UInt8 × Value) : Value × Value:=((.string ⟨p.1.toArray⟩ : Value),p.2)
theorem uA2 {a k : List UInt8} (h : (Value.string ⟨a.toArray⟩) = .string ⟨k.toArray⟩) : a=k:=by
 injection h with h; injection h with h; injection h
theorem Cz (k : List UInt8) : ∀ (ms : List MapEntry) (es : List (List UInt8 × Value)) (i : Nat),ms.map (fun e=>(e.key,e.val))=es.map mrow →
  (mget es k=none∧Instr.findNow .string (.string ⟨k.toArray⟩) ms i=some none ∧ ∀ v,mput es k v=es++[(k,v)]) ∨
  ∃ j e v,mget es k=some v∧Instr.findNow .string (.string ⟨k.toArray⟩) ms i=some (some (i + j,v))∧ms[j]? = some e∧e.key = .string ⟨k.toArray⟩ ∧
   ∀ u,(ms.modify j fun e=>{ e with key:=.string ⟨k.toArray⟩,val:=u }).map (fun e=>(e.key,e.val))=(mput es k u).map mrow
 | [],[],i,_=>.inl ⟨rfl,rfl,fun _=>rfl⟩
 | [],_ :: _,_,h=>by simp at h
 | _ :: _,[],_,h=>by simp at h
 | e :: ms,(a,u) :: es,i,h=>by
  simp only [List.map_cons,List.cons.injEq,mrow,Prod.mk.injEq] at h
  obtain ⟨⟨h1,h2⟩,h3⟩:=h
  have hs : Instr.sameNow .string (.string ⟨k.toArray⟩) e.key=some (decide (k=a)):=by
   rw[h1]
   obtain ⟨r,hr,hiff⟩:=MapKept.sameNow_of_keys (d:=.string) (a:=.string ⟨k.toArray⟩) (b:=.string ⟨a.toArray⟩) (by simp [MapKept.IsKey]) (by simp [MapKept.IsKey])
   rw[hr]
   congr 1
   by_cases hk : k=a
   ·subst hk; rw[hiff.2 J]; simp
   ·rw[decide_eq_false hk]
    cases r with
    | false=>rfl
    | true=>exact absurd (uA2 (hiff.1 J)) hk
  by_cases hk : k=a
  ·subst hk
   right
   refine ⟨0,e,u,by simp [mget],?_,rfl,h1,fun x=>?_⟩
   ·rw[Instr.findNow,hs]; simp [h2]
   ·simp only [mput,if_pos,List.modify_zero_cons,List.map_cons,mrow]
    rw[h3]
  ·rw[Instr.findNow,hs,decide_eq_false hk]
   have hk' : ¬ a=k:=fun q=>hk q.symm
   rcases Cz k ms es (i + 1) h3 with ⟨q1,q2,q3⟩ | ⟨j,e',v,q1,q2,q3,q4,q5⟩
   ·exact .inl ⟨by simp [mget,hk',q1],q2,fun v=>by simp [mput,hk',q3]⟩
   ·refine .inr ⟨j + 1,e',v,by simp [mget,hk',q1],?_,by simpa using q3,q4,fun x=>?_⟩
    ·rw[q2,show i + 1 + j=i + (j + 1) by omega]
    ·simp only [List.modify_succ_cons,List.map_cons,mput,if_neg hk',mrow,q5]
     rw[h1,h2]
section
variable {N : Nat} {ops : Array Oper} {rest : List Oper} {K : St→Prop} {st : St} {o : Oper} {d : Nat}
def St.addMap (st : St) (b : Nat) (f : Bool) (es : List (List UInt8 × Value)) : St:={ st with mp:=(b,f,es) :: st.mp }
theorem Rel.addMap {E : Env} {G : Gh} {a : Act} {w : World} (h : Rel E G st a w) {b : Nat} {f : Bool} {es : List (List UInt8 × Value)} (h1 : MapAt w b es) (h2 : f=true→E.B≤b) (h3 : ∀ o,(∀ n,G.W b o ≠ .box n) ∧ ∀ p,G.W b o ≠ .own p) : Rel E G (st.addMap b f es) a w where
 df:=h.df
 tm:=h.tm
 bx:=h.bx
 ow:=h.ow
 wf:=h.wf
 olB:=h.olB
 olO:=h.olO
 nt:=h.nt
 oA:=h.oA
 im:=h.im
 im':=h.im'
 fr:=h.fr
 hB:=h.hB
 lo:=h.lo
 bd:=h.bd
 mp:=fun x hx=>by
  rcases List.mem_cons.1 hx with rfl | hx
  ·exact ⟨h1,h2,h3⟩
  ·exact h.mp x hx
theorem Sw {t : TypeId} (ho : o.op = .makeMap t none) (hg : G8 ops st o=some true) (hd : o.dst=some d) (hN : Nat.ble (d + 1) N=true)
  (h : ∀ b,AL Z N ops rest K ((st.put d (true, .v (.c (.o (.map (some b)))))).addMap b true [])) : AL Z N ops (o :: rest) K st:=by
 intro E G a w hr hE K' hK
 have hdN : d < E.nt:=by rw[hE.nt]; exact Nat.le_of_ble_eq_true hN
 unfold wpList
 rw[J6 hr hg,if_pos J]
 refine .inl ?_
 unfold Oper.wp
 have : (execOp a.eval o).run Z.P w = .ok (.value (.map (some w.heap.size))) (w.alloc (.map #[] 0)):=by
  simp [execOp,ho,Instr.makeMap]
 rw[this,Oper.upon_value,hd]
 have hg1 : Rel E G st a (w.alloc (.map #[] 0)) := hr.grow (Bt w _) (fun _ _ _=>rfl) (SameA.refl _ _) (fun b o' hb=>by have := hr.wf b o' hb; simp; omega)
 have hp:=hg1.put hdN (g:=true) (x:=.v (.c (.o (.map (some w.heap.size))))) (v:=.map (some w.heap.size)) (fun _=>CRep.o _ J) (fun hf=>by simp at hf)
 have hno : ∀ o',G.W w.heap.size o' = .none:=fun o'=>by
  cases hw : G.W w.heap.size o' with
  | none=>rfl
  | _=>have := hr.wf w.heap.size o' (by rw[hw]; simp); omega
 have hm:=hp.addMap (b:=w.heap.size) (f:=true) (es:=[]) ⟨#[],0,Array.getElem?_push_size,rfl⟩ (fun _=>Nat.le_trans hr.hB hr.fr.size) (fun o'=>by rw[hno]; exact ⟨fun n=>by simp,fun p=>by simp⟩)
 exact h w.heap.size E G _ _ hm hE K' hK
theorem Rel.mem_map {E : Env} {G : Gh} {a : Act} {w : World} (h : Rel E G st a w) {i b : Nat} {f : Bool} {es : List (List UInt8 × Value)} (hm : st.mp[i]? = some (b,f,es)) : MapAt w b es∧(f=true→E.B≤b) ∧ ∀ o,(∀ n,G.W b o ≠ .box n) ∧ ∀ p,G.W b o ≠ .own p :=
 h.mp _ (List.mem_of_getElem? hm)
def mval (es : List (List UInt8 × Value)) (k : List UInt8) (z : Value) : Value:=(mget es k).getD z
theorem Jh {w : World} {t kt et : TypeId} {b : Nat} {es : List (List UInt8 × Value)} {k : List UInt8} {z : Value} (ht : Z.P.underlying t=some (.map kt et)) (hk : Z.P.underlying kt=some .string) (hz : (Z.P.info? et).bind (·.zero)=some z) (hm : MapAt w b es) (ok : Bool) :
  (Instr.lookup t (.map (some b)) (.string ⟨k.toArray⟩) ok).run Z.P w = .ok (if ok then .tuple #[mval es k z, .bool (mget es k).isSome] else mval es k z) w:=by
 obtain ⟨ms,clock,h1,h2⟩:=hm
 have hck : ∀ e n,(Instr.checkKey e (n + 1) kt (.string ⟨k.toArray⟩)).run Z.P w = .ok () w:=fun e n=>MapKept.run_checkKey hk (by simp [MapKept.IsKey]) e n
 have hzr : (zeroValue et).run Z.P w = .ok z w:=by
  obtain ⟨j,h3,h4⟩:=Option.bind_eq_some_iff.1 hz
  simp [zeroValue,typeInfo,h3,h4]
 rcases Cz k ms.toList es 0 h2 with ⟨q1,q2,_⟩ | ⟨i,e,v,q1,q2,_⟩
 ·simp [Instr.lookup,run_underlying ht,MapKept.run_getObj_map h1,hck,MapKept.run_findKey hk q2,hzr,Result.andThen,q1,mval]
 ·simp [Instr.lookup,run_underlying ht,MapKept.run_getObj_map h1,hck,MapKept.run_findKey hk q2,Result.andThen,q1,mval]
theorem Pe {ty : TypeId} {gate g gk : Bool} {t kt et : TypeId} {x y : Operand} {b i : Nat} {f : Bool} {es : List (List UInt8 × Value)} {k : List UInt8} {z : Value} {c : C} (hx : lk Z.T st ty x=some (g, .v (.c (.o (.map (some b)))))) (hy : lk Z.T st ty y=some (gk, .v (.c (.s k))))
  (hg : gate=true→g=true) (hgk : gate=true→gk=true) (hm : st.mp[i]? = some (b,f,es)) (ht : Z.P.underlying t=some (.map kt et)) (hk : Z.P.underlying kt=some .string) (hz : (Z.P.info? et).bind (·.zero)=some z) (hc : ∀ w S,CRep w S c (mval es k z)) :
  PureOk Z st (.lookup t x y false) ty gate (.v (.c c)):=by
 intro o E G a w ho _ hr hgt
 have h1:=XRep.ov (F4 hr hx (hg hgt))
 have h2:=XRep.str (F4 hr hy (hgk hgt))
 refine ⟨mval es k z,hc _ _,?_⟩
 simp [execOp,ho,h1,h2,Jh ht hk hz (hr.mem_map hm).1]
theorem Cl {ty : TypeId} {gate g gk : Bool} {t kt et : TypeId} {x y : Operand} {b i : Nat} {f : Bool} {es : List (List UInt8 × Value)} {k : List UInt8} {z : Value} {c : C} {r : Bool} (hx : lk Z.T st ty x=some (g, .v (.c (.o (.map (some b)))))) (hy : lk Z.T st ty y=some (gk, .v (.c (.s k))))
  (hg : gate=true→g=true) (hgk : gate=true→gk=true) (hm : st.mp[i]? = some (b,f,es)) (ht : Z.P.underlying t=some (.map kt et)) (hk : Z.P.underlying kt=some .string) (hz : (Z.P.info? et).bind (·.zero)=some z) (hc : ∀ w S,CRep w S c (mval es k z)) (hr' : (mget es k).isSome=r) :
  PureOk Z st (.lookup t x y true) ty gate (.tup [.c c, .c (.b r)]):=by
 intro o E G a w ho _ hr hgt
 have h1:=XRep.ov (F4 hr hx (hg hgt))
 have h2:=XRep.str (F4 hr hy (hgk hgt))
 refine ⟨.tuple #[mval es k z, .bool (mget es k).isSome],⟨[mval es k z, .bool (mget es k).isSome],rfl,hc _ _,?_,O⟩,?_⟩
 ·rw[hr']; exact CRep.b _
 ·simp [execOp,ho,h1,h2,Jh ht hk hz (hr.mem_map hm).1]
theorem uBN {w : World} {b : Nat} {M : Nat→Nat→Prop} {B : Nat} {ob : Obj} {ms : Array MapEntry} {clock : Nat} (hb : w.heap[b]? = some (.map ms clock)) (ms' : Array MapEntry) (c' : Nat) (hB : B≤b) : Fr M B w { w with heap:=w.heap.setIfInBounds b (.map ms' c') } where
 os:=rfl
 tape:=rfl
 output:=rfl
 size:=by simp
 block:=fun k hk _=>by simp [Array.getElem?_setIfInBounds,show ¬ b=k by omega]
 cell:=fun k o' hk _=>by
  unfold World.cell?
  simp [Array.getElem?_setIfInBounds,show ¬ b=k by omega]
 mark:=fun k hk=>by
  unfold L0
  simp [Array.getElem?_setIfInBounds,show ¬ b=k by omega]
 shape:=fun k hk=>by
  unfold World.shape?
  simp [Array.getElem?_setIfInBounds,show ¬ b=k by omega]
def St.setMap (st : St) (es : List (List UInt8 × Value)) : St:={ st with mp:=match st.mp with | (b,f,_) :: r=>(b,f,es) :: r | []=>[] }
theorem Rel.setMap {E : Env} {G : Gh} {a : Act} {w : World} (h : Rel E G st a w) {b : Nat} {es es' : List (List UInt8 × Value)} (hm : st.mp=[(b,true,es)]) {ms' : Array MapEntry} {c' : Nat} (he : ms'.toList.map (fun e=>(e.key,e.val))=es'.map mrow) :
  Rel E G (st.setMap es') a { w with heap:=w.heap.setIfInBounds b (.map ms' c') }:=by
 have h0:=h.mp (b,true,es) (by rw[hm]; simp)
 dsimp only at h0
 obtain ⟨⟨ms,clock,hb,_⟩,hB,hno⟩:=h0
 have hB:=hB J
 have hcell : ∀ k o',({ w with heap:=w.heap.setIfInBounds b (.map ms' c') } : World).cell? ⟨k,o',none⟩=w.cell? ⟨k,o',none⟩:=fun k o'=>by
  unfold World.cell?
  by_cases hk : b=k
  ·subst hk
   simp only [hb]
   have hlt:=(Array.getElem?_eq_some_iff.1 hb).1
   simp [Array.getElem?_setIfInBounds,hlt]
  ·simp [Array.getElem?_setIfInBounds,hk]
 have hmark : ∀ k,L0 ({ w with heap:=w.heap.setIfInBounds b (.map ms' c') } : World) k=L0 w k:=fun k=>by
  unfold L0
  by_cases hk : b=k
  ·subst hk
   have e1 : (w.heap.setIfInBounds b (.map ms' c'))[b]? = some (.map ms' c'):=(MapKept.heap_set hb).1
   simp only [e1,hb]
  ·simp [Array.getElem?_setIfInBounds,hk]
 have hshape : ∀ k,({ w with heap:=w.heap.setIfInBounds b (.map ms' c') } : World).shape? k=w.shape? k:=fun k=>by
  unfold World.shape?
  by_cases hk : b=k
  ·subst hk
   have e1 : (w.heap.setIfInBounds b (.map ms' c'))[b]? = some (.map ms' c'):=(MapKept.heap_set hb).1
   simp only [e1,hb]
  ·simp [Array.getElem?_setIfInBounds,hk]
 have hmono : ∀ {c : C} {v : Value},CRep w G.S c v→CRep ({ w with heap:=w.heap.setIfInBounds b (.map ms' c') } : World) G.S c v:=fun hc=>hc.mono (fun _ _ h=>h) (fun _ _ _=>hcell _ _)
 constructor
 ·exact h.df
 ·intro k g x hk
  obtain ⟨v,hv,h1,h2⟩:=h.tm k g x hk
  exact ⟨v,hv,fun hg=>(h1 hg).mono (fun _ _ h=>h) (fun _ _ _=>hcell _ _) (fun _ _=>rfl),h2⟩
 ·intro n cs hn j c hj
  obtain ⟨q1,q2,v,q3,q4⟩:=h.bx n cs hn j c hj
  exact ⟨q1,by rw[O5 (hmark _)]; exact q2,v,by rw[hcell]; exact q3,hmono q4⟩
 ·intro p sz hp
  obtain ⟨v,hv,ho⟩:=h.ow p sz hp
  refine ⟨v,?_,?_⟩
  ·cases p with
   | t k=>exact hv
   | b n off=>exact ⟨by rw[hcell]; exact hv.1,hv.2⟩
  ·rcases ho with ho | ⟨blk,len,cap,e,q1,q2,q3,q4⟩
   ·exact .inl ho
   ·exact .inr ⟨blk,len,cap,e,q1,q2,⟨by rw[hshape]; exact q3.1,by rw[hmark]; exact q3.2⟩,fun o' ho1 ho2=>by rw[O5 (hmark _)]; exact q4 o' ho1 ho2⟩
 ·intro k o' hk
  have := h.wf k o' hk
  simpa using this
 ·exact h.olB
 ·exact h.olO
 ·exact h.nt
 ·exact h.oA
 ·exact h.im
 ·exact h.im'
 ·exact h.fr.trans (uBN (ob:=.map ms clock) hb ms' c' hB)
 ·exact h.hB
 ·exact h.lo
 ·intro t k cs hn hne
  obtain ⟨q1,q2,x,q3,q4⟩:=h.bd t k cs hn hne
  exact ⟨q1,by rw[hshape]; exact q2,x,by rw[hcell]; exact q3,q4⟩
 ·intro x hx
  have hx : x ∈ ([(b,true,es')] : List (Nat × Bool × List (List UInt8 × Value))):=by simpa [St.setMap,hm] using hx
  obtain rfl : x=(b,true,es'):=by simpa using hx
  refine ⟨⟨ms',c',?_,he⟩,fun _=>hB,hno⟩
  have hlt:=(Array.getElem?_eq_some_iff.1 hb).1
  simp [Array.getElem?_setIfInBounds,hlt]
theorem W5 {ty : TypeId} {t kt et : TypeId} {x y v : Operand} {b : Nat} {es : List (List UInt8 × Value)} {k : List UInt8} {c : C} {u : Value} (hx : lk Z.T st ty x=some (true, .v (.c (.o (.map (some b)))))) (hy : lk Z.T st ty y=some (true, .v (.c (.s k)))) (hv : lk Z.T st ty v=some (true, .v (.c c)))
  (hm : st.mp=[(b,true,es)]) (ht : Z.P.underlying t=some (.map kt et)) (hk : Z.P.underlying kt=some .string) (hc : ∀ w S v,CRep w S c v→v=u) :
  Does Z N st none (.mapUpdate t x y v) ty (st.setMap (mput es k u)):=by
 intro o E G a w hd ho _ hr hE K Q hK
 have h1:=XRep.ov (F4 hr hx J)
 have h2:=XRep.str (F4 hr hy J)
 have h3 : a.eval v=u:=hc _ _ _ (F4 hr hv J)
 have h0:=hr.mp (b,true,es) (by rw[hm]; simp)
 dsimp only at h0
 obtain ⟨⟨ms,clock,hb,he⟩,_,_⟩:=h0
 have hck : ∀ e n,(Instr.checkKey e (n + 1) kt (.string ⟨k.toArray⟩)).run Z.P w = .ok () w:=fun e n=>MapKept.run_checkKey hk (by simp [MapKept.IsKey]) e n
 unfold Oper.wp
 rcases Cz k ms.toList es 0 he with ⟨q1,q2,q3⟩ | ⟨i,e,w',q1,q2,q3,q4,q5⟩
 ·have : (Instr.mapUpdate t (.map (some b)) (.string ⟨k.toArray⟩) u).run Z.P w = .ok () { w with heap:=w.heap.setIfInBounds b (.map (ms.push { key:=.string ⟨k.toArray⟩,val:=u,born:=clock }) (clock + 1)) }:=by
   simp [Instr.mapUpdate,run_underlying ht,MapKept.run_getObj_map hb,hck,MapKept.run_findKey hk q2,MapKept.run_setObj_map _ hb,Result.andThen]
  have hrun : (execOp a.eval o).run Z.P w = .ok .skip { w with heap:=w.heap.setIfInBounds b (.map (ms.push { key:=.string ⟨k.toArray⟩,val:=u,born:=clock }) (clock + 1)) }:=by
   simp [execOp,ho,h1,h2,h3,this]
  rw[hrun,Oper.upon_skip,hd]
  have := hr.setMap hm (es' := mput es k u) (ms' := ms.push { key := .string ⟨k.toArray⟩,val := u,born := clock }) (c' := clock + 1) (by rw[q3,Array.toList_push,List.map_append,List.map_append,he]; rfl)
  exact hK G undef _ this
 ·have hj : ms[i]? = some e:=by simpa using q3
  have hst : (Instr.keyThatStays e.key (.string ⟨k.toArray⟩)).run Z.P w = .ok (.string ⟨k.toArray⟩) w:=by
   rw[q4]; exact MapKept.run_keyThatStays (d:=.string) (by simp [MapKept.IsKey])
  have : (Instr.mapUpdate t (.map (some b)) (.string ⟨k.toArray⟩) u).run Z.P w = .ok () { w with heap:=w.heap.setIfInBounds b (.map (ms.modify i fun e=>{ e with key:=.string ⟨k.toArray⟩,val:=u }) clock) }:=by
   simp [Instr.mapUpdate,run_underlying ht,MapKept.run_getObj_map hb,hck,MapKept.run_findKey hk q2,hj,hst,MapKept.run_setObj_map _ hb,Result.andThen]
  have hrun : (execOp a.eval o).run Z.P w = .ok .skip { w with heap:=w.heap.setIfInBounds b (.map (ms.modify i fun e=>{ e with key:=.string ⟨k.toArray⟩,val:=u }) clock) }:=by
   simp [execOp,ho,h1,h2,h3,this]
  rw[hrun,Oper.upon_skip,hd]
  have := hr.setMap hm (es' := mput es k u) (ms' := ms.modify i fun e=>{ e with key := .string ⟨k.toArray⟩,val := u }) (c' := clock) (by rw[← q5 u]; simp [Array.toList_modify])
  exact hK G undef _ this
theorem Hz {N : Nat} {ι : Type} {c : Code} {Q : Exit→St→Prop} {st : St} (F : St) (V : ι→List (Nat × Bool × X)) (VB : ι→List (Nm × List C)) (VM : ι→List (Nat × Bool × List (List UInt8 × Value))) (ok : ι→Prop) (m : ι→Nat) (i0 : ι) (h0 : ok i0)
  (hs : Sub { t:=V i0++F.t,bx:=VB i0++F.bx,ow:=F.ow,mp:=VM i0 } st)
  (round : ∀ i,ok i→AWP Z N c (Hr (fun s=>∃ j,ok j∧m j < m i∧Sub { t:=V j++F.t,bx:=VB j++F.bx,ow:=F.ow,mp:=VM j } s) Q) { t:=V i++F.t,bx:=VB i++F.bx,ow:=F.ow,mp:=VM i }) : AWP Z N (.loop c) Q st :=
 P3 (fun i=>{ t:=V i++F.t,bx:=VB i++F.bx,ow:=F.ow,mp:=VM i }) ok m i0 h0 hs round
end
end Go.Abs
namespace Go.Abs
variable {Z : Pg} {st : St}
end Go.Abs
namespace Go.Abs
variable {Z : Pg}
inductive Loc where
 | box
 | res
def Zv (loc : Loc) (w' : World) (G' : Gh) (v : Value) (j off : Nat) (u : Value) : Prop :=
 match loc with
 | .box=>w'.cell? ⟨(G'.A (.o j)).1,(G'.A (.o j)).2 + off,none⟩=some u
 | .res=>∃ us ws : Array Value,v = .tuple us∧us[0]? = some (.agg ws)∧ws[off]? = some u
abbrev OS:=List (Nat × Nat × Nat)
def CtrO (Z : Pg) (f : FuncId) (args : List X) (bs : List (List C)) (os : OS) (res : X) (bs' : List (List C)) (loc : Loc) : Prop :=
 P8 Z f ∧ ∀ (cc : Nat) (w : World) (G : Gh) (vs : List Value),cc≤w.heap.size→All2 (XRep w G) args vs→(∀ b o,G.W b o ≠ .none→b < w.heap.size)→(∀ (j : Nat) (cs : List C),bs[j]? = some cs→R8 w G (.o j) cs) →
  (∀ b o n,G.W b o = .box n → ∃ j cs k,n = .o j∧bs[j]? = some cs∧k < cs.length∧b=(G.A n).1∧o=(G.A n).2 + k) →
  (∀ b o p,G.W b o = .own p→cc≤b) →
  (∀ e ∈ os,∃ u,w.cell? ⟨(G.A (.o e.1)).1,(G.A (.o e.1)).2 + e.2.1,none⟩=some u∧G.W (G.A (.o e.1)).1 ((G.A (.o e.1)).2 + e.2.1) = .box (.o e.1)∧OwnAt cc w G (.b (.o e.1) e.2.1) e.2.2 u)→GlOk Z w G →
  Calls Z.P f vs.toArray w fun e w'=>∃ v G',e = .returned v∧Fr (fun b o=>(∃ n,G.W b o = .box n) ∨ ∃ p,G.W b o = .own p) w.heap.size w w' ∧
   (∀ b o,G.W b o = .imm→G'.W b o = .imm)∧(∀ b o,b < w.heap.size→G'.W b o = .imm→G.W b o = .imm ∨ ∃ p,G.W b o = .own p)∧(∀ b o,G'.W b o ≠ .none→b < w'.heap.size)∧XRep w' G' res v ∧
   (∀ j,G'.A (.o j)=G.A (.o j))∧(∀ (j : Nat) (cs : List C),bs'[j]? = some cs→R8 w' G' (.o j) cs) ∧
   (∀ e ∈ os,∃ u,Zv loc w' G' v e.1 e.2.1 u∧OwnAt cc w' G' (.b (.o e.1) e.2.1) e.2.2 u)∧(∀ b o q,b < w.heap.size→G'.W b o = .own q → ∃ p,G.W b o = .own p)
def CtrX (Z : Pg) (H : List Value→Prop) (f : FuncId) (args : List X) (bs : List (List C)) (os : OS) (res : X) (bs' : List (List C)) (loc : Loc) : Prop :=
 P8 Z f ∧ ∀ (cc : Nat) (w : World) (G : Gh) (vs : List Value),cc≤w.heap.size→H vs→All2 (XRep w G) args vs→(∀ b o,G.W b o ≠ .none→b < w.heap.size)→(∀ (j : Nat) (cs : List C),bs[j]? = some cs→R8 w G (.o j) cs) →
  (∀ b o n,G.W b o = .box n → ∃ j cs k,n = .o j∧bs[j]? = some cs∧k < cs.length∧b=(G.A n).1∧o=(G.A n).2 + k) →
  (∀ b o p,G.W b o = .own p→cc≤b) →
  (∀ e ∈ os,∃ u,w.cell? ⟨(G.A (.o e.1)).1,(G.A (.o e.1)).2 + e.2.1,none⟩=some u∧G.W (G.A (.o e.1)).1 ((G.A (.o e.1)).2 + e.2.1) = .box (.o e.1)∧OwnAt cc w G (.b (.o e.1) e.2.1) e.2.2 u)→GlOk Z w G →
  Calls Z.P f vs.toArray w fun e w'=>∃ v G',e = .returned v∧Fr (fun b o=>(∃ n,G.W b o = .box n) ∨ ∃ p,G.W b o = .own p) w.heap.size w w' ∧
   (∀ b o,G.W b o = .imm→G'.W b o = .imm)∧(∀ b o,b < w.heap.size→G'.W b o = .imm→G.W b o = .imm ∨ ∃ p,G.W b o = .own p)∧(∀ b o,G'.W b o ≠ .none→b < w'.heap.size)∧XRep w' G' res v ∧
   (∀ j,G'.A (.o j)=G.A (.o j))∧(∀ (j : Nat) (cs : List C),bs'[j]? = some cs→R8 w' G' (.o j) cs) ∧
   (∀ e ∈ os,∃ u,Zv loc w' G' v e.1 e.2.1 u∧OwnAt cc w' G' (.b (.o e.1) e.2.1) e.2.2 u)∧(∀ b o q,b < w.heap.size→G'.W b o = .own q → ∃ p,G.W b o = .own p)
def st0O (args : List X) (bs : List (List C)) (os : OS) : St:={ t:=Ku 0 args,bx:=U5 0 bs,ow:=os.map fun e=>(.b (.o e.1) e.2.1,e.2.2) }
theorem Uo : ∀ {os : OS} {p : Pl} {sz : Nat},getO (os.map fun e=>((.b (.o e.1) e.2.1 : Pl),e.2.2)) p=some sz → ∃ e ∈ os,p = .b (.o e.1) e.2.1∧sz=e.2.2
 | [],p,sz,h=>by simp [getO] at h
 | e :: r,p,sz,h=>by
  rw[List.map_cons,L9] at h
  split at h
  ·rename_i he; subst he; simp at h; exact ⟨e,by simp,rfl,h.symm⟩
  ·obtain ⟨e',h1,h2⟩:=Uo h
   exact ⟨e',by simp [h1],h2⟩
def ownO (T : List (Option TyI)) (rs : List ResultVar) (s : St) (os : OS) : Loc→Prop
 | .box=>∀ e ∈ os,s.own (.b (.o e.1) e.2.1)=some e.2.2
 | .res=>∃ b t r n cs ti,rs = .cell b t :: r∧r≠[]∧s.get b=some (true, .v (.ptr n 0))∧s.box n=some cs∧tyAt T t=some ti∧ti.agg=true∧Nat.beq cs.length ti.n=true ∧ ∀ e ∈ os,e.1=0∧s.own (.b n e.2.1)=some e.2.2∧e.2.1 < cs.length
theorem Jo {w : World} {G : Gh} : ∀ {ys : List Y} {us : List Value},All2 (YRep w G) ys us→XRep w G (Ao ys) (if h : us.toArray.size=1 then us.toArray[0] else .tuple us.toArray)
 | [],[],_=>⟨[],rfl,O⟩
 | [y],[u],h=>h.1
 | y :: y' :: r,u :: u' :: q,h=>by
  simp only [List.size_toArray,List.length_cons]
  rw[dif_neg (by omega)]
  exact ⟨_,rfl,h⟩
 | [],_ :: _,h=>h.elim
 | _ :: _,[],h=>h.elim
 | [_],_ :: _ :: _,h=>h.2.elim
 | _ :: _ :: _,[_],h=>h.2.elim
def retO (T : List (Option TyI)) (rs : List ResultVar) (res : X) (bs' : List (List C)) (os : OS) (loc : Loc) : Exit→St→Prop
 | .normal,s | .ret,s=>resX T s rs=some res∧(∀ (j : Nat) (cs : List C),bs'[j]? = some cs→s.box (.o j)=some cs)∧ownO T rs s os loc
 | _,_=>False
def plO (loc : Loc) (n : Nm) : Pl→Option Pl
 | .b m off=>match loc with
  | .box=>(match m with | .o j=>some (.b (.o j) off) | _=>none)
  | .res=>if Nm.beq m n=true then some (.b (.o 0) off) else none
 | .t _=>none
theorem Rh {E : Env} {G : Gh} {s : St} {a : Act} {w : World} (hr : Rel E G s a w) {b t : Nat} {n : Nm} {cs : List C} {ti : TyI} (hg : s.get b=some (true, .v (.ptr n 0))) (hb : s.box n=some cs) (ht : tyAt Z.T t=some ti) (hagg : ti.agg=true) (hln : cs.length=ti.n) :
  ∃ us : List Value,(Au a.tmps (.cell b t)).run Z.P w = .ok (.agg us.toArray) w∧us.length=cs.length ∧ ∀ j u,us[j]? = some u→w.cell? ⟨(G.A n).1,(G.A n).2 + j,none⟩=some u:=by
 obtain ⟨v,hv,h1,_⟩:=hr.tm b _ _ hg
 have h1' : v=_:=h1 J
 subst h1'
 have hbox:=hr.bx n cs hb
 obtain ⟨us,hul,hus⟩:=Al (R:=fun j v=>w.cell? ⟨(G.A n).1,(G.A n).2 + 0 + j,none⟩=some v) ti.n fun j hj=>by
  have hj' : cs[j]? = some (cs[j]'(by omega)):=List.getElem?_eq_getElem (by omega)
  obtain ⟨_,_,v,hv,hcr⟩:=hbox _ _ hj'
  exact ⟨v,by simpa using hv⟩
 have hrun:=V5 (Z:=Z) (w:=w) ht hagg hul fun j v hv=>hus j v hv
 simp only [Instr.loadAt,Instr.sureAddr,Sem.run_bind,Sem.run_pure,Result.andThen_ok] at hrun
 refine ⟨us,?_,by omega,fun j u hj=>by simpa using hus j u hj⟩
 simp [Au,Array.getD_eq_getD_getElem?,hv,asAddr]
 simpa using hrun
theorem Ql {H : List Value→Prop} {f : FuncId} {fn : Func} {c : Code} {N : Nat} {rs : List ResultVar} {args : List X} {bs bs' : List (List C)} {os : OS} {res : X} {loc : Loc}
  (hf : Z.P.funcs[f]? = some fn) (hb : fn.body = some c) (hname : (fn.name == "runtime.NumGoroutine") = false) (hN : fn.ntmps = N) (hrs : fn.results = rs.toArray) (hlen' : Nat.ble args.length N = true) (hc : res.clean = true) (hz : Z.old = true)
  (h : AWP Z N c (retO Z.T rs res bs' os loc) (st0O args bs os)) (hx : ∀ (w : World) (G : Gh) (vs : List Value),H vs→All2 (XRep w G) args vs→Z.ex fun j=>G.A (.o j)) : CtrX Z H f args bs os res bs' loc:=by
 have hlen : args.length≤N:=Nat.le_of_ble_eq_true hlen'
 refine ⟨⟨fn,hf,by rw[hb]; rfl,hname⟩,?_⟩
 intro cc w G vs hcc hH hvs hwf hbx hbox hown hos hgl
 let E : Env:={ B:=w.heap.size,w0:=w,W0:=G.W,A0:=fun j=>G.A (.o j),nt:=N,D:=w.heap.size - cc }
 have hEC : E.C=cc:=by show w.heap.size - (w.heap.size - cc)=cc; omega
 let a : Act:={ tmps:=vs.toArray++Array.replicate (fn.ntmps - vs.toArray.size) undef,defers:=[] }
 have hal : args.length=vs.length:=hvs.len
 have hrel : Rel E G (st0O args bs os) a w:={
  df:=rfl
  tm:=by
   intro k g x hk
   obtain ⟨i,y,h1,h2,h3⟩:=Z2 0 args k (g,x) hk
   simp only [Prod.mk.injEq] at h3
   obtain ⟨rfl,rfl⟩:=h3
   obtain ⟨v,hv,hx⟩:=hvs.get i x h2
   have hi : i < vs.length:=(List.getElem?_eq_some_iff.1 hv).1
   refine ⟨v,?_,fun _=>hx,fun hg=>by simp at hg⟩
   show (vs.toArray++_)[k]? = _
   rw[h1,Nat.zero_add,Array.getElem?_append_left (by simpa using hi)]
   simpa using hv
  bx:=by
   intro n cs hn
   obtain ⟨i,h1,h2⟩:=N8 0 bs n cs hn
   rw[h1,Nat.zero_add]
   exact hbx i cs h2
  ow:=by
   intro p sz hp
   obtain ⟨e,he,rfl,rfl⟩:=Uo hp
   obtain ⟨u,h1,h2,h3⟩:=hos e he
   exact ⟨u,⟨h1,h2⟩,by rw[hEC]; exact h3⟩
  wf:=hwf
  olB:=fun b o n _ hn=>.inl ⟨n,hn⟩
  olO:=fun b o p _ hn=>⟨p,hn⟩
  nt:=by
   show (vs.toArray++Array.replicate (fn.ntmps - vs.toArray.size) undef).size=N
   simp; omega
  oA:=fun _=>rfl
  im:=fun b o h=>h
  im':=fun b o _ h=>.inl h
  fr:=Fr.refl _ _ _
  hB:=Nat.le_refl _
  lo:=fun b o _=>⟨fun n hn=>by obtain ⟨j,_,_,e,_⟩:=hbox b o n hn; exact ⟨j,e⟩,fun hb p hp=>by
   rw[hEC] at hb
   have := hown b o p hp; omega⟩
  bd:=fun t k cs hn=>by
   obtain ⟨i,h1,_⟩:=N8 0 bs _ cs hn
   simp at h1
  mp:=fun x hx=>by cases hx }
 refine calls_of_wp hf hb ?_
 have hwp:=h E G a w hrel ⟨rfl,fun q=>(by rw[hz] at q; simp at q),fun g hg=>⟨(hgl g hg).1,(hgl g hg).2.1,fun o hm=>by
  rcases hm with ⟨n,hn⟩ | ⟨p,hp⟩
  ·exact (hgl g hg).2.2.1 o n hn
  ·exact (hgl g hg).2.2.2 o p hp⟩,hx w G vs hH hvs⟩
 refine wp_mono hwp ?_
 rintro e a' w' ⟨G',s,hq,hr'⟩
 have key : (resX Z.T s rs=some res∧(∀ (j : Nat) (cs : List C),bs'[j]? = some cs→s.box (.o j)=some cs)∧ownO Z.T rs s os loc) →
   a'.defers=[] ∧ ∃ v,(results fn a'.tmps).run Z.P w' = .ok v w' ∧ ∃ u G',Ending.returned v = .returned u∧Fr (fun b o=>(∃ n,G.W b o = .box n) ∨ ∃ p,G.W b o = .own p) w.heap.size w w' ∧
    (∀ b o,G.W b o = .imm→G'.W b o = .imm)∧(∀ b o,b < w.heap.size→G'.W b o = .imm→G.W b o = .imm ∨ ∃ p,G.W b o = .own p)∧(∀ b o,G'.W b o ≠ .none→b < w'.heap.size)∧XRep w' G' res u ∧
    (∀ j,G'.A (.o j)=G.A (.o j))∧(∀ (j : Nat) (cs : List C),bs'[j]? = some cs→R8 w' G' (.o j) cs) ∧
    (∀ e ∈ os,∃ u',Zv loc w' G' u e.1 e.2.1 u'∧OwnAt cc w' G' (.b (.o e.1) e.2.1) e.2.2 u')∧(∀ b o q,b < w.heap.size→G'.W b o = .own q → ∃ p,G.W b o = .own p):=by
  rintro ⟨hres,hbs,hro⟩
  refine ⟨hr'.df,?_⟩
  unfold resX at hres
  have hys : ∃ ys,Z1 Z.T s rs=some ys∧res=Ao ys:=by
   split at hres
   ·rename_i ys hy; simp only [Option.some.injEq] at hres; exact ⟨ys,hy,hres.symm⟩
   ·simp at hres
  obtain ⟨ys,hys,rfl⟩:=hys
  obtain ⟨us,hrun,hall,hone⟩:=T3 hr' hys
  have hr0 : (results fn a'.tmps).run Z.P w' = .ok (if h : us.toArray.size=1 then us.toArray[0] else .tuple us.toArray) w':=by
   rw[Av,hrs,List.mapM_toArray]
   simp only [Sem.run_bind,Sem.run_map,hrun,Result.andThen_ok,Sem.run_pure]
  have hv2:=Jo hall
  refine ⟨_,hr0,?_⟩
  have hfr : Fr (fun b o=>(∃ n,G.W b o = .box n) ∨ ∃ p,G.W b o = .own p) w.heap.size w w':=hr'.fr
  obtain ⟨n0,hn0⟩ : ∃ n0 : Nm,match loc with
    | .box=>∀ e ∈ os,s.own (.b (.o e.1) e.2.1)=some e.2.2
    | .res=>(∀ e ∈ os,e.1=0∧s.own (.b n0 e.2.1)=some e.2.2) ∧ ∃ ws : List Value,∃ r',us = .agg ws.toArray :: r'∧r'≠[]∧(∀ j u,ws[j]? = some u→w'.cell? ⟨(G'.A n0).1,(G'.A n0).2 + j,none⟩=some u) ∧ ∀ e ∈ os,e.2.1 < ws.length:=by
   cases loc with
   | box=>exact ⟨.l 0,hro⟩
   | res =>
    obtain ⟨b,t,r,n,cs,ti,rfl,hne,hg,hbn,ht,hagg,hln,ho⟩:=hro
    obtain ⟨ws,q1,q2,q3⟩:=Rh (Z:=Z) hr' hg hbn ht hagg (Nat.eq_of_beq_eq_true hln)
    refine ⟨n,fun e he=>⟨(ho e he).1,(ho e he).2.1⟩,ws,?_⟩
    rw[List.mapM_cons,Sem.run_bind,q1] at hrun
    simp only [Result.andThen_ok,Sem.run_bind] at hrun
    cases hrr : (r.mapM (Au a'.tmps)).run Z.P w' with
    | ok vs2 w2 =>
     rw[hrr] at hrun
     simp only [Result.andThen_ok,Sem.run_pure,Result.ok.injEq] at hrun
     obtain ⟨e1,e2⟩:=hrun
     refine ⟨vs2,e1.symm,?_,q3,fun e he=>by have := (ho e he).2.2; omega⟩
     intro e0
     subst e0
     rw[← e1] at hall
     have hyl:=hall.len
     simp at hyl
     have : ∀ (rs : List ResultVar) ys,Z1 Z.T s rs=some ys→ys.length=rs.length:=by
      intro rs
      induction rs with
      | nil=>intro ys h; simp [Z1] at h; subst h; rfl
      | cons x rs ih =>
       intro ys h
       simp only [Z1] at h
       split at h
       ·split at h
        ·rename_i ys' h2; simp only [Option.some.injEq] at h; subst h; simp [ih _ h2]
        ·simp at h
       ·simp at h
     have := this _ _ hys
     rw[hyl] at this
     simp at this
     exact hne this
    | _=>rw[hrr] at hrun; simp [Result.andThen] at hrun
  let G2 : Gh:={ A:=G'.A,W:=fun b o=>match G'.W b o with | .imm=>.imm | .box (.o j)=>.box (.o j) | .own p=>(match plO loc n0 p with | some q=>.own q | none=>.none) | _=>.none }
  have hS : ∀ b o,G'.S b o→G2.S b o:=fun b o hs=>by unfold Gh.S at *; simp [G2,hs]
  have hI : ∀ b o,G2.W b o = .imm→G'.W b o = .imm:=fun b o hi=>by
   simp only [G2] at hi
   split at hi
   ·assumption
   ·simp at hi
   ·split at hi <;> simp at hi
   ·simp at hi
  have hO : ∀ b o q,G2.W b o = .own q → ∃ p,G'.W b o = .own p∧plO loc n0 p=some q:=fun b o q hi=>by
   simp only [G2] at hi
   split at hi
   ·simp at hi
   ·simp at hi
   ·rename_i p hp
    split at hi
    ·rename_i r hr; simp only [Who.own.injEq] at hi; subst hi; exact ⟨p,hp,hr⟩
    ·simp at hi
   ·simp at hi
  refine ⟨_,G2,rfl,hfr,fun b o hi=>hS b o (hr'.im b o hi),fun b o hb hi=>hr'.im' b o hb (hI b o hi),fun b o hn=>?_,?_,fun j=>hr'.oA j,fun j cs hj=>?_,fun e he=>?_,fun b o q hb hi=>?_⟩
  ·refine hr'.wf b o ?_
   intro he; apply hn; simp [G2,he]
  ·exact hv2.mono hS (fun _ _ _=>rfl) (fun _ _=>rfl)
  ·intro i c hi
   obtain ⟨h1,h2,u,h3,h4⟩:=hr'.bx _ _ (hbs j cs hj) i c hi
   exact ⟨by simp only [G2]; rw[h1],h2,u,h3,h4.mono hS (fun _ _ _=>rfl)⟩
  ·have tr : ∀ (p q : Pl) (u : Value),plO loc n0 p=some q→(∀ t k o,q ≠ .b (.bd t k) o)→OwnAt E.C w' G' p e.2.2 u→OwnAt cc w' G2 q e.2.2 u:=by
    intro p q u hpq hqb ho
    rw[hEC] at ho
    rcases ho with ho | ⟨blk,len,cap,e',q1,q2,q3,q4⟩
    ·exact .inl ho
    ·refine .inr ⟨blk,len,cap,e',q1,⟨q2.1,q2.2.1,fun t k o hh=>absurd hh (hqb t k o)⟩,q3,fun o ho1 ho2=>?_⟩
     obtain ⟨q5,q6⟩:=q4 o ho1 ho2
     refine ⟨?_,q6⟩
     simp only [G2]; rw[q5]; simp only [hpq]
   cases loc with
   | box =>
    obtain ⟨u,hu,ho⟩:=hr'.ow _ _ (hn0 e he)
    exact ⟨u,hu.1,tr _ _ u J (by simp) ho⟩
   | res =>
    obtain ⟨h1,ws,r',h2,h3,h4,h5⟩:=hn0
    obtain ⟨e1,e2⟩:=h1 e he
    obtain ⟨u,hu,ho⟩:=hr'.ow _ _ e2
    have hlt:=h5 e he
    have hw:=h4 e.2.1 _ (List.getElem?_eq_getElem hlt)
    have hu1:=hu.1
    rw[hw] at hu1
    simp only [Option.some.injEq] at hu1
    subst hu1
    refine ⟨_,⟨us.toArray,ws.toArray,?_,?_,?_⟩,tr _ _ _ (by simp [plO,Nm.beq_self,e1]) (by simp) ho⟩
    ·rw[dif_neg]
     rw[h2]
     intro hs
     simp at hs
     exact h3 hs
    ·rw[h2]; rfl
    ·simp [hlt]
  ·obtain ⟨p,hp,_⟩:=hO b o q hi
   exact hr'.olO b o p hb hp
 cases e <;> first
  | exact key hq
  | exact hq.elim
theorem K8 {f : FuncId} {fn : Func} {c : Code} {N : Nat} {rs : List ResultVar} {args : List X} {bs bs' : List (List C)} {os : OS} {res : X} {loc : Loc}
  (hf : Z.P.funcs[f]? = some fn) (hb : fn.body = some c) (hname : (fn.name == "runtime.NumGoroutine") = false) (hN : fn.ntmps = N) (hrs : fn.results = rs.toArray) (hlen' : Nat.ble args.length N = true) (hc : res.clean = true) (hz : Z.old = true)
  (h : AWP Z N c (retO Z.T rs res bs' os loc) (st0O args bs os)) (hx : ∀ A,Z.ex A:=by intro _; exact O) : CtrO Z f args bs os res bs' loc:=by
 obtain ⟨h1,h2⟩:=Ql (H:=fun _=>True) hf hb hname hN hrs hlen' hc hz h fun _ _ _ _ _=>hx _
 exact ⟨h1,fun cc w G vs hcc=>h2 cc w G vs hcc O⟩
end Go.Abs
namespace Go.Abs
variable {Z : Pg}
def pin (ps : List Pass) : OS→Pl→Option Pl
 | [],_=>none
 | e :: r,p=>match ps[e.1]? with
  | some q=>if Pl.beq p (.b q.n (q.off + e.2.1))=true then some (.b (.o e.1) e.2.1) else pin ps r p
  | none=>pin ps r p
def pout (ps : List Pass) : Pl→Option Pl
 | .b (.o j) off=>(ps[j]?).map fun q=>.b q.n (q.off + off)
 | _=>none
theorem Iv {ps : List Pass} : ∀ {os : OS} {p r : Pl},pin ps os p=some r → ∃ e ∈ os,r = .b (.o e.1) e.2.1 ∧ ∃ q,ps[e.1]? = some q∧p = .b q.n (q.off + e.2.1)
 | [],p,r,h=>by simp [pin] at h
 | e :: os,p,r,h=>by
  rw[pin] at h
  split at h
  ·rename_i q hq
   split at h
   ·rename_i hb
    simp only [Option.some.injEq] at h
    exact ⟨e,by simp,h.symm,q,hq,Pl.beq_iff.1 hb⟩
   ·obtain ⟨e',h1,h2⟩:=Iv h
    exact ⟨e',by simp [h1],h2⟩
  ·obtain ⟨e',h1,h2⟩:=Iv h
   exact ⟨e',by simp [h1],h2⟩
theorem Sd {ps : List Pass} {st : St} (hnd : M9 st ps=true) : ∀ {os : OS} {e : Nat × Nat × Nat} {q : Pass},e ∈ os→ps[e.1]? = some q→pin ps os (.b q.n (q.off + e.2.1))=some (.b (.o e.1) e.2.1)
 | [],e,q,h,_=>by simp at h
 | x :: os,e,q,h,hq=>by
  rw[pin]
  split
  ·rename_i y hy
   split
   ·rename_i hb
    rw[Pl.beq_iff] at hb
    simp only [Pl.b.injEq] at hb
    have he:=U0 hnd _ _ _ _ hq hy hb.1
    rw[← he,hq] at hy
    simp only [Option.some.injEq] at hy
    subst hy
    rw[← he,show x.2.1=e.2.1 by omega]
   ·rename_i hb
    rcases List.mem_cons.1 h with rfl | h
    ·rw[hq] at hy
     simp only [Option.some.injEq] at hy
     subst hy
     exact absurd (Pl.beq_self _) hb
    ·exact Sd hnd h hq
  ·rename_i hy
   rcases List.mem_cons.1 h with rfl | h
   ·rw[hq] at hy; simp at hy
   ·exact Sd hnd h hq
def Gh.passedO (G : Gh) (ps : List Pass) (os : OS) : Gh where
 W:=fun b o=>match G.W b o with
  | .own p=>(match pin ps os p with | some r=>.own r | none=>.none)
  | _=>(G.passed ps).W b o
 A:=(G.passed ps).A
theorem Gh.passedO_imm (G : Gh) (ps : List Pass) (os : OS) (b o : Nat) : (G.passedO ps os).W b o = .imm ↔ G.W b o = .imm:=by
 unfold Gh.passedO
 dsimp only
 split
 ·rename_i p hp; split <;> simp [hp]
 ·exact G.passed_imm ps b o
theorem Gh.passedO_own {G : Gh} {ps : List Pass} {os : OS} {b o : Nat} {r : Pl} (h : (G.passedO ps os).W b o = .own r) : ∃ p,G.W b o = .own p∧pin ps os p=some r:=by
 unfold Gh.passedO at h
 dsimp only at h
 split at h
 ·rename_i p hp
  split at h
  ·rename_i x hx; simp only [Who.own.injEq] at h; subst h; exact ⟨p,hp,hx⟩
  ·simp at h
 ·exact absurd h (G.passed_own ps b o r)
theorem Gh.passedO_box {G : Gh} {ps : List Pass} {os : OS} {b o : Nat} {m : Nm} (h : (G.passedO ps os).W b o = .box m) : (G.passed ps).W b o = .box m:=by
 unfold Gh.passedO at h
 dsimp only at h
 split at h
 ·split at h <;> simp at h
 ·exact h
theorem Gh.passedO_of_box {G : Gh} {ps : List Pass} {os : OS} {b o : Nat} {m n : Nm} (h : (G.passed ps).W b o = .box m) (hn : G.W b o = .box n) : (G.passedO ps os).W b o = .box m:=by
 unfold Gh.passedO
 dsimp only
 rw[hn]
 exact h
def Gh.newW (ps : List Pass) : Who→Who
 | .imm=>.imm
 | .own q=>(match pout ps q with | some r=>.own r | none=>.none)
 | _=>.none
def Gh.gone (G : Gh) (ps : List Pass) (os : OS) (b o : Nat) : Bool:=match G.W b o with | .own p=>(pin ps os p).isSome | _=>false
def Gh.backO (G G' : Gh) (B : Nat) (ps : List Pass) (os : OS) : Gh :=
 {A:=G.A,W:=fun b o=>if b < B∧G.gone ps os b o=false then G.W b o else Gh.newW ps (G'.W b o) }
theorem Gh.gone_own {G : Gh} {ps : List Pass} {os : OS} {b o : Nat} (h : G.gone ps os b o=true) : ∃ p,G.W b o = .own p∧(pin ps os p).isSome=true:=by
 unfold Gh.gone at h
 split at h
 ·rename_i p hp; exact ⟨p,hp,h⟩
 ·simp at h
theorem Gh.newW_box {ps : List Pass} {x : Who} {n : Nm} : Gh.newW ps x ≠ .box n:=by
 unfold Gh.newW
 split
 ·simp
 ·split <;> simp
 ·simp
theorem Ff {N : Nat} {E : Env} {G : Gh} {st : St} {a : Act} {w : World} (hr : Rel E G st a w) (hE : EOk Z N E) {ps : List Pass} {os : OS} {cxs : List X} {vs : List Value}
  (hav : All2 (XRep w G) (cxs.map (X.tr ps)) vs) (htrok : Z7 ps cxs=true) (hps : ∀ p ∈ ps,st.box p.n=some p.cs) (hnd : M9 st ps=true)
  (hos : ∀ e ∈ os,∃ q,ps[e.1]? = some q∧e.2.1 < q.ds.length∧st.own (.b q.n (q.off + e.2.1))=some e.2.2) :
  E.C≤w.heap.size∧All2 (XRep w (G.passedO ps os)) cxs vs∧(∀ b o,(G.passedO ps os).W b o ≠ .none→b < w.heap.size)∧(∀ (j : Nat) (cs : List C),(ps.map Pass.old)[j]? = some cs→R8 w (G.passedO ps os) (.o j) cs) ∧
  (∀ b o n,(G.passedO ps os).W b o = .box n → ∃ j cs k,n = .o j∧(ps.map Pass.old)[j]? = some cs∧k < cs.length∧b=((G.passedO ps os).A n).1∧o=((G.passedO ps os).A n).2 + k) ∧
  (∀ b o p,(G.passedO ps os).W b o = .own p→E.C≤b) ∧
  (∀ e ∈ os,∃ u,w.cell? ⟨((G.passedO ps os).A (.o e.1)).1,((G.passedO ps os).A (.o e.1)).2 + e.2.1,none⟩=some u∧(G.passedO ps os).W ((G.passedO ps os).A (.o e.1)).1 (((G.passedO ps os).A (.o e.1)).2 + e.2.1) = .box (.o e.1) ∧
   OwnAt E.C w (G.passedO ps os) (.b (.o e.1) e.2.1) e.2.2 u)∧GlOk Z w (G.passedO ps os):=by
 have hlen:=Bz hnd
 have hBs : E.B≤w.heap.size:=Nat.le_trans hr.hB hr.fr.size
 have hA : ∀ (j : Nat) (p : Pass),ps[j]? = some p→(G.passedO ps os).A (.o j)=((G.A p.n).1,(G.A p.n).2 + p.off):=fun j p hp=>by simp [Gh.passedO,Gh.passed,hp]
 have hbox : ∀ (j : Nat) (p : Pass),ps[j]? = some p→R8 w G p.n p.cs:=fun j p hj=>hr.bx p.n p.cs (hps p (List.mem_of_getElem? hj))
 refine ⟨Nat.le_trans E.C_le hBs,?_,?_,?_,?_,?_,?_,?_⟩
 ·refine All2.mem_mono (fun x v hx hxv=>?_) (All2.map_left hav)
  refine XRep.mono (G:=G.passed ps) (fun b o hs=>(G.passedO_imm ps os b o).2 ((G.passed_imm ps b o).1 hs)) (fun _ _ _=>rfl) (fun _ _=>rfl) (XRep.tr (List.all_eq_true.1 htrok x hx) hxv)
 ·intro b o hb
  refine hr.wf b o ?_
  intro e
  apply hb
  unfold Gh.passedO Gh.passed
  dsimp only
  rw[e]
 ·intro j cs hj k c hk
  rw[List.getElem?_map] at hj
  cases hp : ps[j]? with
  | none=>rw[hp] at hj; simp at hj
  | some p =>
   rw[hp] at hj
   simp only [Option.map_some,Option.some.injEq] at hj
   subst hj
   unfold Pass.old at hk
   rw[List.getElem?_take] at hk
   split at hk
   ·rename_i hkl
    rw[List.getElem?_drop] at hk
    obtain ⟨h1,h2,v,h3,h4⟩:=hbox j p hp _ c hk
    rw[hA j p hp]
    rw[← Nat.add_assoc] at h1 h2 h3
    exact ⟨Gh.passedO_of_box (Gh.passed_at hnd hp hkl h1) h1,h2,v,h3,h4.mono (fun b o' hs=>(G.passedO_imm ps os b o').2 hs) (fun _ _ _=>rfl)⟩
   ·simp at hk
 ·intro b o' n hn
  obtain ⟨j,p,rfl,hp,hw,h1,h2,h3⟩:=Gh.passed_box (Gh.passedO_box hn)
  have hpl:=hlen p (List.mem_of_getElem? hp)
  refine ⟨j,p.old,o' - ((G.A p.n).2 + p.off),rfl,by rw[List.getElem?_map,hp]; rfl,?_,?_,?_⟩
  ·simp only [Pass.old,List.length_take,List.length_drop]; omega
  ·rw[hA j p hp]; exact h1
  ·rw[hA j p hp]; dsimp only; omega
 ·intro b o r hb
  obtain ⟨p,hp,_⟩:=Gh.passedO_own hb
  rcases Nat.lt_or_ge b E.C with hlt | hge
  ·exact absurd hp ((hr.lo b o (Nat.lt_of_lt_of_le hlt E.C_le)).2 hlt p)
  ·exact hge
 ·intro e he
  obtain ⟨q,hq,hlt,ho⟩:=hos e he
  obtain ⟨u,hu,hown⟩:=hr.ow _ _ ho
  have hu1 : w.cell? ⟨(G.A q.n).1,(G.A q.n).2 + (q.off + e.2.1),none⟩=some u:=hu.1
  have hu2 : G.W (G.A q.n).1 ((G.A q.n).2 + (q.off + e.2.1)) = .box q.n:=hu.2
  rw[← Nat.add_assoc] at hu1 hu2
  rw[hA e.1 q hq]
  refine ⟨u,hu1,Gh.passedO_of_box (Gh.passed_at hnd hq hlt hu2) hu2,?_⟩
  rcases hown with hown | ⟨blk,len,cap,e',q1,q2,q3,q4⟩
  ·exact .inl hown
  ·refine .inr ⟨blk,len,cap,e',q1,⟨q2.1,q2.2.1,fun t k o hh=>by simp at hh⟩,q3,fun o ho1 ho2=>?_⟩
   obtain ⟨q5,q6⟩:=q4 o ho1 ho2
   refine ⟨?_,q6⟩
   unfold Gh.passedO
   dsimp only
   rw[q5]
   dsimp only
   rw[Sd hnd he hq]
 ·intro g hg
  have hgl:=hE.at hr
  refine ⟨(hgl g hg).1,(hgl g hg).2.1,fun o n hn=>?_,fun o p hp=>?_⟩
  ·obtain ⟨j,p,_,_,q,_⟩:=Gh.passed_box (Gh.passedO_box hn)
   exact (hgl g hg).2.2.1 o _ q
  ·obtain ⟨q,hq,_⟩:=Gh.passedO_own hp
   exact (hgl g hg).2.2.2 o q hq
theorem Cy {E : Env} {G G' : Gh} {st : St} {a : Act} {w w' : World} (hr : Rel E G st a w) {ps : List Pass} {os : OS} (hps : ∀ p ∈ ps,st.box p.n=some p.cs) (hnd : M9 st ps=true)
  (hos : ∀ e ∈ os,∃ q,ps[e.1]? = some q∧e.2.1 < q.ds.length∧st.own (.b q.n (q.off + e.2.1))=some e.2.2)
  (hfr : Fr (fun b o=>(∃ n,(G.passedO ps os).W b o = .box n) ∨ ∃ p,(G.passedO ps os).W b o = .own p) w.heap.size w w') (h1 : ∀ b o,(G.passedO ps os).W b o = .imm→G'.W b o = .imm)
  (h2 : ∀ b o,b < w.heap.size→G'.W b o = .imm→(G.passedO ps os).W b o = .imm ∨ ∃ p,(G.passedO ps os).W b o = .own p) (h3 : ∀ b o,G'.W b o ≠ .none→b < w'.heap.size)
  (h5 : ∀ j,G'.A (.o j)=(G.passedO ps os).A (.o j)) (h6 : ∀ (j : Nat) (cs : List C),(ps.map Pass.ds)[j]? = some cs→R8 w' G' (.o j) cs) (h8 : ∀ b o q,b < w.heap.size→G'.W b o = .own q → ∃ p,(G.passedO ps os).W b o = .own p) :
  Rel E (G.backO G' w.heap.size ps os) (st.stores ps) a w'∧(∀ b o,G'.S b o→(G.backO G' w.heap.size ps os).S b o) ∧
  (∀ (sz : Nat) (u : Value) (e : Nat × Nat × Nat) (q : Pass),ps[e.1]? = some q→q.n.isBd=false→OwnAt E.C w' G' (.b (.o e.1) e.2.1) sz u→OwnAt E.C w' (G.backO G' w.heap.size ps os) (.b q.n (q.off + e.2.1)) sz u) ∧
  (∀ b o n,G.W b o = .box n→(G.backO G' w.heap.size ps os).W b o = .box n):=by
 have hlen:=Bz hnd
 have hBs : E.B≤w.heap.size:=Nat.le_trans hr.hB hr.fr.size
 have hbox : ∀ (j : Nat) (p : Pass),ps[j]? = some p→R8 w G p.n p.cs:=fun j p hj=>hr.bx p.n p.cs (hps p (List.mem_of_getElem? hj))
 let G2:=G.backO G' w.heap.size ps os
 have hng : ∀ b o,(∀ p,G.W b o = .own p→pin ps os p=none)→G.gone ps os b o=false:=fun b o h=>by
  unfold Gh.gone
  split
  ·rename_i p hp; rw[h p hp]; rfl
  ·rfl
 have hW2 : ∀ b o,b < w.heap.size→(∀ p,G.W b o = .own p→pin ps os p=none)→G2.W b o=G.W b o:=fun b o hb h=>by
  show (if _ then _ else _)=_
  rw[if_pos ⟨hb,hng b o h⟩]
 have hW3 : ∀ b o,¬ (b < w.heap.size∧G.gone ps os b o=false)→G2.W b o=Gh.newW ps (G'.W b o):=fun b o h=>by
  show (if _ then _ else _)=_
  rw[if_neg h]
 have hM0 : ∀ b o,((∃ n,(G.passedO ps os).W b o = .box n) ∨ ∃ p,(G.passedO ps os).W b o = .own p)→(∃ p ∈ ps,G.W b o = .box p.n∧b=(G.A p.n).1∧(G.A p.n).2 + p.off≤o∧o < (G.A p.n).2 + p.off + p.ds.length) ∨ ∃ p,G.W b o = .own p∧(pin ps os p).isSome=true:=fun b o h=>by
  rcases h with ⟨n,hn⟩ | ⟨r,hr⟩
  ·obtain ⟨j,p,_,hp,hw,q⟩:=Gh.passed_box (Gh.passedO_box hn)
   exact .inl ⟨p,List.mem_of_getElem? hp,hw,q⟩
  ·obtain ⟨p,hp,hpr⟩:=Gh.passedO_own hr
   exact .inr ⟨p,hp,by rw[hpr]; rfl⟩
 have hnM : ∀ b o,(∀ n,G.W b o ≠ .box n)→(∀ p,G.W b o ≠ .own p) → ¬ ((∃ n,(G.passedO ps os).W b o = .box n) ∨ ∃ p,(G.passedO ps os).W b o = .own p):=fun b o hn ho h=>by
  rcases hM0 b o h with ⟨p,_,q,_⟩ | ⟨p,q,_⟩
  ·exact hn _ q
  ·exact ho _ q
 have hS0 : ∀ b o,G.S b o→G2.S b o:=fun b o hs=>by
  unfold Gh.S at *
  rw[hW2 b o (hr.wf b o (by rw[hs]; simp)) (fun p hp=>by rw[hs] at hp; simp at hp)]
  exact hs
 have hcS : ∀ b o,G.S b o→w'.cell? ⟨b,o,none⟩=w.cell? ⟨b,o,none⟩:=fun b o hs=>by
  unfold Gh.S at hs
  exact hfr.cell b o (hr.wf b o (by rw[hs]; simp)) (hnM b o (fun n=>by rw[hs]; simp) (fun n=>by rw[hs]; simp))
 have hS2 : ∀ b o,G'.S b o→G2.S b o:=fun b o hs=>by
  unfold Gh.S at *
  by_cases hq : b < w.heap.size∧G.gone ps os b o=false
  ·show (if _ then _ else _)=_
   rw[if_pos hq]
   rcases h2 b o hq.1 hs with q | ⟨p,q⟩
   ·exact (G.passedO_imm ps os b o).1 q
   ·obtain ⟨p',q1,q2⟩:=Gh.passedO_own q
    have := hq.2
    unfold Gh.gone at this
    rw[q1] at this
    dsimp only at this
    rw[q2] at this; simp at this
  ·rw[hW3 b o hq,hs]; rfl
 have hbx2 : ∀ b o n,G.W b o = .box n→G2.W b o = .box n:=fun b o n hn=>by
  rw[hW2 b o (hr.wf b o (by rw[hn]; simp)) (fun p hp=>by rw[hn] at hp; simp at hp)]
  exact hn
 refine ⟨?_,hS2,?_,hbx2⟩
 ·constructor
  ·exact hr.df
  ·intro k g x hk
   rw[Ac] at hk
   obtain ⟨v,hv,q1,q2⟩:=hr.tm k g x hk
   exact ⟨v,hv,fun hg=>(q1 hg).mono hS0 hcS (fun _ _=>rfl),q2⟩
  ·intro n cs hn
   by_cases hin : ∃ p ∈ ps,p.n=n
   ·obtain ⟨p,hp,rfl⟩:=hin
    rw[Dc ps st p hnd hp] at hn
    simp only [Option.some.injEq] at hn
    subst hn
    obtain ⟨j,hj⟩:=List.getElem?_of_mem hp
    have hpl:=hlen p hp
    intro k c hk
    rw[S0 p.cs p.ds p.off k hpl] at hk
    have hkl : k < p.cs.length:=by
     split at hk
     ·rename_i hh; omega
     ·exact (List.getElem?_eq_some_iff.1 hk).1
    obtain ⟨q1,q2,u,q3,q4⟩:=hbox j p hj k _ (List.getElem?_eq_getElem hkl)
    have hlt : (G.A p.n).1 < w.heap.size:=World.block_lt_of_cell? (a:=⟨(G.A p.n).1,(G.A p.n).2 + k,none⟩) w q3
    rw[show (G.backO G' w.heap.size ps os).A p.n=G.A p.n from J]
    refine ⟨hbx2 _ _ _ q1,by rw[hfr.frozen _ _ hlt]; exact q2,?_⟩
    split at hk
    ·rename_i hh
     have hb:=h6 j p.ds (by rw[List.getElem?_map,hj]; rfl) (k - p.off) c hk
     rw[h5 j] at hb
     have hA : (G.passedO ps os).A (.o j)=((G.A p.n).1,(G.A p.n).2 + p.off):=by simp [Gh.passedO,Gh.passed,hj]
     rw[hA] at hb
     obtain ⟨_,_,u',b3,b4⟩:=hb
     dsimp only at b3
     rw[show (G.A p.n).2 + p.off + (k - p.off)=(G.A p.n).2 + k by omega] at b3
     exact ⟨u',b3,b4.mono hS2 (fun _ _ _=>rfl)⟩
    ·rename_i hh
     rw[List.getElem?_eq_getElem hkl] at hk
     simp only [Option.some.injEq] at hk
     subst hk
     refine ⟨u,?_,q4.mono hS0 hcS⟩
     show w'.cell? ⟨(G.A p.n).1,(G.A p.n).2 + k,none⟩=_
     rw[hfr.cell _ _ hlt]
     ·exact q3
     ·intro hm
      rcases hM0 _ _ hm with ⟨q,hq,hw,r1,r2,r3⟩ | ⟨q,hq,_⟩
      ·rw[q1] at hw
       simp only [Who.box.injEq] at hw
       obtain ⟨i,hi⟩:=List.getElem?_of_mem hq
       have := U0 hnd i j q p hi hj hw.symm
       subst this
       rw[hj] at hi
       simp only [Option.some.injEq] at hi
       subst hi
       omega
      ·rw[q1] at hq; simp at hq
   ·rw[L8 ps st n (fun p hp e=>hin ⟨p,hp,e⟩)] at hn
    intro k c hk
    obtain ⟨q1,q2,u,q3,q4⟩:=hr.bx n cs hn k c hk
    have hlt : (G.A n).1 < w.heap.size:=World.block_lt_of_cell? (a:=⟨(G.A n).1,(G.A n).2 + k,none⟩) w q3
    rw[show (G.backO G' w.heap.size ps os).A n=G.A n from J]
    refine ⟨hbx2 _ _ _ q1,by rw[hfr.frozen _ _ hlt]; exact q2,u,?_,q4.mono hS0 hcS⟩
    show w'.cell? ⟨(G.A n).1,(G.A n).2 + k,none⟩=_
    rw[hfr.cell _ _ hlt]
    ·exact q3
    ·intro hm
     rcases hM0 _ _ hm with ⟨q,hq,hw,_⟩ | ⟨q,hq,_⟩
     ·rw[q1] at hw
      simp only [Who.box.injEq] at hw
      exact hin ⟨q,hq,hw.symm⟩
     ·rw[q1] at hq; simp at hq
  ·intro p sz hp
   obtain ⟨hp1,hp2⟩:=Dg ps st p sz hp
   have hpn : pin ps os p=none:=by
    cases hpi : pin ps os p with
    | none=>rfl
    | some r =>
     exfalso
     obtain ⟨e,he,_,q,hq,rfl⟩:=Iv hpi
     obtain ⟨q',hq',hlt,_⟩:=hos e he
     rw[hq] at hq'
     simp only [Option.some.injEq] at hq'
     subst hq'
     have := hp2 q (List.mem_of_getElem? hq)
     simp only [Pl.inCells,Nm.beq_self,Bool.true_and,Bool.and_eq_false_iff] at this
     rcases this with this | this
     ·have : ¬ q.off≤q.off + e.2.1:=fun hle=>by rw[Nat.ble_eq_true_of_le hle] at this; simp at this
      omega
     ·have : ¬ q.off + e.2.1 + 1≤q.off + q.ds.length:=fun hle=>by rw[Nat.ble_eq_true_of_le hle] at this; simp at this
      omega
   obtain ⟨v,hv,hov⟩:=hr.ow p sz hp1
   refine ⟨v,?_,?_⟩
   ·cases p with
    | t k=>exact hv
    | b n off =>
     have hlt:=ValAt.lt hr hp1 J
     refine ⟨?_,hbx2 _ _ _ hv.2⟩
     show w'.cell? ⟨(G.A n).1,(G.A n).2 + off,none⟩=_
     rw[hfr.cell _ _ hlt]
     ·exact hv.1
     ·intro hm
      have hv2:=hv.2
      rcases hM0 _ _ hm with ⟨q,hq,hw,r1,r2,r3⟩ | ⟨q,hq,_⟩
      ·rw[hv2] at hw
       simp only [Who.box.injEq] at hw
       subst hw
       have := hp2 q hq
       simp only [Pl.inCells,Nm.beq_self,Bool.true_and,Bool.and_eq_false_iff] at this
       rcases this with this | this
       ·have : ¬ q.off≤off:=fun hle=>by rw[Nat.ble_eq_true_of_le hle] at this; simp at this
        omega
       ·have : ¬ off + 1≤q.off + q.ds.length:=fun hle=>by rw[Nat.ble_eq_true_of_le hle] at this; simp at this
        omega
      ·rw[hv2] at hq; simp at hq
   ·rcases hov with hov | ⟨blk,len,cap,e,q1,q2,q3,q4⟩
    ·exact .inl hov
    ·have hlt : blk < w.heap.size:=by
      rcases Nat.lt_or_ge blk w.heap.size with hx | hx
      ·exact hx
      ·have q3:=q3.1; simp [World.shape?,Array.getElem?_eq_none hx] at q3
     refine .inr ⟨blk,len,cap,e,q1,q2,⟨by rw[hfr.shape blk hlt]; exact q3.1,by rw[hfr.mark blk hlt]; exact q3.2⟩,fun o ho1 ho2=>?_⟩
     obtain ⟨q5,q6⟩:=q4 o ho1 ho2
     refine ⟨?_,by rw[hfr.frozen blk o hlt]; exact q6⟩
     rw[hW2 blk o hlt (fun p' hp'=>by rw[q5] at hp'; simp only [Who.own.injEq] at hp'; subst hp'; exact hpn)]
     exact q5
  ·intro b o hb
   by_cases hq : b < w.heap.size∧G.gone ps os b o=false
   ·exact Nat.lt_of_lt_of_le hq.1 hfr.size
   ·rw[hW3 b o hq] at hb
    refine h3 b o ?_
    intro e; rw[e] at hb; exact hb J
  ·intro b o n hb hn
   by_cases hq : b < w.heap.size∧G.gone ps os b o=false
   ·have : G2.W b o=G.W b o:=by show (if _ then _ else _)=_; rw[if_pos hq]
    rw[this] at hn
    exact hr.olB b o n hb hn
   ·rw[hW3 b o hq] at hn
    exact absurd hn Gh.newW_box
  ·intro b o p hb hn
   by_cases hq : b < w.heap.size∧G.gone ps os b o=false
   ·have : G2.W b o=G.W b o:=by show (if _ then _ else _)=_; rw[if_pos hq]
    rw[this] at hn
    exact hr.olO b o p hb hn
   ·have hg : G.gone ps os b o=true:=by
     cases hgg : G.gone ps os b o with
     | true=>rfl
     | false=>exact absurd ⟨by omega,hgg⟩ hq
    obtain ⟨p',hp',_⟩:=Gh.gone_own hg
    exact hr.olO b o p' hb hp'
  ·exact hr.nt
  ·exact hr.oA
  ·intro b o hi
   exact hS0 b o (hr.im b o hi)
  ·intro b o hb hi
   by_cases hq : b < w.heap.size∧G.gone ps os b o=false
   ·have : G2.W b o=G.W b o:=by show (if _ then _ else _)=_; rw[if_pos hq]
    rw[this] at hi
    exact hr.im' b o hb hi
   ·have hg : G.gone ps os b o=true:=by
     cases hgg : G.gone ps os b o with
     | true=>rfl
     | false=>exact absurd ⟨by omega,hgg⟩ hq
    obtain ⟨p',hp',_⟩:=Gh.gone_own hg
    exact .inr (hr.olO b o p' hb hp')
  ·refine hr.fr.trans (hfr.mono hBs fun b o hb hm=>?_)
   rcases hM0 b o hm with ⟨q,hq,hw,_⟩ | ⟨q,hq,_⟩
   ·exact hr.olB b o _ hb hw
   ·exact .inr (hr.olO b o _ hb hq)
  ·exact hr.hB
  ·intro b o hb
   by_cases hq : b < w.heap.size∧G.gone ps os b o=false
   ·have : G2.W b o=G.W b o:=by show (if _ then _ else _)=_; rw[if_pos hq]
    show (∀ n,G2.W b o = .box n→_)∧(b < E.C → ∀ p,G2.W b o ≠ .own p)
    rw[this]
    exact hr.lo b o hb
   ·have hg : G.gone ps os b o=true:=by
     cases hgg : G.gone ps os b o with
     | true=>rfl
     | false=>exact absurd ⟨by omega,hgg⟩ hq
    obtain ⟨p',hp',_⟩:=Gh.gone_own hg
    refine ⟨fun n hn=>?_,fun hbc=>absurd hp' ((hr.lo b o hb).2 hbc p')⟩
    have hn2 : G2.W b o = .box n:=hn
    rw[hW3 b o hq] at hn2
    exact absurd hn2 Gh.newW_box
  ·intro t k cs hn hne
   have hnp : ∀ p ∈ ps,p.n ≠ .bd t k:=fun p hp e=>by
    have := Az hnd p hp
    rw[e] at this; simp [Nm.isBd] at this
   rw[L8 ps st _ hnp] at hn
   obtain ⟨q1,q2,x,q3,q4⟩:=hr.bd t k cs hn hne
   have hlt : (G.A (.bd t k)).1 < w.heap.size:=World.block_lt_of_cell? (a:=⟨(G.A (.bd t k)).1,0,none⟩) w q3
   obtain ⟨c0,hc0⟩ : ∃ c0,cs[0]? = some c0:=by
    cases cs with
    | nil=>exact absurd J hne
    | cons c0 r=>exact ⟨c0,rfl⟩
   obtain ⟨r1,_⟩:=hr.bx _ cs hn 0 c0 hc0
   rw[q1] at r1
   show (G.A (.bd t k)).2=0∧w'.shape? (G.A (.bd t k)).1=_ ∧ ∃ x,w'.cell? ⟨(G.A (.bd t k)).1,0,none⟩=some (.pointer x)∧(x=none∨x=some ⟨(G.A (.bd t k)).1,0,none⟩)
   rw[hfr.shape _ hlt]
   refine ⟨q1,q2,x,?_,q4⟩
   rw[hfr.cell _ _ hlt]
   ·exact q3
   ·intro hm
    rcases hM0 _ _ hm with ⟨q,hq,hw,_⟩ | ⟨q,hq,_⟩
    ·rw[Nat.zero_add] at r1
     rw[r1] at hw
     simp only [Who.box.injEq] at hw
     exact hnp q hq hw.symm
    ·rw[Nat.zero_add] at r1
     rw[r1] at hq; simp at hq
  ·intro x hx
   rw[Ep] at hx
   obtain ⟨q1,q2,q3⟩:=hr.mp x hx
   have hlt:=q1.lt
   refine ⟨q1.of_same (hfr.block _ hlt fun o=>hnM _ o (q3 o).1 (q3 o).2),q2,fun o=>?_⟩
   show (∀ n,G2.W x.1 o ≠ .box n) ∧ ∀ p,G2.W x.1 o ≠ .own p
   rw[hW2 _ o hlt (fun p hp=>absurd hp ((q3 o).2 p))]
   exact q3 o
 ·intro sz u e q hq hbd ho
  rcases ho with ho | ⟨blk,len,cap,e',q1,q2,q3,q4⟩
  ·exact .inl ho
  ·refine .inr ⟨blk,len,cap,e',q1,⟨q2.1,q2.2.1,fun t k o hh=>?_⟩,q3,fun o ho1 ho2=>?_⟩
   ·simp only [Pl.b.injEq] at hh
    rw[hh.1] at hbd; simp [Nm.isBd] at hbd
   ·obtain ⟨q5,q6⟩:=q4 o ho1 ho2
    refine ⟨?_,q6⟩
    have hno : ¬ (blk < w.heap.size∧G.gone ps os blk o=false):=by
     rintro ⟨hlt,hg⟩
     obtain ⟨p,hp⟩:=h8 blk o _ hlt q5
     obtain ⟨p',r1,r2⟩:=Gh.passedO_own hp
     unfold Gh.gone at hg
     rw[r1] at hg
     dsimp only at hg
     rw[r2] at hg; simp at hg
    show G2.W blk o=_
    rw[hW3 blk o hno,q5]
    simp [Gh.newW,pout,hq]
theorem Rel.addOwns {E : Env} {G : Gh} {st : St} {a : Act} {w : World} (h : Rel E G st a w) {l : List (Pl × Nat)} (hl : ∀ x ∈ l,∃ v,ValAt a w G x.1 v∧OwnAt E.C w G x.1 x.2 v) : Rel E G { st with ow:=l++st.ow } a w where
 df:=h.df
 tm:=h.tm
 bx:=h.bx
 ow:=by
  intro p sz hp
  have hp2 : getO (l++st.ow) p=some sz:=hp
  clear hp
  induction l with
  | nil=>exact h.ow p sz hp2
  | cons x r ih =>
   rw[List.cons_append,L9] at hp2
   split at hp2
   ·rename_i he
    simp only [Option.some.injEq] at hp2
    subst he; subst hp2
    exact hl x (by simp)
   ·exact ih (fun y hy=>hl y (by simp [hy])) hp2
 wf:=h.wf
 olB:=h.olB
 olO:=h.olO
 nt:=h.nt
 oA:=h.oA
 im:=h.im
 im':=h.im'
 fr:=h.fr
 hB:=h.hB
 lo:=h.lo
 bd:=h.bd
 mp:=h.mp
def osPl (ps : List Pass) (os : OS) : List (Pl × Nat):=os.filterMap fun e=>(ps[e.1]?).map fun q=>(.b q.n (q.off + e.2.1),e.2.2)
def osB (ps : List Pass) (os : OS) (st : St) : Bool:=os.all fun e=>match ps[e.1]? with
 | some q=>Nat.ble (e.2.1 + 1) q.ds.length && (match st.own (.b q.n (q.off + e.2.1)) with | some s=>Nat.beq s e.2.2 | none=>false)
 | none=>false
theorem Rs {ps : List Pass} {os : OS} {st : St} (h : osB ps os st=true) : ∀ e ∈ os,∃ q,ps[e.1]? = some q∧e.2.1 < q.ds.length∧st.own (.b q.n (q.off + e.2.1))=some e.2.2:=by
 intro e he
 have := List.all_eq_true.1 h e he
 split at this
 ·rename_i q hq
  rw[Bool.and_eq_true] at this
  obtain ⟨h1,h2⟩:=this
  split at h2
  ·rename_i s hs
   exact ⟨q,hq,Nat.le_of_ble_eq_true h1,by rw[hs,Nat.eq_of_beq_eq_true h2]⟩
  ·simp at h2
 ·simp at this
theorem Xo {N : Nat} {ops : Array Oper} {st : St} {o : Oper} {d : Nat} {fo : Operand} {args : Array Operand} {ts : Array TypeId} {f : FuncId} {xs cxs : List X} {res : X} {ps : List Pass} {os : OS}
  (ho : o.op = .call { callee:=.value fo,args:=args,argTypes:=ts }) (hg : G8 ops st o=some true)
  (hf : lk Z.T st 0 fo=some (true, .fn f [])) (ha : M2 Z.T st ts.toList args.toList=some (true,xs)) (htr : cxs.map (X.tr ps)=xs) (htrok : Z7 ps cxs=true)
  (hps : ∀ p ∈ ps,st.box p.n=some p.cs) (hnd : M9 st ps=true) (hosb : osB ps os st=true)
  (hs : CtrO Z f cxs (ps.map Pass.old) os res (ps.map Pass.ds) .box) (hc : res.clean=true) (hd : o.dst=some d) (hN : Nat.ble (d + 1) N=true) :
  Op1 Z N ops o st (({ st.stores ps with ow:=osPl ps os++(st.stores ps).ow } : St).put d (true,res)):=by
 intro E G a w hr hE K' Q' hK
 rw[J6 hr hg]
 simp only [if_true]
 obtain ⟨cvs,hfv,hcv⟩:=F4 hr hf rfl
 have hcv0 : cvs=[]:=by cases cvs with
  | nil=>rfl
  | cons _ _=>exact hcv.elim
 subst hcv0
 have hav:=P5 hr ha J
 obtain ⟨hen,hsp⟩:=hs
 unfold Oper.wp
 rw[U1 ho hfv hen,Oper.upon_enter]
 rw[← htr] at hav
 have hos:=Rs hosb
 obtain ⟨p1,p2,p3,p4,p5,p6,p7,p8⟩:=Ff hr hE hav htrok hps hnd hos
 rw[List.append_nil]
 refine (hsp E.C w _ _ p1 p2 p3 p4 p5 p6 p7 p8).mono ?_
 rintro e w' ⟨v,G',rfl,hfr,h1,h2,h3,h4,h5,h6,h7,h8⟩
 dsimp only
 obtain ⟨hrel,hS2,hown,hbx⟩:=Cy hr hps hnd hos hfr h1 h2 h3 h5 h6 h8
 have hX : XRep w' (G.backO G' w.heap.size ps os) res v:=h4.mono hS2 (fun _ _ _=>rfl) (fun n hn=>by rw[X.clean_has hc n] at hn; simp at hn)
 rw[hd] at hK ⊢
 have hdN : d < E.nt:=by rw[hE.nt]; exact Nat.le_of_ble_eq_true hN
 refine hK _ v w' ((hrel.addOwns (l:=osPl ps os) ?_).put hdN (g:=true) (fun _=>hX) (fun hf=>by simp at hf))
 intro x hx
 obtain ⟨e,he,hex⟩:=List.mem_filterMap.1 hx
 obtain ⟨q,hq,hlt,hqo⟩:=hos e he
 rw[hq] at hex
 simp only [Option.map_some,Option.some.injEq] at hex
 subst hex
 obtain ⟨u,hu,huo⟩:=h7 e he
 have hA : (G.passedO ps os).A (.o e.1)=((G.A q.n).1,(G.A q.n).2 + q.off):=by simp [Gh.passedO,Gh.passed,hq]
 have hu2 : w'.cell? ⟨(G'.A (.o e.1)).1,(G'.A (.o e.1)).2 + e.2.1,none⟩=some u:=hu
 rw[h5,hA] at hu2
 dsimp only at hu2
 rw[Nat.add_assoc] at hu2
 obtain ⟨u0,hu0,_⟩:=hr.ow _ _ hqo
 exact ⟨u,⟨hu2,hbx _ _ _ hu0.2⟩,hown _ u e q hq (Az hnd q (List.mem_of_getElem? hq)) huo⟩
theorem Pa {N : Nat} {ops : Array Oper} {rest : List Oper} {K : St→Prop} {st : St} {o : Oper} {d : Nat} {fo : Operand} {args : Array Operand} {ts : Array TypeId} {f : FuncId} {xs cxs : List X} {res : X} (ps : List Pass) (os : OS)
  (ho : o.op = .call { callee:=.value fo,args:=args,argTypes:=ts }) (hg : G8 ops st o=some true)
  (hf : lk Z.T st 0 fo=some (true, .fn f [])) (ha : M2 Z.T st ts.toList args.toList=some (true,xs)) (htr : cxs.map (X.tr ps)=xs) (htrok : Z7 ps cxs=true)
  (hps : ∀ p ∈ ps,st.box p.n=some p.cs) (hnd : M9 st ps=true) (hosb : osB ps os st=true)
  (hs : CtrO Z f cxs (ps.map Pass.old) os res (ps.map Pass.ds) .box) (hc : res.clean=true) (hd : o.dst=some d) (hN : Nat.ble (d + 1) N=true)
  (h : AL Z N ops rest K (({ st.stores ps with ow:=osPl ps os++(st.stores ps).ow } : St).put d (true,res))) : AL Z N ops (o :: rest) K st :=
 U7 (Xo ho hg hf ha htr htrok hps hnd hosb hs hc hd hN) h
end Go.Abs
namespace Go.Abs
variable {Z : Pg}
theorem Rel.reBox {E : Env} {G : Gh} {st : St} {a : Act} {w : World} (h : Rel E G st a w) {n : Nm} {cs : List C} {i : Nat} {c c' : C} (hb : st.box n=some cs) (hc : cs[i]? = some c) (hx : ∀ v,w.cell? ⟨(G.A n).1,(G.A n).2 + i,none⟩=some v→CRep w G.S c v→CRep w G.S c' v) :
  Rel E G { st with bx:=(n,cs.set i c') :: st.bx } a w where
 df:=h.df
 tm:=h.tm
 bx:=by
  intro m ds hm
  have hm2 : getB ((n,cs.set i c') :: st.bx) m=some ds:=hm
  rw[G6] at hm2
  split at hm2
  ·rename_i he
   subst he
   simp only [Option.some.injEq] at hm2
   subst hm2
   intro j d hj
   rw[List.getElem?_set] at hj
   split at hj
   ·rename_i hij
    subst hij
    obtain ⟨q1,q2,v,q3,q4⟩:=h.bx n cs hb i c hc
    split at hj
    ·simp only [Option.some.injEq] at hj
     subst hj
     exact ⟨q1,q2,v,q3,hx v q3 q4⟩
    ·simp at hj
   ·exact h.bx n cs hb j d hj
  ·exact h.bx m ds hm2
 ow:=h.ow
 wf:=h.wf
 olB:=h.olB
 olO:=h.olO
 nt:=h.nt
 oA:=h.oA
 im:=h.im
 im':=h.im'
 fr:=h.fr
 hB:=h.hB
 lo:=h.lo
 bd:=by
  intro t k ds hm hne
  have hm2 : getB ((n,cs.set i c') :: st.bx) (.bd t k)=some ds:=hm
  rw[G6] at hm2
  split at hm2
  ·rename_i he
   subst he
   refine h.bd t k cs hb ?_
   intro e; subst e; simp at hc
  ·exact h.bd t k ds hm2 hne
 mp:=h.mp
theorem Rel.name {E : Env} {G : Gh} {st : St} {a : Act} {w : World} (h : Rel E G st a w) {n : Nm} {cs : List C} {i sz : Nat} {es : List (List C)} (hb : st.box n=some cs) (hc : cs[i]? = some (.sl sz es)) :
  ∃ u,Rel E G { st with bx:=(n,cs.set i (.so u sz es)) :: st.bx } a w:=by
 obtain ⟨_,_,v,q3,q4⟩:=h.bx n cs hb i _ hc
 refine ⟨v,h.reBox hb hc fun v' hv' hr=>?_⟩
 rw[q3] at hv'
 simp only [Option.some.injEq] at hv'
 subst hv'
 exact .so _ _ _ hr
theorem Ay {N : Nat} {c : Code} {Q : Exit→St→Prop} {st : St} (n : Nm) (i : Nat) {cs : List C} {sz : Nat} {es : List (List C)} (hb : st.box n=some cs) (hc : cs[i]? = some (.sl sz es))
  (h : ∀ u,AWP Z N c Q { st with bx:=(n,cs.set i (.so u sz es)) :: st.bx }) : AWP Z N c Q st:=fun E G a w hr hE=>by
 obtain ⟨u,hu⟩:=hr.name hb hc
 exact h u E G a w hu hE
theorem Rel.twin {E : Env} {G : Gh} {st : St} {a : Act} {w : World} (h : Rel E G st a w) {n m : Nm} {cs ds : List C} {i k sz : Nat} {es : List (List C)} {u : Value} (hb : st.box n=some cs) (hc : cs[i]? = some (.so u sz es)) (hbm : st.box m=some ds) (hcm : ds[k]? = some (.so u sz es))
  (ho : st.own (.b m k)=some sz) (hnb : n.isBd=false) (hne : Pl.beq (.b m k) (.b n i)=false) :
  ∃ G',Rel E G' ((({ st with bx:=(n,cs.set i (.sl sz es)) :: st.bx } : St).unown (.b m k)).addOwn (.b n i) sz) a w:=by
 have h0 : ∀ v,w.cell? ⟨(G.A n).1,(G.A n).2 + i,none⟩=some v→CRep w G.S (.so u sz es) v→CRep w G.S (.sl sz es) v:=fun v _ hr=>by cases hr; assumption
 have h1:=h.reBox hb hc h0
 obtain ⟨x,hx,hxo⟩:=h1.ow (.b m k) sz ho
 have hxu : x=u:=by
  obtain ⟨_,_,v,q3,q4⟩:=h.bx m ds hbm k _ hcm
  rw[hx.1] at q3
  simp only [Option.some.injEq] at q3
  subst q3
  cases q4; rfl
 subst hxu
 have h2 : Rel E G (({ st with bx:=(n,cs.set i (.sl sz es)) :: st.bx } : St).unown (.b n i)) a w:=Rel.sub (st:=({ st with bx:=(n,cs.set i (.sl sz es)) :: st.bx } : St)) ⟨fun _ _ q=>q,fun _ _ q=>q,fun p s hp=>by
  rw[St.unown_own] at hp
  split at hp
  ·simp at hp
  ·exact hp, .inr J⟩ h1
 obtain ⟨q1,_,v,q3,q4⟩:=h.bx n cs hb i _ hc
 have hvu : v=x:=by cases q4; rfl
 subst hvu
 have h3:=h2.relabel (p:=.b m k) (q:=.b n i) hxo (by rw[St.unown_own,if_pos J]) ⟨q3,q1⟩ (by intro t k' o hh; simp only [Pl.b.injEq] at hh; rw[hh.1] at hnb; simp [Nm.isBd] at hnb)
 refine ⟨_,Rel.sub (st:=(((({ st with bx:=(n,cs.set i (.sl sz es)) :: st.bx } : St).unown (.b n i)).unown (.b m k)).addOwn (.b n i) sz)) ⟨fun _ _ q=>q,fun _ _ q=>q,fun p s hp=>?_, .inr J⟩ h3⟩
 rw[St.addOwn_own] at hp ⊢
 split
 ·rename_i he; rw[if_pos he] at hp; exact hp
 ·rename_i he
  rw[if_neg he] at hp
  rw[St.unown_own] at hp ⊢
  split at hp
  ·simp at hp
  ·rename_i hpm
   rw[if_neg hpm,St.unown_own,if_neg (fun q=>he q.symm)]
   exact hp
theorem Be {N : Nat} {c : Code} {Q : Exit→St→Prop} {st : St} (n : Nm) (i : Nat) (m : Nm) (k : Nat) {cs ds : List C} {sz : Nat} {es : List (List C)} {u : Value} (hb : st.box n=some cs) (hc : cs[i]? = some (.so u sz es)) (hbm : st.box m=some ds) (hcm : ds[k]? = some (.so u sz es))
  (ho : st.own (.b m k)=some sz) (hnb : n.isBd=false) (hne : Pl.beq (.b m k) (.b n i)=false)
  (h : AWP Z N c Q ((({ st with bx:=(n,cs.set i (.sl sz es)) :: st.bx } : St).unown (.b m k)).addOwn (.b n i) sz)) : AWP Z N c Q st:=fun E G a w hr hE=>by
 obtain ⟨G',hr'⟩:=hr.twin hb hc hbm hcm ho hnb hne
 exact h E G' a w hr' hE
theorem Bg (b : Nat) : ∀ (vs : List Value) (o : Nat) (w : World) (x : Nat),(w.setCells b o vs).shape? x=w.shape? x
 | [],_,_,_=>rfl
 | v :: vs,o,w,x=>by rw[World.setCells,Bg b vs]; exact M7 _ _ _ _
theorem Cm (b : Nat) : ∀ (vs : List Value) (o : Nat) (w : World) (x : Nat),L0 (w.setCells b o vs) x=L0 w x
 | [],_,_,_=>rfl
 | v :: vs,o,w,x=>by rw[World.setCells,Cm b vs]; exact V7 _ _ _ _
theorem OwnAt.setCells {B : Nat} {w : World} {G : Gh} {p : Pl} {sz : Nat} {v : Value} (h : OwnAt B w G p sz v) (b o : Nat) (vs : List Value) : OwnAt B (w.setCells b o vs) G p sz v:=by
 rcases h with h | ⟨blk,len,cap,e,q1,q2,q3,q4⟩
 ·exact .inl h
 ·exact .inr ⟨blk,len,cap,e,q1,q2,⟨by rw[Bg]; exact q3.1,by rw[Cm]; exact q3.2⟩,fun o' h1 h2=>⟨(q4 o' h1 h2).1,by rw[World.frozen?_setCells]; exact (q4 o' h1 h2).2⟩⟩
theorem I6 {a : Act} {d k : Nat} {v : Value} (hk : k < a.tmps.size) : (a.put (some d) v).eval (.tmp k)=if k=d then v else a.eval (.tmp k):=by
 have h1:=K2 (a:=a) (d:=d) (v:=v) hk
 show (a.put (some d) v).tmps.getD k undef=if k=d then v else a.tmps.getD k undef
 rw[Array.getD_eq_getD_getElem?,h1,Array.getD_eq_getD_getElem?]
 split <;> rfl
theorem V2 (a : Act) (d : Nat) (v : Value) : (a.put (some d) v).tmps.size=a.tmps.size:=by simp [Act.put]
theorem Mr {ops : Array Oper} {rest : List Oper} {o : Oper} {a : Act} {w : World} {Q : Exit→Act→World→Prop} {d : Nat} {v : Value} (hg : o.guard=none) (hd : o.dst=some d) (hrun : (execOp a.eval o).run Z.P w = .ok (.value v) w)
  (h : wpList Z.P ops Q rest (a.put (some d) v) w) : wpList Z.P ops Q (o :: rest) a w:=by
 unfold wpList
 rw[if_pos (by simp [Region.wanted,hg])]
 refine .inl ?_
 unfold Oper.wp
 rw[hrun,Oper.upon_value,hd]
 exact h
theorem Qx {ops : Array Oper} {rest : List Oper} {o : Oper} {a : Act} {w w' : World} {Q : Exit→Act→World→Prop} (hg : o.guard=none) (hd : o.dst=none) (hrun : (execOp a.eval o).run Z.P w = .ok .skip w')
  (h : wpList Z.P ops Q rest a w') : wpList Z.P ops Q (o :: rest) a w:=by
 unfold wpList
 rw[if_pos (by simp [Region.wanted,hg])]
 refine .inl ?_
 unfold Oper.wp
 rw[hrun,Oper.upon_skip,hd]
 exact h
theorem W7 {N : Nat} {ops : Array Oper} {rest : List Oper} {K : St→Prop} {st : St} {o1 o2 o3 o4 o5 o6 : Oper} {d1 d2 d3 d4 p1 p2 : Nat} {T1 T2 : TypeId} {fo : Operand} {args : Array Operand} {ts : Array TypeId} {f : FuncId} {xs cxs : List X} {ti1 ti2 : TyI}
  (n1 n2 : Nm) {cs cs2 ds1 ds2 : List C} (os : OS)
  (ho1 : o1.op = .call { callee:=.value fo,args:=args,argTypes:=ts }) (ho2 : o2.op = .move (.tmp d1)) (ho3 : o3.op = .extract (.tmp d2) 0) (ho4 : o4.op = .extract (.tmp d2) 1) (ho5 : o5.op = .store T1 (.tmp p1) (.tmp d3)) (ho6 : o6.op = .store T2 (.tmp p2) (.tmp d4))
  (hd : o1.dst=some d1∧o2.dst=some d2∧o3.dst=some d3∧o4.dst=some d4∧o5.dst=none∧o6.dst=none) (hg : o1.guard=none∧o2.guard=none∧o3.guard=none∧o4.guard=none∧o5.guard=none∧o6.guard=none)
  (hf : lk Z.T st 0 fo=some (true, .fn f [])) (ha : M2 Z.T st ts.toList args.toList=some (true,xs)) (htr : cxs.map (X.tr [⟨n1,0,cs,cs⟩])=xs) (htrok : Z7 [⟨n1,0,cs,cs⟩] cxs=true)
  (hp1 : st.get p1=some (true, .v (.ptr n1 0))) (hp2 : st.get p2=some (true, .v (.ptr n2 0))) (hb1 : st.box n1=some cs) (hb2 : st.box n2=some cs2) (hn : Nm.beq n1 n2=false) (hnb : n1.isBd=false∧n2.isBd=false)
  (hosb : osB [⟨n1,0,cs,cs⟩] os st=true) (hs : CtrO Z f cxs [cs] os (.tup [.agg ds1, .agg ds2]) [cs] .res) (hl1 : ds1.length=cs.length) (hl2 : ds2.length=cs2.length)
  (ht1 : tyAt Z.T T1=some ti1) (hti1 : ds1.length=ti1.n) (ht2 : tyAt Z.T T2=some ti2) (hti2 : ds2.length=ti2.n)
  (hN : (Nat.ble (d1 + 1) N && Nat.ble (d2 + 1) N && Nat.ble (d3 + 1) N && Nat.ble (d4 + 1) N)=true)
  (hdis : (!Nat.beq p1 d1 && !Nat.beq p1 d2 && !Nat.beq p1 d3 && !Nat.beq p1 d4 && !Nat.beq p2 d1 && !Nat.beq p2 d2 && !Nat.beq p2 d3 && !Nat.beq p2 d4 && !Nat.beq d3 d4 && !Nat.beq d2 d3)=true)
  (h : AL Z N ops rest K ((((({ (st.store n1 ds1 0 ds1.length).store n2 ds2 0 ds2.length with ow:=osPl [⟨n1,0,cs,cs⟩] os++((st.store n1 ds1 0 ds1.length).store n2 ds2 0 ds2.length).ow } : St).put d1 (true, .tup [.agg ds1, .agg ds2])).put d2 (true, .tup [.agg ds1, .agg ds2])).put d3 (true, .v (.agg ds1))).put d4 (true, .v (.agg ds2)))) :
  AL Z N ops (o1 :: o2 :: o3 :: o4 :: o5 :: o6 :: rest) K st:=by
 intro E G a w hr hE K' hK
 obtain ⟨cvs,hfv,hcv⟩:=F4 hr hf rfl
 have hcv0 : cvs=[]:=by cases cvs with
  | nil=>rfl
  | cons _ _=>exact hcv.elim
 subst hcv0
 have hav:=P5 hr ha J
 obtain ⟨hen,hsp⟩:=hs
 rw[← htr] at hav
 have hps : ∀ p ∈ ([⟨n1,0,cs,cs⟩] : List Pass),st.box p.n=some p.cs:=by intro p hp; simp at hp; subst hp; exact hb1
 have hnd : M9 st [⟨n1,0,cs,cs⟩]=true:=by simp [M9,hnb.1]
 have hos:=Rs hosb
 obtain ⟨q1,q2,q3,q4,q5,q6,q7,q8⟩:=Ff hr hE hav htrok hps hnd hos
 have hold : ([⟨n1,0,cs,cs⟩] : List Pass).map Pass.old=[cs]:=by simp [Pass.old]
 rw[hold] at q4 q5
 unfold wpList
 rw[if_pos (by simp [Region.wanted,hg.1])]
 refine .inl ?_
 unfold Oper.wp
 rw[U1 ho1 hfv hen,Oper.upon_enter,List.append_nil]
 refine (hsp E.C w _ _ q1 q2 q3 q4 q5 q6 q7 q8).mono ?_
 rintro e w' ⟨v,G',rfl,hfr,h1,h2,h3,h4,h5,h6,h7,h8⟩
 dsimp only
 obtain ⟨hrel,hS2,hown,hbx⟩:=Cy hr hps hnd hos hfr h1 h2 h3 h5 (by
  intro j cs' hj
  exact h6 j cs' (by simpa using hj)) h8
 generalize hG2 : G.backO G' w.heap.size [⟨n1,0,cs,cs⟩] os=G2 at hrel hS2 hown hbx
 have hA2 : G2.A=G.A:=by rw[← hG2]; rfl
 have hX : XRep w' G2 (.tup [.agg ds1, .agg ds2]) v:=h4.mono hS2 (fun _ _ _=>rfl) (fun n hn=>by simp [X.has,Y.has] at hn)
 obtain ⟨vs,hv,hvs⟩:=hX
 subst hv
 match vs,hvs with
 | [v0,v1],⟨hx0,hx1,_⟩ =>
 obtain ⟨us0,rfl,hu0⟩:=hx0
 obtain ⟨us1,rfl,hu1⟩:=hx1
 obtain ⟨hd1,hd2,hd3,hd4,hd5,hd6⟩:=hd
 obtain ⟨_,hg2,hg3,hg4,hg5,hg6⟩:=hg
 simp only [Bool.and_eq_true,Bool.not_eq_true'] at hdis hN
 have nb : ∀ {x y : Nat},Nat.beq x y=false → ¬ x=y:=fun hb he=>by subst he; simp at hb
 obtain ⟨⟨⟨⟨⟨⟨⟨⟨⟨a1,a2⟩,a3⟩,a4⟩,b1⟩,b2⟩,b3⟩,b4⟩,c1⟩,c2⟩:=hdis
 obtain ⟨⟨⟨l1,l2⟩,l3⟩,l4⟩:=hN
 have l1:=Nat.le_of_ble_eq_true l1
 have l2:=Nat.le_of_ble_eq_true l2
 have l3:=Nat.le_of_ble_eq_true l3
 have l4:=Nat.le_of_ble_eq_true l4
 have hnt : a.tmps.size=N:=by rw[hr.nt,hE.nt]
 obtain ⟨x1,hx1,hx1r,_⟩:=hr.tm _ _ _ hp1
 obtain ⟨x2,hx2,hx2r,_⟩:=hr.tm _ _ _ hp2
 have lp1 : p1 < a.tmps.size:=M4 hx1
 have lp2 : p2 < a.tmps.size:=M4 hx2
 have ep1 : a.eval (.tmp p1) = .pointer (some ⟨(G2.A n1).1,(G2.A n1).2 + 0,none⟩):=by
  have : x1=_:=hx1r J
  rw[hA2,← this]; simp [Act.eval,Array.getD_eq_getD_getElem?,hx1]
 have ep2 : a.eval (.tmp p2) = .pointer (some ⟨(G2.A n2).1,(G2.A n2).2 + 0,none⟩):=by
  have : x2=_:=hx2r J
  rw[hA2,← this]; simp [Act.eval,Array.getD_eq_getD_getElem?,hx2]
 rw[hd1]
 let A1:=a.put (some d1) (.tuple #[.agg us0.toArray, .agg us1.toArray])
 let A2:=A1.put (some d2) (.tuple #[.agg us0.toArray, .agg us1.toArray])
 let A3:=A2.put (some d3) (.agg us0.toArray)
 let A4:=A3.put (some d4) (.agg us1.toArray)
 have z1 : A1.tmps.size=N:=by rw[V2,hnt]
 have z2 : A2.tmps.size=N:=by rw[V2,z1]
 have z3 : A3.tmps.size=N:=by rw[V2,z2]
 have z4 : A4.tmps.size=N:=by rw[V2,z3]
 have e1 : A1.eval (.tmp d1) = .tuple #[.agg us0.toArray, .agg us1.toArray]:=by rw[I6 (by omega),if_pos J]
 have e2 : A2.eval (.tmp d2) = .tuple #[.agg us0.toArray, .agg us1.toArray]:=by rw[I6 (by omega),if_pos J]
 have e3 : A3.eval (.tmp d2) = .tuple #[.agg us0.toArray, .agg us1.toArray]:=by rw[I6 (by omega),if_neg (nb c2),e2]
 have e4 : A4.eval (.tmp d3) = .agg us0.toArray:=by rw[I6 (by omega),if_neg (nb c1),I6 (by omega),if_pos J]
 have e5 : A4.eval (.tmp d4) = .agg us1.toArray:=by rw[I6 (by omega),if_pos J]
 have e6 : A4.eval (.tmp p1) = .pointer (some ⟨(G2.A n1).1,(G2.A n1).2 + 0,none⟩):=by
  rw[I6 (by omega),if_neg (nb a4),I6 (by omega),if_neg (nb a3),I6 (by omega),if_neg (nb a2),I6 (by omega),if_neg (nb a1),ep1]
 have e7 : A4.eval (.tmp p2) = .pointer (some ⟨(G2.A n2).1,(G2.A n2).2 + 0,none⟩):=by
  rw[I6 (by omega),if_neg (nb b4),I6 (by omega),if_neg (nb b3),I6 (by omega),if_neg (nb b2),I6 (by omega),if_neg (nb b1),ep2]
 refine Mr (v:=.tuple #[.agg us0.toArray, .agg us1.toArray]) hg2 hd2 (by simp [execOp,ho2]; exact e1) ?_;refine Mr (v:=.agg us0.toArray) hg3 hd3 (by
  have : (A2.eval (.tmp d2))=_:=e2
  simp only [execOp,ho3]
  rw[e2]; simp [Instr.extract]) ?_
 refine Mr (v:=.agg us1.toArray) hg4 hd4 (by
  simp only [execOp,ho4]
  rw[e3]; simp [Instr.extract]) ?_
 have hbn : (st.stores [⟨n1,0,cs,cs⟩]).box n1=some (I4 cs 0 cs):=by
  rw[St.stores,St.stores,St.store_box,if_pos J]
 have hlen0:=hu0.len
 have hlen1:=hu1.len
 have hR1:=hrel.storeAll ds1 us0 (n:=n1) (off:=0) hbn (by rw[L3]; omega) hu0 (fun hb=>by rw[hnb.1] at hb; simp at hb)
 have hrun1:=Q0 hrel (n:=n1) (off:=0) (ds:=ds1) (v:=.agg us0.toArray) hbn (by rw[L3]; omega) ht1 hti1 (by simpa [Value.cells] using hu0)
 have hn12 : ¬ n1=n2:=fun he=>by subst he; rw[Nm.beq_self] at hn; simp at hn
 have hbn2 : ((st.stores [⟨n1,0,cs,cs⟩]).store n1 (I4 (I4 cs 0 cs) 0 ds1) 0 ds1.length).box n2=some cs2:=by
  rw[St.store_box,if_neg hn12,St.stores,St.stores,St.store_box,if_neg hn12]; exact hb2
 have hSc : ∀ (b o : Nat),G2.S b o→(w'.setCells (G2.A n1).1 ((G2.A n1).2 + 0) us0).cell? ⟨b,o,none⟩=w'.cell? ⟨b,o,none⟩:=fun b o hso=>by
  refine World.cell?_setCells_out _ _ _ _ _ (fun hb _=>?_)
  dsimp only at hb ⊢
  rcases Nat.lt_or_ge o ((G2.A n1).2 + 0) with hq | hq
  ·exact .inl hq
  rcases Nat.lt_or_ge o ((G2.A n1).2 + 0 + us0.length) with hq2 | hq2
  ·exfalso
   have hbb:=hrel.bx n1 _ hbn (o - (G2.A n1).2) _ (List.getElem?_eq_getElem (by rw[L3]; omega))
   have hl:=hbb.1
   rw[show (G2.A n1).2 + (o - (G2.A n1).2)=o by omega,← hb] at hl
   unfold Gh.S at hso
   rw[hso] at hl; simp at hl
  ·exact .inr hq2
 have hu1' : All2 (CRep (w'.setCells (G2.A n1).1 ((G2.A n1).2 + 0) us0) G2.S) ds2 us1:=hu1.mono fun _ _ hc=>hc.mono (fun _ _ q=>q) hSc
 have hR2:=hR1.storeAll ds2 us1 (n:=n2) (off:=0) hbn2 (by omega) hu1' (fun hb=>by rw[hnb.2] at hb; simp at hb)
 have hrun2:=Q0 hR1 (n:=n2) (off:=0) (ds:=ds2) (v:=.agg us1.toArray) hbn2 (by omega) ht2 hti2 (by simpa [Value.cells] using hu1')
 refine Qx (w':=w'.setCells (G2.A n1).1 ((G2.A n1).2 + 0) us0) hg5 hd5 (by
  have e4' : Act.eval (((a.put (some d1) (.tuple #[.agg us0.toArray, .agg us1.toArray])).put (some d2) (.tuple #[.agg us0.toArray, .agg us1.toArray])).put (some d3) (.agg us0.toArray) |>.put (some d4) (.agg us1.toArray)) (.tmp d3)=_:=e4
  have e6' : Act.eval (((a.put (some d1) (.tuple #[.agg us0.toArray, .agg us1.toArray])).put (some d2) (.tuple #[.agg us0.toArray, .agg us1.toArray])).put (some d3) (.agg us0.toArray) |>.put (some d4) (.agg us1.toArray)) (.tmp p1)=_:=e6
  simp only [execOp,ho5]
  rw[e4',e6']
  simp only [Value.cells,Nat.add_zero] at hrun1
  simp [hrun1]) ?_
 refine Qx (w':=(w'.setCells (G2.A n1).1 ((G2.A n1).2 + 0) us0).setCells (G2.A n2).1 ((G2.A n2).2 + 0) us1) hg6 hd6 (by
  have e4' : Act.eval (((a.put (some d1) (.tuple #[.agg us0.toArray, .agg us1.toArray])).put (some d2) (.tuple #[.agg us0.toArray, .agg us1.toArray])).put (some d3) (.agg us0.toArray) |>.put (some d4) (.agg us1.toArray)) (.tmp d4)=_:=e5
  have e6' : Act.eval (((a.put (some d1) (.tuple #[.agg us0.toArray, .agg us1.toArray])).put (some d2) (.tuple #[.agg us0.toArray, .agg us1.toArray])).put (some d3) (.agg us0.toArray) |>.put (some d4) (.agg us1.toArray)) (.tmp p2)=_:=e7
  simp only [execOp,ho6]
  rw[e4',e6']
  simp only [Value.cells,Nat.add_zero] at hrun2
  simp [hrun2]) ?_
 generalize hwf : (w'.setCells (G2.A n1).1 ((G2.A n1).2 + 0) us0).setCells (G2.A n2).1 ((G2.A n2).2 + 0) us1=wf at hR2 ⊢
 have hcf : ∀ (b o : Nat),G2.S b o→wf.cell? ⟨b,o,none⟩=w'.cell? ⟨b,o,none⟩:=fun b o hso=>by
  rw[← hwf,← hSc b o hso]
  refine World.cell?_setCells_out _ _ _ _ _ (fun hb _=>?_)
  dsimp only at hb ⊢
  rcases Nat.lt_or_ge o ((G2.A n2).2 + 0) with hq | hq
  ·exact .inl hq
  rcases Nat.lt_or_ge o ((G2.A n2).2 + 0 + us1.length) with hq2 | hq2
  ·exfalso
   have hbb:=hR1.bx n2 _ hbn2 (o - (G2.A n2).2) _ (List.getElem?_eq_getElem (by omega))
   have hl:=hbb.1
   rw[show (G2.A n2).2 + (o - (G2.A n2).2)=o by omega,← hb] at hl
   unfold Gh.S at hso
   rw[hso] at hl; simp at hl
  ·exact .inr hq2
 have r0 : All2 (CRep wf G2.S) ds1 us0:=hu0.mono fun _ _ hc=>hc.mono (fun _ _ q=>q) hcf
 have r1 : All2 (CRep wf G2.S) ds2 us1:=hu1.mono fun _ _ hc=>hc.mono (fun _ _ q=>q) hcf
 have hR3 : Rel E G2 ((st.store n1 ds1 0 ds1.length).store n2 ds2 0 ds2.length) a wf:=by
  refine hR2.sub ⟨fun k e hk=>?_,fun m ds hm=>?_,fun p s hp=>?_, .inr ?_⟩
  ·exact hk
  ·rw[St.store_box] at hm ⊢
   split
   ·rename_i he; rw[if_pos he] at hm
    rw[T6 hl2]; exact hm
   ·rename_i he; rw[if_neg he] at hm
    rw[St.store_box] at hm ⊢
    split
    ·rename_i he2; rw[if_pos he2] at hm
     rw[T6 J,T6 hl1]; exact hm
    ·rename_i he2; rw[if_neg he2] at hm
     rw[St.stores,St.stores,St.store_box,if_neg he2]; exact hm
  ·rw[St.store_own] at hp ⊢
   split at hp
   ·simp at hp
   ·rename_i c1
    rw[if_neg c1]
    rw[St.store_own] at hp ⊢
    split at hp
    ·simp at hp
    ·rename_i c2
     rw[if_neg c2,St.stores,St.stores,St.store_own,if_neg]
     ·exact hp
     ·rw[← hl1]; exact c2
  ·rfl
 have hR4:=hR3.addOwns (l:=osPl [⟨n1,0,cs,cs⟩] os) (by
  intro x hx
  obtain ⟨e,he,hex⟩:=List.mem_filterMap.1 hx
  obtain ⟨q,hq,hlt,hqo⟩:=hos e he
  rw[hq] at hex
  simp only [Option.map_some,Option.some.injEq] at hex
  subst hex
  obtain ⟨u,⟨us,ws,hu,hus,hws⟩,huo⟩:=h7 e he
  simp only [Value.tuple.injEq] at hu
  subst hu
  have hws0 : ws=us0.toArray:=by simpa using hus.symm
  subst hws0
  have hqn : q=⟨n1,0,cs,cs⟩:=by
   have := List.mem_of_getElem? hq
   simpa using this
  subst hqn
  have hbl : e.2.1 < us0.length:=by
   have hlt' : e.2.1 < cs.length:=hlt
   omega
  have hw1 : us0[e.2.1]? = some u:=by simpa using hws
  refine ⟨u,⟨?_,?_⟩,?_⟩
  ·show wf.cell? ⟨(G2.A n1).1,(G2.A n1).2 + (0 + e.2.1),none⟩=some u
   obtain ⟨c,hc⟩ : ∃ c,ds1[e.2.1]? = some c:=⟨_,List.getElem?_eq_getElem (by omega)⟩
   have hbox1:=hR3.bx n1 ds1 (by rw[St.store_box,if_neg (fun q=>hn12 q.symm),St.store_box,if_pos J])
   have hsome : ∀ j,j < us0.length→(w'.cell? ⟨(G2.A n1).1,(G2.A n1).2 + 0 + j,none⟩).isSome=true:=fun j hj=>by
    obtain ⟨_,_,y,hy,_⟩:=hrel.bx n1 _ hbn j _ (List.getElem?_eq_getElem (by rw[L3]; omega))
    rw[Nat.add_zero,hy]; rfl
   have hin:=World.cell?_setCells_in (G2.A n1).1 us0 ((G2.A n1).2 + 0) w' hsome e.2.1 hbl
   rw[← hwf,World.cell?_setCells_out]
   ·rw[Nat.zero_add]
    rw[Nat.add_zero] at hin ⊢
    rw[hin,← hw1,List.getElem?_eq_getElem hbl]
   ·intro hb _
    dsimp only at hb ⊢
    rcases Nat.lt_or_ge ((G2.A n1).2 + (0 + e.2.1)) ((G2.A n2).2 + 0) with hq | hq
    ·exact .inl hq
    rcases Nat.lt_or_ge ((G2.A n1).2 + (0 + e.2.1)) ((G2.A n2).2 + 0 + us1.length) with hq2 | hq2
    ·exfalso
     have t1:=(hR1.bx n2 _ hbn2 ((G2.A n1).2 + (0 + e.2.1) - (G2.A n2).2) _ (List.getElem?_eq_getElem (by omega))).1
     have t2:=(hrel.bx n1 _ hbn e.2.1 _ (List.getElem?_eq_getElem (by rw[L3]; exact hlt))).1
     rw[show (G2.A n2).2 + ((G2.A n1).2 + (0 + e.2.1) - (G2.A n2).2)=(G2.A n1).2 + e.2.1 by omega,← hb,t2] at t1
     simp only [Who.box.injEq] at t1
     exact hn12 t1
    ·exact .inr hq2
  ·show G2.W (G2.A n1).1 ((G2.A n1).2 + (0 + e.2.1)) = .box n1
   have := (hrel.bx n1 _ hbn e.2.1 _ (List.getElem?_eq_getElem (by rw[L3]; exact hlt))).1
   rw[Nat.zero_add]; exact this
  ·rw[← hwf]
   exact ((hown _ u e _ hq hnb.1 huo).setCells _ _ _).setCells _ _ _)
 have hR5:=hR4.put (d:=d1) (by rw[hE.nt]; exact l1) (g:=true) (x:=.tup [.agg ds1, .agg ds2]) (v:=.tuple #[.agg us0.toArray, .agg us1.toArray]) (fun _=>⟨[_,_],rfl,⟨_,rfl,r0⟩,⟨_,rfl,r1⟩,O⟩) (fun hf=>by simp at hf)
 have hR6:=hR5.put (d:=d2) (by rw[hE.nt]; exact l2) (g:=true) (x:=.tup [.agg ds1, .agg ds2]) (v:=.tuple #[.agg us0.toArray, .agg us1.toArray]) (fun _=>⟨[_,_],rfl,⟨_,rfl,r0⟩,⟨_,rfl,r1⟩,O⟩) (fun hf=>by simp at hf)
 have hR7:=hR6.put (d:=d3) (by rw[hE.nt]; exact l3) (g:=true) (x:=.v (.agg ds1)) (v:=.agg us0.toArray) (fun _=>⟨_,rfl,r0⟩) (fun hf=>by simp at hf)
 have hR8:=hR7.put (d:=d4) (by rw[hE.nt]; exact l4) (g:=true) (x:=.v (.agg ds2)) (v:=.agg us1.toArray) (fun _=>⟨_,rfl,r1⟩) (fun hf=>by simp at hf)
 exact h E G2 _ wf hR8 hE K' hK
end Go.Abs
namespace Go.Abs
variable {Z : Pg}
theorem Iu {f : FuncId} {l : List UInt8} {rest : List X} {bs bs' : List (List C)} {res : X} {ro : Option Nat} (hen : P8 Z f) (h : l.length≤9223372036854775807→Ctr Z f (.v (.c (.s l)) :: rest) bs res ro bs') : Ctr Z f (.v (.c (.s l)) :: rest) bs res ro bs':=by
 refine ⟨hen,fun w G vs hvs=>?_⟩
 match vs,hvs with
 | v :: vs,hvs =>
  have h1 : CRep w G.S (.s l) v:=hvs.1
  exact (h h1.strMax).2 w G (v :: vs) hvs
theorem Ja {f : FuncId} {args : List X} {bs bs' : List (List C)} {res : X} {ro : Option Nat} (h : Ctr Z f args bs res ro bs') : P8 Z f:=h.1
end Go.Abs
namespace Go.Proofs.YteidahabkfgfjaaGreat
open Go Go.Abs
def tab : List (Option TyI):=[none,
 some { n:=1,agg:=false,offs:=[],el:=none,z:=[.o .nilFunc] },
 some { n:=1,agg:=false,offs:=[],el:=none,z:=[.i .i64 0] },
 some { n:=1,agg:=false,offs:=[],el:=none,z:=[.i .i64 0] },
 some { n:=1,agg:=false,offs:=[],el:=none,z:=[.b false] },
 some { n:=1,agg:=false,offs:=[],el:=none,z:=[.i .u8 0] },
 some { n:=1,agg:=false,offs:=[],el:=none,z:=[.i .u8 0] },
 some { n:=4,agg:=true,offs:=[0,1,2,3],el:=none,z:=[.i .i64 0, .i .i64 0, .b false, .i .u8 0] },
 some { n:=4,agg:=true,offs:=[0,1,2,3],el:=none,z:=[.i .i64 0, .i .i64 0, .b false, .i .u8 0] },
 some { n:=1,agg:=false,offs:=[],el:=none,z:=[.s []] },
 some { n:=1,agg:=false,offs:=[],el:=none,z:=[.s []] },
 some { n:=1,agg:=false,offs:=[],el:=none,z:=[.s []] },
 some { n:=1,agg:=false,offs:=[],el:=none,z:=[.i .u64 0] },
 some { n:=2,agg:=true,offs:=[0,1],el:=none,z:=[.s [], .i .u64 0] },
 some { n:=2,agg:=true,offs:=[0,1],el:=none,z:=[.s [], .i .u64 0] },
 some { n:=1,agg:=false,offs:=[],el:=none,z:=[.o (.pointer none)] },
 some { n:=1,agg:=false,offs:=[],el:=none,z:=[.o (.pointer none)] },
 some { n:=1,agg:=false,offs:=[],el:=none,z:=[.o (.pointer none)] },
 some { n:=1,agg:=true,offs:=[0],el:=none,z:=[.o (.pointer none)] },
 some { n:=1,agg:=true,offs:=[0],el:=none,z:=[.o (.pointer none)] },
 none,
 some { n:=1,agg:=false,offs:=[],el:=none,z:=[.i .i32 0] },
 some { n:=1,agg:=false,offs:=[],el:=some (9,1,16),z:=[.sl 1 []] },
 some { n:=1,agg:=false,offs:=[],el:=some (79,3,40),z:=[.sl 3 []] },
 some { n:=1,agg:=false,offs:=[],el:=some (49,7,96),z:=[.sl 7 []] },
 some { n:=1,agg:=false,offs:=[],el:=some (51,5,72),z:=[.sl 5 []] },
 some { n:=6,agg:=true,offs:=[0,1,2,3,4,5],el:=none,z:=[.s [], .sl 1 [], .sl 3 [], .sl 1 [], .sl 7 [], .sl 5 []] },
 some { n:=6,agg:=true,offs:=[0,1,2,3,4,5],el:=none,z:=[.s [], .sl 1 [], .sl 3 [], .sl 1 [], .sl 7 [], .sl 5 []] },
 some { n:=1,agg:=false,offs:=[],el:=none,z:=[.o .nilFunc] },
 some { n:=1,agg:=false,offs:=[],el:=none,z:=[.o .nilFunc] },
 some { n:=1,agg:=false,offs:=[],el:=none,z:=[.i .i64 0] },
 none,
 some { n:=1,agg:=false,offs:=[],el:=none,z:=[.o .nilFunc] },
 some { n:=1,agg:=false,offs:=[],el:=none,z:=[.o .nilFunc] },
 some { n:=1,agg:=false,offs:=[],el:=some (3,1,8),z:=[.sl 1 []] },
 some { n:=1,agg:=false,offs:=[],el:=none,z:=[.o .nilFunc] },
 some { n:=1,agg:=false,offs:=[],el:=none,z:=[.o .nilFunc] },
 some { n:=1,agg:=false,offs:=[],el:=none,z:=[.o .nilFunc] },
 some { n:=1,agg:=false,offs:=[],el:=none,z:=[.o .nilFunc] },
 some { n:=1,agg:=false,offs:=[],el:=some (47,4,56),z:=[.sl 4 []] },
 some { n:=1,agg:=false,offs:=[],el:=none,z:=[.o .nilFunc] },
 some { n:=1,agg:=false,offs:=[],el:=none,z:=[.o .nilFunc] },
 none,
 some { n:=1,agg:=false,offs:=[],el:=none,z:=[.o .nilFunc] },
 some { n:=1,agg:=false,offs:=[],el:=none,z:=[.o .nilFunc] },
 some { n:=1,agg:=false,offs:=[],el:=none,z:=[.o .nilFunc] },
 some { n:=4,agg:=true,offs:=[0,1,2,3],el:=none,z:=[.i .i64 0, .s [], .i .i64 0, .sl 4 []] },
 some { n:=4,agg:=true,offs:=[0,1,2,3],el:=none,z:=[.i .i64 0, .s [], .i .i64 0, .sl 4 []] },
 some { n:=7,agg:=true,offs:=[0,1,2,6],el:=none,z:=[.s [], .s [], .i .i64 0, .s [], .i .i64 0, .sl 4 [], .i .i64 0] },
 some { n:=7,agg:=true,offs:=[0,1,2,6],el:=none,z:=[.s [], .s [], .i .i64 0, .s [], .i .i64 0, .sl 4 [], .i .i64 0] },
 some { n:=5,agg:=true,offs:=[0,1,2,3,4],el:=none,z:=[.i .i64 0, .s [], .s [], .sl 4 [], .i .i64 0] },
 some { n:=5,agg:=true,offs:=[0,1,2,3,4],el:=none,z:=[.i .i64 0, .s [], .s [], .sl 4 [], .i .i64 0] },
 some { n:=1,agg:=false,offs:=[],el:=none,z:=[.o .nilFunc] },
 some { n:=1,agg:=false,offs:=[],el:=none,z:=[.o .nilFunc] },
 some { n:=1,agg:=false,offs:=[],el:=none,z:=[.o .nilFunc] },
 none,
 some { n:=1,agg:=false,offs:=[],el:=none,z:=[.o .nilFunc] },
 some { n:=1,agg:=false,offs:=[],el:=none,z:=[.o .nilFunc] },
 some { n:=1,agg:=false,offs:=[],el:=none,z:=[.o .nilFunc] },
 some { n:=1,agg:=false,offs:=[],el:=none,z:=[.o .nilFunc] },
 some { n:=1,agg:=false,offs:=[],el:=none,z:=[.o .nilFunc] },
 some { n:=1,agg:=false,offs:=[],el:=none,z:=[.o (.map none)] },
 some { n:=2,agg:=true,offs:=[0,1],el:=none,z:=[.sl 1 [], .o (.map none)] },
 some { n:=2,agg:=true,offs:=[0,1],el:=none,z:=[.sl 1 [], .o (.map none)] },
 some { n:=1,agg:=false,offs:=[],el:=none,z:=[.o .nilFunc] },
 some { n:=1,agg:=false,offs:=[],el:=none,z:=[.o .nilFunc] },
 some { n:=1,agg:=false,offs:=[],el:=none,z:=[.o .nilFunc] },
 some { n:=1,agg:=false,offs:=[],el:=none,z:=[.o .nilFunc] },
 some { n:=1,agg:=false,offs:=[],el:=none,z:=[.o .nilFunc] },
 some { n:=1,agg:=false,offs:=[],el:=none,z:=[.o .nilFunc] },
 some { n:=1,agg:=false,offs:=[],el:=none,z:=[.o .nilFunc] },
 some { n:=1,agg:=false,offs:=[],el:=none,z:=[.o .nilFunc] },
 some { n:=1,agg:=false,offs:=[],el:=none,z:=[.o .nilFunc] },
 none,
 none,
 some { n:=1,agg:=false,offs:=[],el:=none,z:=[.o .nilFunc] },
 some { n:=1,agg:=false,offs:=[],el:=none,z:=[.o .nilFunc] },
 some { n:=1,agg:=false,offs:=[],el:=none,z:=[.o .nilFunc] },
 some { n:=3,agg:=true,offs:=[0,1,2],el:=none,z:=[.s [], .s [], .i .i64 0] },
 some { n:=3,agg:=true,offs:=[0,1,2],el:=none,z:=[.s [], .s [], .i .i64 0] },
 some { n:=1,agg:=false,offs:=[],el:=none,z:=[.o .nilFunc] },
 some { n:=1,agg:=false,offs:=[],el:=none,z:=[.o (.pointer none)] },
 some { n:=1,agg:=false,offs:=[],el:=none,z:=[.o .nilFunc] },
 some { n:=1,agg:=false,offs:=[],el:=none,z:=[.o .nilFunc] },
 some { n:=1,agg:=false,offs:=[],el:=none,z:=[.o .nilFunc] },
 some { n:=1,agg:=false,offs:=[],el:=none,z:=[.o .nilFunc] },
 some { n:=1,agg:=false,offs:=[],el:=none,z:=[.o .nilFunc] },
 some { n:=1,agg:=false,offs:=[],el:=none,z:=[.o .nilFunc] },
 some { n:=1,agg:=false,offs:=[],el:=none,z:=[.o .nilFunc] },
 some { n:=1,agg:=false,offs:=[],el:=none,z:=[.o .nilFunc] },
 some { n:=1,agg:=false,offs:=[],el:=none,z:=[.o (.pointer none)] },
 some { n:=1,agg:=false,offs:=[],el:=none,z:=[.o .nilFunc] },
 some { n:=1,agg:=false,offs:=[],el:=none,z:=[.o .nilFunc] },
 some { n:=1,agg:=false,offs:=[],el:=none,z:=[.o .nilFunc] },
 some { n:=1,agg:=false,offs:=[],el:=none,z:=[.o .nilFunc] },
 some { n:=1,agg:=false,offs:=[],el:=none,z:=[.o .nilFunc] },
 some { n:=1,agg:=false,offs:=[],el:=none,z:=[.o .nilFunc] },
 some { n:=1,agg:=false,offs:=[],el:=none,z:=[.o .nilFunc] },
 some { n:=1,agg:=false,offs:=[],el:=none,z:=[.o .nilFunc] },
 some { n:=1,agg:=false,offs:=[],el:=none,z:=[.o .nilFunc] },
 some { n:=1,agg:=false,offs:=[],el:=none,z:=[.o .nilFunc] },
 some { n:=1,agg:=false,offs:=[],el:=none,z:=[.o .nilFunc] },
 some { n:=1,agg:=false,offs:=[],el:=none,z:=[.o .nilFunc] },
 some { n:=1,agg:=false,offs:=[],el:=none,z:=[.o .nilFunc] },
 some { n:=1,agg:=false,offs:=[],el:=none,z:=[.o .nilFunc] },
 some { n:=1,agg:=false,offs:=[],el:=none,z:=[.o .nilFunc] },
 some { n:=1,agg:=false,offs:=[],el:=none,z:=[.o .nilFunc] },
 some { n:=1,agg:=false,offs:=[],el:=none,z:=[.o .nilFunc] },
 some { n:=1,agg:=false,offs:=[],el:=some (111,4,40),z:=[.sl 4 []] },
 some { n:=1,agg:=false,offs:=[],el:=none,z:=[.o .nilFunc] },
 some { n:=4,agg:=true,offs:=[0,1,2,3],el:=none,z:=[.s [], .i .i64 0, .i .i64 0, .i .i64 0] },
 some { n:=4,agg:=true,offs:=[0,1,2,3],el:=none,z:=[.s [], .i .i64 0, .i .i64 0, .i .i64 0] },
 some { n:=1,agg:=false,offs:=[],el:=none,z:=[.o .nilFunc] },
 some { n:=1,agg:=false,offs:=[],el:=none,z:=[.o .nilFunc] },
 some { n:=1,agg:=false,offs:=[],el:=none,z:=[.o .nilFunc] },
 some { n:=1,agg:=false,offs:=[],el:=some (134,5,56),z:=[.sl 5 []] },
 none,
 some { n:=1,agg:=false,offs:=[],el:=none,z:=[.o .nilFunc] },
 some { n:=3,agg:=true,offs:=[0,1,2],el:=none,z:=[.sl 5 [], .i .i64 0, .b false] },
 some { n:=3,agg:=true,offs:=[0,1,2],el:=none,z:=[.sl 5 [], .i .i64 0, .b false] },
 none,
 some { n:=1,agg:=false,offs:=[],el:=none,z:=[.o .nilFunc] },
 none,
 some { n:=1,agg:=false,offs:=[],el:=none,z:=[.o .nilFunc] },
 some { n:=1,agg:=false,offs:=[],el:=none,z:=[.o .nilFunc] },
 some { n:=1,agg:=false,offs:=[],el:=none,z:=[.o .nilFunc] },
 none,
 some { n:=1,agg:=false,offs:=[],el:=none,z:=[.o .nilFunc] },
 some { n:=1,agg:=false,offs:=[],el:=none,z:=[.o .nilFunc] },
 some { n:=1,agg:=false,offs:=[],el:=none,z:=[.o .nilFunc] },
 some { n:=1,agg:=false,offs:=[],el:=none,z:=[.o .nilFunc] },
 some { n:=1,agg:=false,offs:=[],el:=none,z:=[.o .nilFunc] },
 some { n:=1,agg:=false,offs:=[],el:=none,z:=[.o .nilFunc] },
 some { n:=5,agg:=true,offs:=[0,1,2,3,4],el:=none,z:=[.i .i64 0, .s [], .i .i64 0, .s [], .i .i64 0] },
 some { n:=5,agg:=true,offs:=[0,1,2,3,4],el:=none,z:=[.i .i64 0, .s [], .i .i64 0, .s [], .i .i64 0] },
 some { n:=1,agg:=false,offs:=[],el:=none,z:=[.o .nilFunc] },
 some { n:=1,agg:=false,offs:=[],el:=none,z:=[.o .nilFunc] },
 some { n:=1,agg:=false,offs:=[],el:=none,z:=[.o .nilFunc] },
 some { n:=1,agg:=false,offs:=[],el:=none,z:=[.o .nilFunc] },
 some { n:=1,agg:=false,offs:=[],el:=none,z:=[.o .nilFunc] },
 some { n:=1,agg:=false,offs:=[],el:=none,z:=[.o .nilFunc] },
 none,
 some { n:=1,agg:=false,offs:=[],el:=none,z:=[.o .nilFunc] },
 none,
 some { n:=1,agg:=false,offs:=[],el:=none,z:=[.o .nilFunc] },
 some { n:=1,agg:=false,offs:=[],el:=none,z:=[.o .nilFunc] },
 some { n:=1,agg:=false,offs:=[],el:=none,z:=[.o .nilFunc] },
 some { n:=1,agg:=false,offs:=[],el:=none,z:=[.o .nilFunc] },
 some { n:=1,agg:=false,offs:=[],el:=none,z:=[.o .nilFunc] },
 none,
 some { n:=1,agg:=false,offs:=[],el:=none,z:=[.o .nilFunc] },
 none,
 some { n:=1,agg:=false,offs:=[],el:=none,z:=[.o .nilFunc] },
 some { n:=1,agg:=false,offs:=[],el:=none,z:=[.o .nilFunc] },
 none,
 some { n:=1,agg:=false,offs:=[],el:=none,z:=[.o .nilFunc] },
 none,
 some { n:=1,agg:=false,offs:=[],el:=none,z:=[.o .nilFunc] },
 some { n:=1,agg:=false,offs:=[],el:=none,z:=[.o .nilFunc] },
 some { n:=1,agg:=false,offs:=[],el:=none,z:=[.o (.pointer none)] },
 some { n:=1,agg:=false,offs:=[],el:=none,z:=[.o .nilFunc] },
 some { n:=1,agg:=false,offs:=[],el:=none,z:=[.o .nilFunc] },
 some { n:=1,agg:=false,offs:=[],el:=none,z:=[.i .u64 0] },
 some { n:=1,agg:=false,offs:=[],el:=some (5,1,1),z:=[.sl 1 []] },
 none,
 some { n:=1,agg:=false,offs:=[],el:=none,z:=[.o .nilFunc] },
 some { n:=1,agg:=false,offs:=[],el:=none,z:=[.o .nilFunc] },
 some { n:=1,agg:=false,offs:=[],el:=none,z:=[.o .nilFunc] },
 some { n:=1,agg:=false,offs:=[],el:=none,z:=[.i .u32 0] },
 none,
 some { n:=1,agg:=false,offs:=[],el:=none,z:=[.o .nilFunc] },
 some { n:=1,agg:=false,offs:=[],el:=none,z:=[.o .nilFunc] },
 some { n:=4,agg:=true,offs:=[0,1,2,3],el:=none,z:=[.o (.pointer none), .o (.pointer none), .o (.pointer none), .s []] },
 some { n:=4,agg:=true,offs:=[0,1,2,3],el:=none,z:=[.o (.pointer none), .o (.pointer none), .o (.pointer none), .s []] },
 none,
 none,
 none,
 some { n:=1,agg:=false,offs:=[],el:=none,z:=[.o .nilFunc] },
 some { n:=1,agg:=false,offs:=[],el:=none,z:=[.i .u8 0] },
 some { n:=1,agg:=false,offs:=[],el:=none,z:=[.i .u8 0] },
 some { n:=1,agg:=false,offs:=[],el:=none,z:=[.o .nilFunc] },
 some { n:=1,agg:=false,offs:=[],el:=none,z:=[.o (.pointer none)] },
 some { n:=1,agg:=false,offs:=[],el:=none,z:=[.i .i32 0] },
 some { n:=1,agg:=false,offs:=[],el:=none,z:=[.i .i32 0] },
 some { n:=11,agg:=true,offs:=[0,1,2,3,4,5,6,7,8,9,10],el:=none,z:=[.i .u64 0, .i .u64 0, .i .u32 0, .i .u8 0, .i .u8 0, .i .u8 0, .i .u8 0, .o .nilFunc, .o (.pointer none), .i .i32 0, .i .i32 0] },
 some { n:=11,agg:=true,offs:=[0,1,2,3,4,5,6,7,8,9,10],el:=none,z:=[.i .u64 0, .i .u64 0, .i .u32 0, .i .u8 0, .i .u8 0, .i .u8 0, .i .u8 0, .o .nilFunc, .o (.pointer none), .i .i32 0, .i .i32 0] },
 none]
theorem uAf : Ae Tryz.prog 0 tab=true:=by kernel_rfl
theorem uAg : Tryz.prog.follows .mixedOrders=true:=by kernel_rfl
noncomputable def sys : Pg:={ P:=Tryz.prog,T:=tab,ok:=uAf,mix:=uAg,gv:=[] }
theorem nn : (∀ a b : Bool,((a && b)=true)=(a=true∧b=true))∧(∀ a b : Bool,((a || b)=true)=(a=true∨b=true))∧(∀ b : Bool,((!b)=true)=(b=false))∧(∀ b : Bool,((!b)=false)=(b=true)) ∧
  (∀ x y : Bool,(x || y)=false ↔ x=false∧y=false)∧(∀ x y : Bool,(x && y)=false ↔ x=false∨y=false)∧(∀ (p : Prop) [Decidable p],(decide p=true)=p)∧(∀ (p : Prop) (x : Decidable p),decide p=false ↔ ¬p) ∧
  (∀ (α : Type) [BEq α] [LawfulBEq α] (a b : α),(a == b)=true ↔ a=b)∧(∀ (α : Type) [BEq α] [LawfulBEq α] (a b : α),(a == b)=false ↔ a≠b)∧(∀ (α : Type) [BEq α] [LawfulBEq α] (a b : α),(a != b)=true ↔ a≠b) ∧
  (∀ (α : Type) [BEq α] [LawfulBEq α] (a b : α),(a != b)=false ↔ a=b)∧(∀ (α : Type) (a b : α),(a≠b) = ¬a=b)∧(∀ (p : Prop) [Decidable p],¬¬p ↔ p)∧((!true)=false)∧(!false)=true :=
 ⟨Bool.and_eq_true,Bool.or_eq_true,Bool.not_eq_true',Bool.not_eq_false',fun _ _=>Bool.or_eq_false_iff,fun _ _=>Bool.and_eq_false_iff,fun _ _=>decide_eq_true_eq,fun _ _=>decide_eq_false_iff_not,fun _ _ _ _ _=>beq_iff_eq,fun _ _ _ _ _=>beq_eq_false_iff_ne,
  fun _ _ _ _ _=>bne_iff_ne,fun _ _ _ _ _=>bne_eq_false_iff_eq,fun _ a b=>ne_eq a b,fun _ _=>Decidable.not_not,rfl,rfl⟩
abbrev xi (n : Int) : X:=.v (.c (.i .i64 n))
abbrev xb (b : Bool) : X:=.v (.c (.b b))
abbrev xs (l : List UInt8) : X:=.v (.c (.s l))
theorem H2 {a b : Int} (h : a=b) : xi a=xi b:=by rw[h]
theorem tx {x y : X} (h : x=y) : (true,x)=(true,y):=by rw[h]
theorem M0 {a b : Bool} (h : a=b) : xb a=xb b:=by rw[h]
abbrev xu (n : Int) : X:=.v (.c (.i .u8 n))
def I1 (n : Int) : Bool:=(decide (97≤n) && decide (n≤122)) || (decide (65≤n) && decide (n≤90))
def K4 (n : Int) : Bool:=decide (48≤n) && decide (n≤57)
def M6 (n : Int) : Bool:=((I1 n || K4 n) || n == 95) || n == 35
def R2 (l : List UInt8) : Bool:=decide (l.length≠0) && decide (l.length≤24) && I1 ((l.getD 0 0).toNat : Int) && l.all fun b=>M6 (b.toNat : Int)
theorem H9 {l : List UInt8} {k : Nat} (h : k < l.length) : l.drop k=l.getD k 0 :: l.drop (k + 1):=by
 rw[List.drop_eq_getElem_cons h,List.getD_eq_getElem?_getD,List.getElem?_eq_getElem h]; rfl
theorem uA5 {l : List UInt8} {p : UInt8→Bool} (h : ∀ j,j < l.length→p (l.getD j 0)=true) : l.all p=true:=by
 rw[List.all_eq_true]
 intro x hx
 obtain ⟨j,hj⟩:=List.getElem?_of_mem hx
 have hlt:=(List.getElem?_eq_some_iff.1 hj).1
 have := h j hlt
 rwa [List.getD_eq_getElem?_getD,hj] at this
theorem Om {l : List UInt8} {p : UInt8→Bool} {j : Nat} (hj : j < l.length) (h : p (l.getD j 0)=false) : l.all p=false:=by
 rw[List.all_eq_false]
 refine ⟨l.getD j 0,?_,by rw[h]; simp⟩
 rw[List.getD_eq_getElem?_getD,List.getElem?_eq_getElem hj]
 exact List.getElem_mem hj
theorem Gc (n : Int) : Ctr sys 142 [xu n] [] (xb (I1 n)) none []:=by
 refine D1 Tryz.func142 J J J J J J ?_;refine A8 (A6 ?_);refine A5 J J J (A9 J gU) ?_;refine B0 ?_;refine A8 (A6 ?_);refine A5 J J J (A7 J gU) ?_;refine A5 J J J (B7 J J gU gU J) ?_;refine A5 J J J (A7 J gU) ?_;refine A5 J J J (A7 J gU) ?_;refine A5 J J J (B7 J J (fun hh=>hh) gU J) ?_;refine A5 J J J (E0 J J gU (fun _ hi=>gP J hi)) ?_;refine A5 J J J (A7 J gU) ?_;refine A5 J J J (A7 J gU) ?_;refine A5 J J J (B7 J J (fun hh=>hh) gU J) ?_;refine A5 J J J (A7 J (fun hh=>hh)) ?_;refine A5 J J J (A7 J gU) ?_;refine A5 J J J (B7 J J (fun hh=>hh) gU J) ?_;refine A5 J J J (E0 J J (fun hh=>hh) (fun hh hi=>gP hh hi)) ?_;refine A5 J J J (E5 J J gU (fun _ hi=>gP J hi)) ?_;refine A5 J J J (A9 J gU) ?_;refine B0 ?_;refine C1 ?_
 repeat(first|refine tR ?_|refine bR ?_)
 refine C5 J ?_ O
 rfl
theorem Ry (n : Int) : Ctr sys 143 [xu n] [] (xb (K4 n)) none []:=by
 refine D1 Tryz.func143 J J J J J J ?_;refine A8 (A6 ?_);refine A5 J J J (A9 J gU) ?_;refine B0 ?_;refine A8 (A6 ?_);refine A5 J J J (A7 J gU) ?_;refine A5 J J J (B7 J J gU gU J) ?_;refine A5 J J J (A7 J gU) ?_;refine A5 J J J (A7 J gU) ?_;refine A5 J J J (B7 J J (fun hh=>hh) gU J) ?_;refine A5 J J J (E0 J J gU (fun _ hi=>gP J hi)) ?_;refine A5 J J J (A9 J gU) ?_;refine B0 ?_;refine C1 ?_
 repeat(first|refine tR ?_|refine bR ?_)
 refine C5 J ?_ O
 rfl
theorem Fq (l : List UInt8) : Ctr sys 116 [xs l] [] (xb (R2 l)) none []:=by
 refine D1 Tryz.func116 J J J J J J ?_;refine A8 (A6 ?_);refine A5 J J J (A9 J gU) ?_;refine B0 ?_;refine A8 ?_;refine A8 (A6 ?_);refine A5 J J J (A7 J gU) ?_;refine L4 J J J J J gU (Tryz.underlying9) ?_ (fun hh=>by simp at hh); intro hlen;refine A5 J J J (B7 J J gU gU J) ?_;refine A5 J J J (A7 J gU) ?_;refine A5 J J J (A7 J gU) ?_;refine A5 J J J (O4 J (fun hh=>hh) (Tryz.underlying9)) ?_;refine A5 J J J (B7 J J (fun hh=>hh) gU J) ?_;refine A5 J J J (E5 J J gU (fun _ hi=>gP J hi)) ?_;refine A5 J J J (A7 J gU) ?_;refine A5 J J J (A7 J gU) ?_;refine A5 J J J (E6 (j:=0) J J (fun hh=>hh) gU Tryz.underlying9 (by first|omega|(simp at hh; exact List.length_pos_iff.2 hh.1)) (fun hh=>by first|omega|(simp at hh; exact List.length_pos_iff.2 hh.1))) ?_;refine H3 (s:=⟨[(0,_,_),(12,_,_),(14,_,_)],[],[],[]⟩) (B4 (⟨U J,U J,U J,O⟩) O O) ?_;refine C8 J J J J J J gU (fun hh=>gA ((fun hh=>hh) hh) (rfl)) (Gc _) J ?_;refine A5 J J J (F8 J (fun hh=>hh)) ?_;refine A5 J J J (E5 J J gU (fun _ hi=>gP J hi)) ?_;refine B0 ?_;refine B9 J (fun hc=>?_) (fun hc=>?_)
 ·refine A8 (A6 ?_)
  refine A5 J J J (A9 J gU) ?_;refine B0 ?_;refine C1 ?_
  repeat(first|refine tR ?_|refine bR ?_)
  refine C5 J ?_ O;exact M0 (by simp [R2]; grind)
 ·refine C0 ?_
  refine A8 ?_;refine A8 (A6 ?_);refine A5 J J J (A9 J gU) ?_;refine B0 ?_;refine C4 ?_;refine F3 (ι:=Nat) { t:=[(0,_,_)],bx:=[],ow:=[] } (fun k=>[(3,true,xi (k : Int))]) (fun k=>[]) (fun k=>k≤l.length∧(l.drop k).all (fun b=>M6 (b.toNat : Int))=l.all (fun b=>M6 (b.toNat : Int))) (fun k=>l.length - k) (0) (by simp) (B4 (⟨U J,U J,O⟩) O O) ?_
  intro k hok
  dsimp only [List.cons_append,List.nil_append]
  obtain ⟨hk,hi⟩:=hok
  refine A8 ?_;refine A8 (A6 ?_);refine A5 J J J (A7 J gU) ?_;refine A5 J J J (A7 J gU) ?_;refine L4 J J J J J gU (Tryz.underlying9) ?_ (fun hh=>by simp at hh); intro hlen;refine A5 J J J (B7 J J gU gU J) ?_;refine B0 ?_;refine B9 J (fun hc2=>?_) (fun hc2=>?_)
  ·have hlt : k < l.length:=by simpa using hc2
   rw[H9 hlt,List.all_cons] at hi
   refine C0 ?_;refine A8 ?_;refine C4 ?_;refine A8 (A6 ?_);refine A5 J J J (A7 J gU) ?_;refine A5 J J J (A7 J gU) ?_;refine A5 J J J (E6 J J gU gU Tryz.underlying9 J (fun hh=>by first|omega|(simp at hh; exact List.length_pos_iff.2 hh.1))) ?_;refine C8 J J J J J J gU gU (Gc _) J ?_;refine A5 J J J (F8 J gU) ?_;refine A5 J J J (A7 J gU) ?_;refine A5 J J J (A7 J gU) ?_;refine A5 J J J (A7 J gU) ?_;refine H3 (s:=⟨[(0,_,_),(3,_,_),(29,_,_),(30,_,_),(31,_,_)],[],[],[]⟩) (B4 (⟨U J,U J,U J,U J,U J,O⟩) O O) ?_;refine A5 J J J (E6 J J (fun hh=>hh) (fun hh=>hh) Tryz.underlying9 J (fun hh=>by first|omega|(simp at hh; exact List.length_pos_iff.2 hh.1))) ?_;refine C8 J J J J J J gU (fun hh=>gA ((fun hh=>hh) hh) (rfl)) (Ry _) J ?_;refine A5 J J J (F8 J (fun hh=>hh)) ?_;refine A5 J J J (E0 J J gU (fun _ hi=>gP J hi)) ?_;refine A5 J J J (A7 J gU) ?_;refine A5 J J J (A7 J gU) ?_;refine A5 J J J (A7 J gU) ?_;refine A5 J J J (E6 J J (fun hh=>hh) (fun hh=>hh) Tryz.underlying9 J (fun hh=>by first|omega|(simp at hh; exact List.length_pos_iff.2 hh.1))) ?_
   refine A5 J J J (B7 J J (fun hh=>hh) gU J) ?_;refine A5 J J J (E0 J J gU (fun _ hi=>gP J hi)) ?_;refine A5 J J J (A7 J gU) ?_;refine A5 J J J (A7 J gU) ?_;refine H3 (s:=⟨[(0,_,_),(3,_,_),(42,_,_),(43,_,_)],[],[],[]⟩) (B4 (⟨U J,U J,U J,U J,O⟩) O O) ?_;refine A5 J J J (A7 J gU) ?_;refine A5 J J J (E6 J J (fun hh=>hh) (fun hh=>hh) Tryz.underlying9 J (fun hh=>by first|omega|(simp at hh; exact List.length_pos_iff.2 hh.1))) ?_;refine A5 J J J (B7 J J (fun hh=>hh) gU J) ?_;refine A5 J J J (E0 J J gU (fun _ hi=>gP J hi)) ?_;refine B0 ?_;refine B9 J (fun hc1=>?_) (fun hc1=>?_)
   ·try simp only [nn] at hc1
    refine A8 (A6 ?_);refine A5 J J J (A9 J gU) ?_;refine B0 ?_;refine C1 ?_
    repeat(first|refine tR ?_|refine bR ?_)
    refine C5 J ?_ O;exact M0 (by simp [R2]; grind [M6])
   ·try simp only [nn] at hc1
    refine C0 ?_;refine A6 ?_;refine A5 J J J (A7 J gU) ?_;refine A5 J J J (D0 J J gU gU J (IntWalk.i64_in _ (by omega))) ?_;refine A5 J J J (A9 J gU) ?_;refine B0 ?_;refine ⟨k + 1,?_,?_,B4 (⟨⟨_,rfl,?_⟩,⟨U J,O⟩⟩) O O⟩
    all_goals (grind [M6])
  ·refine E2 ?_
   repeat(first|refine D5 ?_|refine D6 ?_|refine D2 J ?_)
   refine A8 (A6 ?_);refine A5 J J J (A9 J gU) ?_;refine B0 ?_;refine C1 ?_
   repeat(first|refine tR ?_|refine bR ?_)
   refine C5 J ?_ O
   have : l.drop k=[]:=by simp at hc2 ⊢; omega
   rw[this] at hi
   exact M0 (by simp [R2]; grind)
def strR (l : List (List UInt8)) : List (List C):=l.map fun s=>[.s s]
theorem B3 (l : List (List UInt8)) : (strR l).length=l.length:=by simp [strR]
theorem L1 {l : List (List UInt8)} {k : Nat} (h : k < l.length) : (strR l)[k]? = some [.s (l.getD k [])]:=by
 rw[strR,List.getElem?_map,List.getD_eq_getElem?_getD,List.getElem?_eq_getElem h]; rfl
theorem Bi (a b : List (List UInt8)) : strR (a++b)=strR a++strR b:=by simp [strR]
abbrev xss (l : List (List UInt8)) : X:=.v (.c (.sl 1 (strR l)))
def intR (l : List Int) : List (List C):=l.map fun n=>[.i .i64 n]
theorem D3 (l : List Int) : (intR l).length=l.length:=by simp [intR]
theorem Me {l : List Int} {k : Nat} (h : k < l.length) : (intR l)[k]? = some [.i .i64 (l.getD k 0)]:=by
 rw[intR,List.getElem?_map,List.getD_eq_getElem?_getD,List.getElem?_eq_getElem h]; rfl
abbrev xis (l : List Int) : X:=.v (.c (.sl 1 (intR l)))
abbrev xbs (l : List UInt8) : X:=.v (.c (.sl 1 (Ah l)))
theorem Y8 (l : List (List UInt8)) (s : List UInt8) : X.v (.c (.sl 1 (strR l++[[.s s]])))=xss (l++[s]):=by simp [xss,strR]
theorem Z5 (l : List Int) (n : Int) : X.v (.c (.sl 1 (intR l++[[.i .i64 n]])))=xis (l++[n]):=by simp [xis,intR]
theorem Qj (l : List UInt8) (b : UInt8) (n : Int) (h : (b.toNat : Int)=n) : X.v (.c (.sl 1 (Ah l++[[.i .u8 n]])))=xbs (l++[b]):=by simp [xbs,Ah,h]
theorem Fb {α : Type} (l : List α) (d : α) {j k : Nat} (h : j < k) : (l.take k).getD j d=l.getD j d:=by
 simp only [List.getD_eq_getElem?_getD]; rw[List.getElem?_take,if_pos h]
theorem Lc {α : Type} (l : List α) (d : α) (j k : Nat) : (l.drop k).getD j d=l.getD (k + j) d:=by
 simp only [List.getD_eq_getElem?_getD]; rw[List.getElem?_drop]
theorem I0 {α : Type} {l : List α} {d : α} {k : Nat} (h : k < l.length) : l.take (k + 1)=l.take k++[l.getD k d]:=by
 rw[List.take_add_one,List.getD_eq_getElem?_getD,List.getElem?_eq_getElem h]; rfl
theorem Lr {α : Type} {l : List α} {d : α} {k : Nat} (h : k < l.length) : l.drop k=l.getD k d :: l.drop (k + 1):=by
 rw[List.drop_eq_getElem_cons h,List.getD_eq_getElem?_getD,List.getElem?_eq_getElem h]; rfl
def hexB (b : UInt8) : Bool:=(decide (48≤(b.toNat : Int)) && decide ((b.toNat : Int)≤57)) || (decide (97≤(b.toNat : Int)) && decide ((b.toNat : Int)≤102))
def hexV (b : UInt8) : Int:=if (b.toNat : Int)≤57 then b.toNat - 48 else b.toNat - 87
structure Tk where
 kind : Int
 text : List UInt8
 int : Int
 str : List UInt8
 line : Int
 deriving Inhabited,DecidableEq
def Tk.onl (t : Tk) (k : Int) : Tk:=⟨t.kind,t.text,t.int,t.str,k⟩
def tk0 : Tk:=⟨0,[],0,[],0⟩
def Tk.cells (t : Tk) : List C:=[.i .i64 t.kind, .s t.text, .i .i64 t.int, .s t.str, .i .i64 t.line]
def Tk.rows (l : List Tk) : List (List C):=l.map Tk.cells
theorem Tk.rows_len (l : List Tk) : (Tk.rows l).length=l.length:=by simp [Tk.rows]
theorem Tk.rows_at {l : List Tk} {k : Nat} (h : k < l.length) : (Tk.rows l)[k]? = some (l.getD k tk0).cells:=by
 rw[Tk.rows,List.getElem?_map,List.getD_eq_getElem?_getD,List.getElem?_eq_getElem h]; rfl
theorem Tk.rows_app (a b : List Tk) : Tk.rows (a++b)=Tk.rows a++Tk.rows b:=by simp [Tk.rows]
abbrev xts (l : List Tk) : X:=.v (.c (.sl 5 (Tk.rows l)))
theorem uAp (l : List Tk) (t : Tk) : X.v (.c (.sl 5 (Tk.rows l++[t.cells])))=xts (l++[t]):=by simp [xts,Tk.rows]
abbrev xnx (r : Tk × Nat × Int) : X:=.tup [.agg r.1.cells, .c (.i .i64 (r.2.1 : Int)), .c (.i .i64 r.2.2)]
abbrev uBy (r : List Tk × Nat × Int) : X:=.tup [.c (.sl 5 (Tk.rows r.1)), .c (.i .i64 (r.2.1 : Int)), .c (.i .i64 r.2.2)]
abbrev xsn (r : List UInt8 × Nat) : X:=.tup [.c (.s r.1), .c (.i .i64 (r.2 : Int))]
def P2 (c : UInt8) : Bool:=decide (c.toNat=32) || decide (c.toNat=9) || decide (c.toNat=10) || decide (c.toNat=13)
def syms : List UInt8:=[40,41,123,125,91,93,44,59,58,61,46,45,62,60,63,124,38,42]
def symB (c : UInt8) : Bool:=syms.contains c
def clsE (c : UInt8) : Int:=if P2 c=true then 1 else if I1 c.toNat=true then 2 else if K4 c.toNat=true then 3 else if c.toNat=34 then 5 else if symB c=true then 4 else 0
def escE : List UInt8→UInt8 × Nat
 | []=>(0,0)
 | c :: l=>if c.toNat=110 then (10,1) else if c.toNat=116 then (9,1) else if c.toNat=34∨c.toNat=92 then (c,1)
  else if c.toNat=120∧2≤l.length∧hexB (l.getD 0 0)=true∧hexB (l.getD 1 0)=true then (UInt8.ofNat (16 * hexV (l.getD 0 0) + hexV (l.getD 1 0)).toNat,3) else (0,0)
def litA : Nat→List UInt8→Nat→List UInt8→List UInt8 × Nat
 | 0,_,_,_=>([],0)
 | _ + 1,[],_,_=>([],0)
 | n + 1,c :: l,i,out=>if c.toNat=34 then (out,i + 1)
  else if c.toNat=92 then (if (escE l).2=0 then ([],0) else litA n (l.drop (escE l).2) (i + 1 + (escE l).2) (out++[(escE l).1]))
  else if c.toNat < 32∨126 < c.toNat then ([],0) else litA n l (i + 1) (out++[c])
def litE (s : List UInt8) : List UInt8 × Nat:=litA (s.length + 1) (s.drop 1) 1 []
def nmP : List UInt8→Nat
 | []=>0
 | b :: l=>if M6 (b.toNat : Int)=true ∧ ¬(b.toNat=35∧(l.getD 0 0).toNat=35) then nmP l + 1 else 0
def nlE (s : List UInt8) : Nat:=1 + nmP (s.drop 1)
def wdN : List UInt8→Nat
 | []=>0
 | b :: l=>if M6 (b.toNat : Int)=true then wdN l + 1 else 0
def numA : List UInt8→Nat→Int→Bool × Nat × Int
 | [],n,v=>(true,n,v)
 | b :: l,n,v=>if K4 (b.toNat : Int)=true then (if (9223372036854775807 - ((b.toNat : Int) - 48)) / 10 < v then (false,0,0) else numA l (n + 1) (10 * v + ((b.toNat : Int) - 48))) else (true,n,v)
def O9 (s : List UInt8) : Tk × Nat × Int :=
 if I1 (s.getD 0 0).toNat=true then (if 24 < nlE s then (tk0,0,3) else (⟨1,s.take (nlE s),0,[],0⟩,nlE s,0))
 else if K4 (s.getD 0 0).toNat=true then (if (numA s 0 0).1=true then (⟨2,[],(numA s 0 0).2.2,[],0⟩,(numA s 0 0).2.1,0) else (tk0,0,7))
 else if (s.getD 0 0).toNat=34 then (if (litE s).2=0 then (tk0,0,2) else (⟨3,[],0,(litE s).1,0⟩,(litE s).2,0))
 else if symB (s.getD 0 0)=true then (⟨4,s.take 1,0,[],0⟩,1,0) else (tk0,0,2)
def K6 (s : List UInt8) (k : Int) : Tk × Nat × Int :=
 if I1 (s.getD 0 0).toNat=true then (if 24 < wdN s then (tk0,0,3) else (⟨1,s.take (wdN s),0,[],k⟩,wdN s,0))
 else if K4 (s.getD 0 0).toNat=true then (if (numA s 0 0).1=true then (⟨2,[],(numA s 0 0).2.2,[],k⟩,(numA s 0 0).2.1,0) else (tk0,0,7))
 else if (s.getD 0 0).toNat=34 then (if (litE s).2=0 then (tk0,0,2) else (⟨3,[],0,(litE s).1,k⟩,(litE s).2,0))
 else if symB (s.getD 0 0)=true then (⟨4,s.take 1,0,[],k⟩,1,0) else (tk0,0,2)
def O0 : Bool→List UInt8→Nat
 | _,[]=>0
 | _,[_]=>1
 | ins,c :: d :: l=>if ins=true∧c.toNat=92 then O0 true l + 2
  else if (if c.toNat=34 then !ins else ins)=false∧c.toNat=35∧d.toNat=35 then 0 else O0 (if c.toNat=34 then !ins else ins) (d :: l) + 1
def H5 (s : List UInt8) : List UInt8:=s.take (O0 false s)
def wsp : List UInt8:=[32,9,13]
def M8 (s : List UInt8) : List UInt8:=s.dropWhile (wsp.contains ·)
def J8 : Nat→List UInt8→Int→List Tk→List Tk × Int
 | 0,_,_,out=>(out,0)
 | n + 1,l,k,out=>if M8 l=[]∨[35,35].isPrefixOf (M8 l)=true then (out,0)
  else if (O9 (M8 l)).2.2≠0 then ([],(O9 (M8 l)).2.2)
  else J8 n ((M8 l).drop (O9 (M8 l)).2.1) k (out++[(O9 (M8 l)).1.onl k])
def R3 : Nat→List UInt8→Int→List Tk→List Tk × Int
 | 0,_,_,out=>(out,0)
 | _ + 1,[],_,out=>(out,0)
 | n + 1,c :: l,k,out=>if P2 c=true then R3 n l k out else if (K6 (c :: l) k).2.2≠0 then ([],(K6 (c :: l) k).2.2)
  else R3 n ((c :: l).drop (K6 (c :: l) k).2.1) k (out++[(K6 (c :: l) k).1])
def spl : List UInt8→List (List UInt8)
 | []=>[[]]
 | b :: l=>if b.toNat=10 then [] :: spl l else match spl l with
  | []=>[[b]]
  | x :: r=>(b :: x) :: r
def U9 : List (List UInt8)→Nat→List Tk→List Tk × Nat × Int
 | [],_,out=>(out,0,0)
 | l :: ls,k,out=>if (J8 (l.length + 1) l (k : Nat) out).2≠0 then ([],k,(J8 (l.length + 1) l (k : Nat) out).2) else U9 ls (k + 1) (J8 (l.length + 1) l (k : Nat) out).1
def Dq : List (List UInt8)→Nat→List Tk→List Tk × Nat × Int
 | [],_,out=>(out,0,0)
 | l :: ls,k,out=>if (R3 ((H5 l).length + 1) (H5 l) (k : Nat) out).2≠0 then ([],k,(R3 ((H5 l).length + 1) (H5 l) (k : Nat) out).2) else Dq ls (k + 1) (R3 ((H5 l).length + 1) (H5 l) (k : Nat) out).1
def tokP (s : List UInt8) : List Tk × Nat × Int:=if 65536 < s.length then ([],0,3) else U9 (spl s) 1 []
def lnsA : List UInt8→List UInt8→List (List UInt8)→List (List UInt8)
 | [],line,out=>if line=[] then out else out++[line]
 | b :: l,line,out=>if b.toNat=10 then lnsA l [] (out++[line]) else lnsA l (line++[b]) out
def lnsR (s : List UInt8) : List (List UInt8):=lnsA s [] []
def tokR (s : List UInt8) : List Tk × Nat × Int:=if 65536 < s.length then ([],0,3) else Dq (lnsR s) 1 []
def hexs : List UInt8:=[48,49,50,51,52,53,54,55,56,57,97,98,99,100,101,102]
theorem Ma (l : List UInt8) : (escE l).2≤l.length:=by
 cases l with
 | nil=>simp [escE]
 | cons c l =>
  rw[escE]
  split
  ·simp
  split
  ·simp
  split
  ·simp
  split
  ·rename_i h; simp only [List.length_cons]; omega
  ·simp
theorem Gm : ∀ (n : Nat) (l : List UInt8) (i : Nat) (out : List UInt8),(litA n l i out).2≤i + l.length∧((litA n l i out).2≠0→i < (litA n l i out).2)∧(litA n l i out).1.length≤out.length + l.length
 | 0,l,i,out=>by simp [litA]
 | n + 1,[],i,out=>by simp [litA]
 | n + 1,c :: l,i,out=>by
  have he:=Ma l
  unfold litA
  split
  ·simp <;> omega
  split
  ·split
   ·simp
   ·have := Gm n (l.drop (escE l).2) (i + 1 + (escE l).2) (out++[(escE l).1])
    simp only [List.length_drop,List.length_append,List.length_cons,List.length_nil] at this ⊢
    omega
  split
  ·simp
  ·have := Gm n l (i + 1) (out++[c])
   simp only [List.length_append,List.length_cons,List.length_nil] at this ⊢
   omega
theorem Vc (s : List UInt8) (h : 0 < s.length) : (litE s).2≤s.length∧(litE s).1.length≤s.length:=by
 have := Gm (s.length + 1) (s.drop 1) 1 []
 simp only [List.length_drop,List.length_nil] at this
 unfold litE
 omega
theorem uAD : ∀ (l : List UInt8),nmP l≤l.length
 | []=>by simp [nmP]
 | b :: l=>by
  have := uAD l
  unfold nmP
  split <;> simp <;> omega
theorem Yd {s : List UInt8} (h : 0 < s.length) : 1≤nlE s∧nlE s≤s.length:=by
 have := uAD (s.drop 1)
 simp only [List.length_drop] at this
 unfold nlE; omega
theorem Sv : ∀ (l : List UInt8),wdN l≤l.length
 | []=>by simp [wdN]
 | b :: l=>by
  have := Sv l
  unfold wdN
  split <;> simp <;> omega
theorem Ha : ∀ (l : List UInt8) (n : Nat) (v : Int),0≤v→(numA l n v).2.1≤n + l.length∧((numA l n v).1=true→n≤(numA l n v).2.1)∧0≤(numA l n v).2.2∧(v≤9223372036854775807→(numA l n v).2.2≤9223372036854775807)
 | [],n,v,h=>by simp [numA,h]
 | b :: l,n,v,h=>by
  unfold numA
  split
  ·rename_i hd
   simp [K4] at hd
   split
   ·simp
   ·obtain ⟨q1,q2,q3,q4⟩:=Ha l (n + 1) (10 * v + ((b.toNat : Int) - 48)) (by omega)
    simp only [List.length_cons]
    exact ⟨by omega,fun q=>by have := q2 q; omega,q3,fun q=>q4 (by omega)⟩
  ·simp [h]
theorem Ix {s : List UInt8} (h : 0 < s.length) : (O9 s).2.1≤s.length∧((O9 s).2.2=0→1≤(O9 s).2.1):=by
 have h1:=Yd h
 have h2:=Ha s 0 0 (by omega)
 have h3:=Vc s h
 have h4:=Gm (s.length + 1) (s.drop 1) 1 []
 unfold O9
 split
 ·split
  ·simp
  ·simp; omega
 split
 ·rename_i hd
  split
  ·rename_i hn
   refine ⟨by dsimp only; omega,fun _=>?_⟩
   dsimp only
   match s,h with
   | b :: l,_ =>
    rw[List.getD_cons_zero] at hd
    rw[numA,if_pos hd] at hn ⊢
    split at hn
    ·simp at hn
    ·rename_i hq
     rw[if_neg hq]
     have hd2 : (48 : Int)≤(b.toNat : Int):=by simp [K4] at hd; omega
     have := (Ha l (0 + 1) (10 * 0 + ((b.toNat : Int) - 48)) (by omega)).2.1 hn
     omega
  ·simp
 split
 ·split
  ·simp
  ·simp; omega
 split
 ·simp; omega
 ·simp
theorem Wu {s : List UInt8} {k : Int} (h : 0 < s.length) : (K6 s k).2.1≤s.length∧((K6 s k).2.2=0→1≤(K6 s k).2.1):=by
 have h0:=Ix h
 have h1:=Sv s
 have hw : I1 (s.getD 0 0).toNat=true→1≤wdN s:=by
  intro hl
  match s,h with
  | b :: l,_ =>
   rw[List.getD_cons_zero] at hl
   rw[wdN,if_pos (by simp [M6,hl])]; omega
 unfold K6
 unfold O9 at h0
 split
 ·rename_i hl
  have := hw hl
  split
  ·simp
  ·simp; omega
 ·rename_i hl
  rw[if_neg hl] at h0
  split
  ·rename_i hd
   rw[if_pos hd] at h0
   split
   ·rename_i hn; rw[if_pos hn] at h0; exact h0
   ·simp
  ·rename_i hd
   rw[if_neg hd] at h0
   split
   ·rename_i hq
    rw[if_pos hq] at h0
    split
    ·simp
    ·rename_i hz; rw[if_neg hz] at h0; exact h0
   ·rename_i hq
    rw[if_neg hq] at h0
    split
    ·rename_i hz; rw[if_pos hz] at h0; exact h0
    ·simp
theorem Xi (s : List UInt8) : (M8 s).length≤s.length:=by
 unfold M8
 exact (List.dropWhile_sublist _).length_le
theorem Mq (s : List UInt8) : spl s≠[]:=by
 cases s with
 | nil=>simp [spl]
 | cons b l =>
  unfold spl
  split
  ·simp
  ·split <;> simp
theorem If : ∀ (s line : List UInt8) (out : List (List UInt8)),(lnsA s line out).length≤out.length + s.length + 1
 | [],line,out=>by unfold lnsA; split <;> simp
 | b :: l,line,out=>by
  unfold lnsA
  split
  ·have := If l [] (out++[line]); simp at this ⊢; omega
  ·have := If l (line++[b]) out; simp at this ⊢; omega
theorem Ip : ∀ (s line : List UInt8) (out : List (List UInt8)) (N : Nat),line.length + s.length≤N→(∀ x ∈ out,x.length≤N) → ∀ x ∈ lnsA s line out,x.length≤N
 | [],line,out,N,h,ho,x,hx=>by
  unfold lnsA at hx
  split at hx
  ·exact ho x hx
  ·rcases List.mem_append.1 hx with q | q
   ·exact ho x q
   ·simp at q; subst q; simp at h; omega
 | b :: l,line,out,N,h,ho,x,hx=>by
  simp only [List.length_cons] at h
  unfold lnsA at hx
  split at hx
  ·refine Ip l [] (out++[line]) N (by simp; omega) (fun y hy=>?_) x hx
   rcases List.mem_append.1 hy with q | q
   ·exact ho y q
   ·simp at q; subst q; omega
  ·exact Ip l (line++[b]) out N (by simp; omega) ho x hx
theorem uAe (s : List UInt8) (k : Nat) : ((lnsR s).getD k []).length≤s.length:=by
 rw[List.getD_eq_getElem?_getD]
 cases h : (lnsR s)[k]? with
 | none=>simp
 | some x=>exact Ip s [] [] s.length (by simp) (by simp) x (List.mem_of_getElem? h)
theorem Zj (s : List UInt8) : (lnsR s).length≤s.length + 1:=by
 have := If s [] []; simp at this; exact this
inductive T where
 | mk (kind : Int) (name : List UInt8) (sort : Int) (kids : List T)
 deriving Inhabited
namespace T
def kind : T→Int | mk k _ _ _=>k
def name : T→List UInt8 | mk _ n _ _=>n
def sort : T→Int | mk _ _ s _=>s
def kids : T→List T | mk _ _ _ ks=>ks
mutual
def cells' : T→List C
 | mk k n s ks=>[.i .i64 k, .s n, .i .i64 s, .sl 4 (rows ks)]
def rows : List T→List (List C)
 | []=>[]
 | t :: ts=>cells' t :: rows ts
end
def cells (t : T) : List C:=[.i .i64 t.kind, .s t.name, .i .i64 t.sort, .sl 4 (rows t.kids)]
theorem Zd (t : T) : cells' t=t.cells:=by cases t; rw[cells']; rfl
theorem rows_eq : ∀ ts : List T,rows ts=ts.map cells
 | []=>by rw[rows]; rfl
 | t :: ts=>by rw[rows,rows_eq ts,Zd]; rfl
theorem rows_get {ts : List T} {k : Nat} {t : T} (h : ts[k]? = some t) : (rows ts)[k]? = some t.cells:=by
 rw[rows_eq,List.getElem?_map,h]; rfl
theorem rows_len (ts : List T) : (rows ts).length=ts.length:=by rw[rows_eq]; simp
mutual
def size : T→Nat
 | mk _ _ _ ks=>1 + sizes ks
def sizes : List T→Nat
 | []=>0
 | t :: ts=>size t + sizes ts
end
theorem size_pos (t : T) : 1≤t.size:=by cases t; rw[size]; omega
theorem size_eq (t : T) : t.size=1 + sizes t.kids:=by cases t; rw[size]; rfl
theorem sizes_take : ∀ (ts : List T) (k : Nat) (t : T),ts[k]? = some t→sizes (ts.take (k + 1))=sizes (ts.take k) + t.size
 | [],k,t,h=>by simp at h
 | x :: xs,0,t,h=>by simp at h; subst h; simp [sizes]
 | x :: xs,k + 1,t,h=>by
  have := sizes_take xs k t (by simpa using h)
  simp only [List.take_succ_cons,sizes]
  omega
theorem sizes_take_le : ∀ (ts : List T) (k : Nat),sizes (ts.take k)≤sizes ts
 | [],k=>by simp
 | x :: xs,0=>by simp [sizes]
 | x :: xs,k + 1=>by
  have := sizes_take_le xs k
  simp only [List.take_succ_cons,sizes]
  omega
theorem size_kid {t x : T} {k : Nat} (h : t.kids[k]? = some x) : x.size < t.size:=by
 have h1:=sizes_take _ _ _ h
 have h2:=sizes_take_le t.kids (k + 1)
 have h3:=t.size_eq
 omega
end T
end Go.Proofs.YteidahabkfgfjaaGreat
