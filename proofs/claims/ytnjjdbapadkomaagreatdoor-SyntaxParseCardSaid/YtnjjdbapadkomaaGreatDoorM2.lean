/- Our abstract program logic and contracts of this seat's functions, part 2: no statement of its own (long names of ours are shortened by a program). -/
import Derived.Test.YtnjjdbapadkomaaGreatDoorM1
import Derived.Laws.Tables
import Derived.Laws.Small
import Derived.DataReads
import Derived.MapFrom
import Derived.Handed
import Derived.Carry
import Derived.Below
import Derived.Laws.Externs
import Derived.Lib.Bytealg
import Derived.Deep.AppendSrc
import Derived.Lib.UnsafeStr
import Derived.Laws.StructEq
import Derived.Laws.MakeOwn
import Derived.Laws.IdiomStrings
import Derived.RangeFuncBox
import Derived.MapKept
import Derived.WideLaws
import Derived.Test.YtnjjdbapadkomaaGreatDoorProg
import Derived.KernelRfl
set_option linter.unusedVariables false
set_option linter.unusedSimpArgs false
namespace Go.Abs
variable {Z : Pg}
structure Pass where
 n : Nm
 off : Nat
 cs : List C
 ds : List C
def Pass.old (p : Pass) : List C:=(p.cs.drop p.off).take p.ds.length
def St.stores (st : St) : List Pass→St
 | []=>st
 | p :: r=>(st.store p.n (uBG p.cs p.off p.ds) p.off p.ds.length).stores r
def uCw (st : St) : List Pass→Bool
 | []=>true
 | p :: r=>(Nat.ble (p.off + p.ds.length) p.cs.length && !p.n.isBd) && (r.all fun q=>!Nm.beq p.n q.n) && uCw st r
def Y.tr (ps : List Pass) : Y→Y
 | .ptr (.o j) k=>match ps[j]? with
  | some p=>.ptr p.n (p.off + k)
  | none=>.ptr (.o j) k
 | y=>y
def X.tr (ps : List Pass) : X→X
 | .v z=>.v (z.tr ps)
 | x=>x
def Y.trOk (ps : List Pass) : Y→Bool
 | .ptr (.o j) _=>(ps[j]?).isSome
 | .ptr (.l _) _=>false
 | .ptr (.bd _ _) _=>false
 | .ms _ _ _ _=>false
 | .msv _ _ _ _ _=>false
 | _=>true
def X.trOk (ps : List Pass) : X→Bool
 | .v z=>z.trOk ps
 | x=>x.clean
theorem uEb : ∀ (ps : List Pass) (st : St) (k : Nat),(st.stores ps).get k=st.get k
 | [],_,_=>rfl
 | p :: r,st,k=>by rw [St.stores,uEb r]; rfl
theorem uFU : ∀ (ps : List Pass) (st : St),(st.stores ps).mp=st.mp
 | [],_=>rfl
 | p :: r,st=>by rw [St.stores,uFU r]; rfl
theorem uBY : ∀ (ps : List Pass) (st : St) (m : Nm),(∀ p ∈ ps,p.n≠m)→(st.stores ps).box m=st.box m
 | [],_,_,_=>rfl
 | p :: r,st,m,h=>by
  rw [St.stores,uBY r _ m fun q hq=>h q (by simp [hq]),St.store_box,if_neg (h p (by simp))]
theorem uFh : ∀ (ps : List Pass) (st : St) (p : Pass),uCw st ps=true→p ∈ ps→(st.stores ps).box p.n=some (uBG p.cs p.off p.ds)
 | [],_,_,_,h=>by simp at h
 | q :: r,st,p,hb,h=>by
  simp only [uCw,Bool.and_eq_true] at hb
  rw [St.stores]
  rcases List.mem_cons.1 h with rfl | h
  ·rw [uBY r _ p.n fun q hq e=>by
    have := List.all_eq_true.1 hb.1.2 q hq
    rw [e] at this; simp [Nm.beq_self] at this]
   rw [St.store_box,if_pos rfl]
  ·have hb2 : uCw (st.store q.n (uBG q.cs q.off q.ds) q.off q.ds.length) r=true:=by
    have : ∀ (l : List Pass) (s s' : St),uCw s l=uCw s' l:=by
     intro l; induction l with
     | nil=>intro _ _; rfl
     | cons x l ih=>intro s s'; simp only [uCw,ih s s']
    rw [this r _ st]; exact hb.2
   exact uFh r _ p hb2 h
theorem uFl : ∀ (ps : List Pass) (st : St) (q : Pl) (sz : Nat),(st.stores ps).own q=some sz→st.own q=some sz ∧ ∀ p ∈ ps,Pl.inCells p.n p.off p.ds.length q=false
 | [],_,_,_,h=>⟨h,fun p hp=>by simp at hp⟩
 | p :: r,st,q,sz,h=>by
  rw [St.stores] at h
  obtain ⟨h1,h2⟩:=uFl r _ q sz h
  rw [St.store_own] at h1
  split at h1
  ·simp at h1
  ·rename_i hin
   refine ⟨h1,fun x hx=>?_⟩
   rcases List.mem_cons.1 hx with rfl | hx
   ·simpa using hin
   ·exact h2 x hx
theorem uDk : ∀ {ps : List Pass} {st : St},uCw st ps=true → ∀ (i j : Nat) (p q : Pass),ps[i]? = some p→ps[j]? = some q→p.n=q.n→i=j
 | [],_,_,i,_,p,_,h,_,_=>by simp at h
 | x :: r,st,hb,i,j,p,q,hi,hj,he=>by
  simp only [uCw,Bool.and_eq_true] at hb
  have hne : ∀ y ∈ r,x.n≠y.n:=fun y hy e=>by
   have := List.all_eq_true.1 hb.1.2 y hy
   rw [e] at this; simp [Nm.beq_self] at this
  cases i with
  | zero =>
   simp at hi; subst hi
   cases j with
   | zero=>rfl
   | succ j=>exact absurd he (hne q (List.mem_of_getElem? (by simpa using hj)))
  | succ i =>
   cases j with
   | zero =>
    simp at hj; subst hj
    exact absurd he.symm (hne p (List.mem_of_getElem? (by simpa using hi)))
   | succ j =>
    have := uDk hb.2 i j p q (by simpa using hi) (by simpa using hj) he
    omega
theorem uEU : ∀ {ps : List Pass} {st : St},uCw st ps=true → ∀ p ∈ ps,p.off + p.ds.length≤p.cs.length
 | [],_,_,p,h=>by simp at h
 | x :: r,st,hb,p,h=>by
  simp only [uCw,Bool.and_eq_true] at hb
  rcases List.mem_cons.1 h with rfl | h
  ·exact Nat.le_of_ble_eq_true hb.1.1.1
  ·exact uEU hb.2 p h
theorem uFG : ∀ {ps : List Pass} {st : St},uCw st ps=true → ∀ p ∈ ps,p.n.isBd=false
 | [],_,_,p,h=>by simp at h
 | x :: r,st,hb,p,h=>by
  simp only [uCw,Bool.and_eq_true,Bool.not_eq_true'] at hb
  rcases List.mem_cons.1 h with rfl | h
  ·exact hb.1.1.2
  ·exact uFG hb.2 p h
theorem uEP (cs : List C) : ∀ (ds : List C) (off : Nat) (j : Nat),off + ds.length≤cs.length→(uBG cs off ds)[j]? = if off≤j∧j < off + ds.length then ds[j - off]? else cs[j]? := by
 intro ds
 induction ds generalizing cs with
 | nil=>intro off j _; rw [if_neg (by simp only [List.length_nil]; omega)]; rfl
 | cons d ds ih =>
  intro off j h
  simp only [List.length_cons] at h
  rw [uBG,ih (cs.set off d) (off + 1) j (by simp; omega)]
  by_cases hj : off + 1≤j∧j < off + 1 + ds.length
  ·rw [if_pos hj,if_pos (by simp only [List.length_cons]; omega),show j - off=(j - (off + 1)) + 1 by omega]; simp
  ·rw [if_neg hj]
   by_cases he : j=off
   ·subst he
    rw [if_pos (by simp only [List.length_cons]; omega),List.getElem?_set_self (by omega)]; simp
   ·rw [if_neg (by simp only [List.length_cons]; omega),List.getElem?_set_ne (fun e=>he e.symm)]
theorem Rel.after {E : Env} {G G2 : Gh} {st st2 : St} {a : Act} {w w' : World} {M : Nat→Nat→Prop} (h : Rel E G st a w) (hf : Fr M w.heap.size w w') (hW : ∀ b o,b < w.heap.size→G2.W b o=G.W b o) (hA : G2.A=G.A)
  (hwf : ∀ b o,G2.W b o ≠ .none→b < w'.heap.size) (ht : ∀ k e,st2.get k=some e→st.get k=some e) (hM : ∀ b o,M b o → ∃ n,G.W b o = .box n) (hb : ∀ n cs,st2.box n=some cs→uDt w' G2 n cs)
  (ho : ∀ p sz,st2.own p=some sz→st.own p=some sz ∧ ∀ n off,p = .b n off → ¬ M (G.A n).1 ((G.A n).2 + off))
  (hbd : ∀ t k cs,st2.box (.bd t k)=some cs→cs≠[]→(G2.A (.bd t k)).2=0∧w'.shape? (G2.A (.bd t k)).1=some (t / 4096,2) ∧ ∃ x,w'.cell? ⟨(G2.A (.bd t k)).1,0,none⟩=some (.pointer x)∧(x=none∨x=some ⟨(G2.A (.bd t k)).1,0,none⟩)) (hmp : st2.mp=st.mp) : Rel E G2 st2 a w':=by
 have hB : E.B≤w.heap.size:=Nat.le_trans h.hB h.fr.size
 have hS : ∀ b o,G.S b o→G2.S b o:=fun b o hs=>by
  unfold Gh.S at *
  rw [hW b o (h.wf b o (by rw [hs]; simp))]
  exact hs
 have hnM : ∀ b o,(∀ n,G.W b o ≠ .box n) → ¬ M b o:=fun b o hn hm=>by
  obtain ⟨n,hn'⟩:=hM b o hm; exact hn n hn'
 have hcS : ∀ b o,G.S b o→w'.cell? ⟨b,o,none⟩=w.cell? ⟨b,o,none⟩:=fun b o hs=>by
  unfold Gh.S at hs
  exact hf.cell b o (h.wf b o (by rw [hs]; simp)) (hnM b o fun n=>by rw [hs]; simp)
 constructor
 ·exact h.df
 ·intro k g x hk
  obtain ⟨v,hv,h1,h2⟩:=h.tm k g x (ht k _ hk)
  exact ⟨v,hv,fun hg=>(h1 hg).mono hS hcS (fun _ _=>by rw [hA]),h2⟩
 ·exact hb
 ·intro p sz hp
  obtain ⟨hp1,hp2⟩:=ho p sz hp
  obtain ⟨v,hv,hov⟩:=h.ow p sz hp1
  refine ⟨v,?_,?_⟩
  ·cases p with
   | t k=>exact hv
   | b n off =>
    have hlt:=ValAt.lt h hp1 rfl
    show w'.cell? _=_∧G2.W _ _=_
    rw [hA,hf.cell _ _ hlt (hp2 n off rfl),hW _ _ hlt]
    exact hv
  ·rcases hov with hov | ⟨blk,len,cap,e,h1,h2,h3,h4⟩
   ·exact .inl hov
   ·by_cases hz : len * sz < cap * sz
    ·have hlt:=h.wf blk (len * sz) (by rw [(h4 _ (Nat.le_refl _) hz).1]; simp)
     exact .inr ⟨blk,len,cap,e,h1,h2,⟨by rw [hf.shape blk hlt]; exact h3.1,by rw [hf.mark blk hlt]; exact h3.2⟩,fun o ho1 ho2=>by
      rw [hW blk o hlt,hf.frozen blk o hlt]; exact h4 o ho1 ho2⟩
    ·have hlt : blk < w.heap.size:=by
      rcases Nat.lt_or_ge blk w.heap.size with hx | hx
      ·exact hx
      ·have h3:=h3.1; simp [World.shape?,Array.getElem?_eq_none hx] at h3
     exact .inr ⟨blk,len,cap,e,h1,h2,⟨by rw [hf.shape blk hlt]; exact h3.1,by rw [hf.mark blk hlt]; exact h3.2⟩,fun o ho1 ho2=>by omega⟩
 ·exact hwf
 ·intro b o n hb' hn
  rw [hW b o (by omega)] at hn
  exact h.olB b o n hb' hn
 ·intro b o p hb' hn
  rw [hW b o (by omega)] at hn
  exact h.olO b o p hb' hn
 ·exact h.nt
 ·exact fun j=>by rw [hA]; exact h.oA j
 ·intro b o hi
  exact hS b o (h.im b o hi)
 ·intro b o hb' hi
  rw [hW b o (by omega)] at hi
  exact h.im' b o hb' hi
 ·refine h.fr.trans (hf.mono hB fun b o hb' hm=>?_)
  obtain ⟨n,hn⟩:=hM b o hm
  exact h.olB b o n hb' hn
 ·exact h.hB
 ·intro b o hb'
  rw [hW b o (by omega)]
  exact h.lo b o hb'
 ·exact hbd
 ·intro x hx
  rw [hmp] at hx
  obtain ⟨q1,q2,q3⟩:=h.mp x hx
  have hlt:=q1.lt
  exact ⟨q1.of_same (hf.block _ hlt fun o hm=>by obtain ⟨n,hn⟩:=hM _ o hm; exact (q3 o).1 n hn),q2,fun o=>by rw [hW _ o hlt]; exact q3 o⟩
def Gh.passed (G : Gh) (ps : List Pass) : Gh where
 W:=fun b o=>match G.W b o with
  | .imm=>.imm
  | .box n=>(match (List.range ps.length).find? fun j=>(match ps[j]? with
    | some p=>Nm.beq p.n n && (Nat.beq b (G.A n).1 && (Nat.ble ((G.A n).2 + p.off) o && Nat.ble (o + 1) ((G.A n).2 + p.off + p.ds.length)))
    | none=>false) with
   | some j=>.box (.o j)
   | none=>.none)
  | _=>.none
 A:=fun n=>match n with
  | .o j=>(match ps[j]? with
   | some p=>((G.A p.n).1,(G.A p.n).2 + p.off)
   | none=>(0,0))
  | .l k=>G.A (.l k)
  | .bd t k=>G.A (.bd t k)
theorem Gh.passed_imm (G : Gh) (ps : List Pass) (b o : Nat) : (G.passed ps).W b o = .imm ↔ G.W b o = .imm:=by
 unfold Gh.passed
 dsimp only
 cases hw : G.W b o with
 | imm=>simp
 | none=>simp
 | own p=>simp
 | box n=>dsimp only; split <;> simp
theorem Gh.passed_own (G : Gh) (ps : List Pass) (b o : Nat) (p : Pl) : (G.passed ps).W b o ≠ .own p:=by
 unfold Gh.passed
 dsimp only
 cases hw : G.W b o with
 | imm=>simp
 | none=>simp
 | own p=>simp
 | box n=>dsimp only; split <;> simp
theorem Gh.passed_box {G : Gh} {ps : List Pass} {b o : Nat} {m : Nm} (h : (G.passed ps).W b o = .box m) : ∃ (j : Nat) (p : Pass),m = .o j∧ps[j]? = some p∧G.W b o = .box p.n∧b=(G.A p.n).1∧(G.A p.n).2 + p.off≤o∧o < (G.A p.n).2 + p.off + p.ds.length:=by
 unfold Gh.passed at h
 dsimp only at h
 cases hw : G.W b o with
 | imm=>rw [hw] at h; simp at h
 | none=>rw [hw] at h; simp at h
 | own p=>rw [hw] at h; simp at h
 | box n =>
  rw [hw] at h
  dsimp only at h
  split at h
  ·rename_i j hj
   have := List.find?_some hj
   cases hp : ps[j]? with
   | none=>rw [hp] at this; simp at this
   | some p =>
    rw [hp] at this
    simp only [Bool.and_eq_true] at this
    obtain ⟨h1,h2,h3,h4⟩:=this
    rw [Nm.beq_iff] at h1
    subst h1
    simp only [Who.box.injEq] at h
    exact ⟨j,p,h.symm,hp,rfl,Nat.eq_of_beq_eq_true h2,Nat.le_of_ble_eq_true h3,Nat.le_of_ble_eq_true h4⟩
  ·simp at h
theorem Gh.passed_at {G : Gh} {ps : List Pass} {st : St} (hnd : uCw st ps=true) {j : Nat} {p : Pass} (hj : ps[j]? = some p) {k : Nat} (hk : k < p.ds.length) (hw : G.W (G.A p.n).1 ((G.A p.n).2 + p.off + k) = .box p.n) :
  (G.passed ps).W (G.A p.n).1 ((G.A p.n).2 + p.off + k) = .box (.o j):=by
 unfold Gh.passed
 dsimp only
 rw [hw]
 dsimp only
 split
 ·rename_i i hi
  have := List.find?_some hi
  cases hp : ps[i]? with
  | none=>rw [hp] at this; simp at this
  | some q =>
   rw [hp] at this
   simp only [Bool.and_eq_true,Nm.beq_iff] at this
   rw [uDk hnd i j q p hp hj this.1]
 ·rename_i hnone
  exfalso
  rw [List.find?_eq_none] at hnone
  have hjl : j < ps.length:=(List.getElem?_eq_some_iff.1 hj).1
  have := hnone j (List.mem_range.2 hjl)
  rw [hj] at this
  apply this
  simp only [Bool.and_eq_true]
  exact ⟨Nm.beq_self _,by simp,Nat.ble_eq_true_of_le (by omega),Nat.ble_eq_true_of_le (by omega)⟩
theorem All2.map_left {α β γ : Type} {R : β→γ→Prop} {f : α→β} : ∀ {us : List α} {bs : List γ},All2 R (us.map f) bs→All2 (fun a b=>R (f a) b) us bs
 | [],[],_=>trivial
 | _ :: _,_ :: _,h=>⟨h.1,All2.map_left h.2⟩
 | [],_ :: _,h=>h.elim
 | _ :: _,[],h=>h.elim
def uE9 (ps : List Pass) (xs : List X) : Bool:=xs.all (·.trOk ps)
theorem YRep.tr {w : World} {G : Gh} {ps : List Pass} {y : Y} {v : Value} (hok : y.trOk ps=true) (h : YRep w G (y.tr ps) v) : YRep w (G.passed ps) y v:=by
 have hS : ∀ b o,G.S b o→(G.passed ps).S b o:=fun b o hs=>(G.passed_imm ps b o).2 hs
 cases y with
 | c x=>exact CRep.mono hS (fun _ _ _=>rfl) h
 | agg cs=>obtain ⟨vs,h1,h2⟩:=h; exact ⟨vs,h1,h2.mono fun _ _=>CRep.mono hS (fun _ _ _=>rfl)⟩
 | ro cs=>obtain ⟨blk,off,h1,h2⟩:=h; exact ⟨blk,off,h1,h2.mono hS (fun _ _ _=>rfl)⟩
 | ptr n off =>
  cases n with
  | l k=>simp [Y.trOk] at hok
  | bd t k=>simp [Y.trOk] at hok
  | o j =>
   simp only [Y.trOk] at hok
   cases hp : ps[j]? with
   | none=>rw [hp] at hok; simp at hok
   | some p =>
    simp only [Y.tr,hp,YRep] at h
    simp only [YRep,Gh.passed,hp]
    rw [h,Nat.add_assoc]
 | ms n sz off len=>simp [Y.trOk] at hok
 | msv n sz off len u=>simp [Y.trOk] at hok
theorem XRep.tr {w : World} {G : Gh} {ps : List Pass} {x : X} {v : Value} (hok : x.trOk ps=true) (h : XRep w G (x.tr ps) v) : XRep w (G.passed ps) x v:=by
 have hS : ∀ b o,G.S b o→(G.passed ps).S b o:=fun b o hs=>(G.passed_imm ps b o).2 hs
 cases x with
 | v z=>exact YRep.tr hok h
 | tup ys =>
  have hok' : X.clean (.tup ys)=true:=hok
  exact XRep.mono hS (fun _ _ _=>rfl) (fun n hn=>by rw [X.clean_has hok' n] at hn; simp at hn) h
 | fn f caps =>
  have hok' : X.clean (.fn f caps)=true:=hok
  exact XRep.mono hS (fun _ _ _=>rfl) (fun n hn=>by rw [X.clean_has hok' n] at hn; simp at hn) h
theorem uId {N : Nat} {ops : Array Oper} {st : St} {o : Oper} {fo : Operand} {args : Array Operand} {ts : Array TypeId} {f : FuncId} {xs cxs : List X} {res : X} {ps : List Pass} {dst : Option Nat} {fin : St}
  (ho : o.op = .call { callee:=.value fo,args:=args,argTypes:=ts }) (hg : uBg ops st o=some true)
  (hf : lk Z.T st 0 fo=some (true, .fn f [])) (ha : uCo Z.T st ts.toList args.toList=some (true,xs)) (htr : cxs.map (X.tr ps)=xs) (htrok : uE9 ps cxs=true)
  (hps : ∀ p ∈ ps,st.box p.n=some p.cs) (hnd : uCw st ps=true)
  (hs : Ctr Z f cxs (ps.map Pass.old) res none (ps.map Pass.ds)) (hc : res.clean=true) (hd : o.dst=dst)
  (hfin : match dst with | some d=>Nat.ble (d + 1) N=true∧fin=(st.stores ps).put d (true,res) | none=>fin=st.stores ps) : Op1 Z N ops o st fin:=by
 intro E G a w hr hE K' Q' hK
 rw [uBW hr hg]
 simp only [if_true]
 obtain ⟨cvs,hfv,hcv⟩:=uA7 hr hf rfl
 have hcv0 : cvs=[]:=by cases cvs with
  | nil=>rfl
  | cons _ _=>exact hcv.elim
 subst hcv0
 have hav:=uDa hr ha rfl
 obtain ⟨hen,hsp⟩:=hs
 unfold Oper.wp
 rw [uD2 ho hfv hen,Oper.upon_enter]
 rw [← htr] at hav
 have hlen:=uEU hnd
 have hav2 : All2 (XRep w (G.passed ps)) cxs (args.toList.map a.eval) :=
  All2.mem_mono (fun x v hx hxv=>XRep.tr (List.all_eq_true.1 htrok x hx) hxv) (All2.map_left hav)
 have hbox : ∀ (j : Nat) (p : Pass),ps[j]? = some p→uDt w G p.n p.cs:=fun j p hj=>hr.bx p.n p.cs (hps p (List.mem_of_getElem? hj))
 rw [List.append_nil]
 refine (hsp w (G.passed ps) _ hav2 ?_ ?_ ?_ (fun b o' p=>G.passed_own ps b o' p) (fun g hg=>⟨(hE.at hr g hg).1,(hE.at hr g hg).2.1,fun o n hn=>by
  obtain ⟨j,p,_,_,q,_⟩:=Gh.passed_box hn
  exact (hE.at hr g hg).2.2.1 o _ q,fun o p=>G.passed_own ps g.1 o p⟩)).mono ?_
 ·intro b o' hb
  refine hr.wf b o' ?_
  intro e
  apply hb
  unfold Gh.passed
  dsimp only
  rw [e]
 ·intro j cs hj k c hk
  rw [List.getElem?_map] at hj
  cases hp : ps[j]? with
  | none=>rw [hp] at hj; simp at hj
  | some p =>
   rw [hp] at hj
   simp only [Option.map_some,Option.some.injEq] at hj
   subst hj
   unfold Pass.old at hk
   rw [List.getElem?_take] at hk
   split at hk
   ·rename_i hkl
    rw [List.getElem?_drop] at hk
    obtain ⟨h1,h2,v,h3,h4⟩:=hbox j p hp _ c hk
    have hA : (G.passed ps).A (.o j)=((G.A p.n).1,(G.A p.n).2 + p.off):=by simp [Gh.passed,hp]
    rw [hA]
    rw [← Nat.add_assoc] at h1 h2 h3
    exact ⟨Gh.passed_at hnd hp hkl h1,h2,v,h3,h4.mono (fun b o' hs=>(G.passed_imm ps b o').2 hs) (fun _ _ _=>rfl)⟩
   ·simp at hk
 ·intro b o' n hn
  obtain ⟨j,p,rfl,hp,hw,h1,h2,h3⟩:=Gh.passed_box hn
  have hpl:=hlen p (List.mem_of_getElem? hp)
  refine ⟨j,p.old,o' - ((G.A p.n).2 + p.off),rfl,by rw [List.getElem?_map,hp]; rfl,?_,?_,?_⟩
  ·simp only [Pass.old,List.length_take,List.length_drop]; omega
  ·simp [Gh.passed,hp,h1]
  ·simp only [Gh.passed,hp]; omega
 ·rintro e w' ⟨v,G',rfl,hfr,h1,h2,h3,h4,h5,h6,h7,h8⟩
  dsimp only
  have g2 : ∀ b o',b < w.heap.size→G'.W b o' = .imm→G.W b o' = .imm:=fun b o' hb hi=>(G.passed_imm ps b o').1 (h2 b o' hb hi)
  let G2:=G.back G' w.heap.size .none
  have hS2 : ∀ b o',G'.S b o'→G2.S b o':=fun b o'=>Gh.back_imm g2 b o'
  have hW2 : ∀ b o',b < w.heap.size→G2.W b o'=G.W b o':=fun b o' hb=>by simp [G2,Gh.back,hb]
  have hrel : Rel E G2 (st.stores ps) a w':=by
   refine hr.after (M:=fun b o'=>∃ n,(G.passed ps).W b o' = .box n) hfr hW2 rfl ?_ (fun k e hk=>by rw [uEb] at hk; exact hk) ?_ ?_ ?_ ?_ (uFU ps st)
   ·intro b o' hb
    dsimp only [G2,Gh.back] at hb
    split at hb
    ·rename_i hlt; exact Nat.lt_of_lt_of_le hlt hfr.size
    ·refine h3 b o' ?_
     intro e; rw [e] at hb; simp at hb
   ·rintro b o' ⟨n,hn⟩
    obtain ⟨j,p,_,_,hw,_⟩:=Gh.passed_box hn
    exact ⟨_,hw⟩
   ·intro n cs hn
    by_cases hin : ∃ p ∈ ps,p.n=n
    ·obtain ⟨p,hp,rfl⟩:=hin
     rw [uFh ps st p hnd hp] at hn
     simp only [Option.some.injEq] at hn
     subst hn
     obtain ⟨j,hj⟩:=List.getElem?_of_mem hp
     have hpl:=hlen p hp
     intro k c hk
     rw [uEP p.cs p.ds p.off k hpl] at hk
     have hA2 : G2.A p.n=G.A p.n:=rfl
     rw [hA2]
     have hkl : k < p.cs.length:=by
      split at hk
      ·rename_i hh; omega
      ·exact (List.getElem?_eq_some_iff.1 hk).1
     obtain ⟨q1,q2,u,q3,q4⟩:=hbox j p hj k _ (List.getElem?_eq_getElem hkl)
     have hlt : (G.A p.n).1 < w.heap.size:=World.block_lt_of_cell? (a:=⟨(G.A p.n).1,(G.A p.n).2 + k,none⟩) w q3
     refine ⟨by rw [hW2 _ _ hlt]; exact q1,by rw [hfr.frozen _ _ hlt]; exact q2,?_⟩
     split at hk
     ·rename_i hh
      have hb:=h6 j p.ds (by rw [List.getElem?_map,hj]; rfl) (k - p.off) c hk
      rw [h5 j] at hb
      have hA : (G.passed ps).A (.o j)=((G.A p.n).1,(G.A p.n).2 + p.off):=by simp [Gh.passed,hj]
      rw [hA] at hb
      obtain ⟨_,_,u',b3,b4⟩:=hb
      dsimp only at b3
      rw [show (G.A p.n).2 + p.off + (k - p.off)=(G.A p.n).2 + k by omega] at b3
      exact ⟨u',b3,b4.mono hS2 (fun _ _ _=>rfl)⟩
     ·rename_i hh
      rw [List.getElem?_eq_getElem hkl] at hk
      simp only [Option.some.injEq] at hk
      subst hk
      refine ⟨u,?_,q4.mono (fun b o' hs=>?_) (fun b o' hs=>?_)⟩
      ·rw [hfr.cell _ _ hlt]
       ·exact q3
       ·rintro ⟨n,hn⟩
        obtain ⟨i,q,_,hq,hw,r1,r2,r3⟩:=Gh.passed_box hn
        rw [q1] at hw
        simp only [Who.box.injEq] at hw
        have := uDk hnd i j q p hq hj hw.symm
        subst this
        rw [hj] at hq
        simp only [Option.some.injEq] at hq
        subst hq
        omega
      ·exact hS2 b o' (h1 b o' ((G.passed_imm ps b o').2 hs))
      ·have hlt':=hr.wf b o' (by unfold Gh.S at hs; rw [hs]; simp)
       refine hfr.cell b o' hlt' ?_
       rintro ⟨n,hn⟩
       obtain ⟨_,_,_,_,hw,_⟩:=Gh.passed_box hn
       unfold Gh.S at hs
       rw [hs] at hw; simp at hw
    ·rw [uBY ps st n (fun p hp e=>hin ⟨p,hp,e⟩)] at hn
     intro k c hk
     obtain ⟨q1,q2,u,q3,q4⟩:=hr.bx n cs hn k c hk
     have hlt : (G.A n).1 < w.heap.size:=World.block_lt_of_cell? (a:=⟨(G.A n).1,(G.A n).2 + k,none⟩) w q3
     have hA2 : G2.A n=G.A n:=rfl
     rw [hA2]
     refine ⟨by rw [hW2 _ _ hlt]; exact q1,by rw [hfr.frozen _ _ hlt]; exact q2,u,?_,q4.mono (fun b o' hs=>?_) (fun b o' hs=>?_)⟩
     ·rw [hfr.cell _ _ hlt]
      ·exact q3
      ·rintro ⟨m,hm⟩
       obtain ⟨i,q,_,hq,hw,_⟩:=Gh.passed_box hm
       rw [q1] at hw
       simp only [Who.box.injEq] at hw
       exact hin ⟨q,List.mem_of_getElem? hq,hw.symm⟩
     ·exact hS2 b o' (h1 b o' ((G.passed_imm ps b o').2 hs))
     ·have hlt':=hr.wf b o' (by unfold Gh.S at hs; rw [hs]; simp)
      refine hfr.cell b o' hlt' ?_
      rintro ⟨n,hn⟩
      obtain ⟨_,_,_,_,hw,_⟩:=Gh.passed_box hn
      unfold Gh.S at hs
      rw [hs] at hw; simp at hw
   ·intro p sz hp
    obtain ⟨hp1,hp2⟩:=uFl ps st p sz hp
    refine ⟨hp1,?_⟩
    rintro n off rfl ⟨m,hm⟩
    obtain ⟨i,q,_,hq,hw,r1,r2,r3⟩:=Gh.passed_box hm
    obtain ⟨u,hu,_⟩:=hr.ow _ _ hp1
    rw [hu.2] at hw
    simp only [Who.box.injEq] at hw
    subst hw
    have := hp2 q (List.mem_of_getElem? hq)
    simp only [Pl.inCells,Nm.beq_self,Bool.true_and,Bool.and_eq_false_iff] at this
    rcases this with this | this
    ·have : ¬ q.off≤off:=fun hle=>by rw [Nat.ble_eq_true_of_le hle] at this; simp at this
     omega
    ·have : ¬ off + 1≤q.off + q.ds.length:=fun hle=>by rw [Nat.ble_eq_true_of_le hle] at this; simp at this
     omega
   ·intro t k cs hn hne
    have hnp : ∀ p ∈ ps,p.n ≠ .bd t k:=fun p hp e=>by
     have := uFG hnd p hp
     rw [e] at this; simp [Nm.isBd] at this
    rw [uBY ps st _ hnp] at hn
    obtain ⟨q1,q2,x,q3,q4⟩:=hr.bd t k cs hn hne
    have hlt : (G.A (.bd t k)).1 < w.heap.size:=World.block_lt_of_cell? (a:=⟨(G.A (.bd t k)).1,0,none⟩) w q3
    obtain ⟨c0,hc0⟩ : ∃ c0,cs[0]? = some c0:=by
     cases cs with
     | nil=>exact absurd rfl hne
     | cons c0 r=>exact ⟨c0,rfl⟩
    obtain ⟨r1,_⟩:=hr.bx _ cs hn 0 c0 hc0
    rw [q1] at r1
    have hA2 : G2.A (.bd t k)=G.A (.bd t k):=rfl
    rw [hA2,hfr.shape _ hlt]
    refine ⟨q1,q2,x,?_,q4⟩
    rw [hfr.cell _ _ hlt]
    ·exact q3
    ·rintro ⟨m,hm⟩
     obtain ⟨i,q,_,hq,hw,_⟩:=Gh.passed_box hm
     rw [r1] at hw
     simp only [Who.box.injEq] at hw
     exact hnp q (List.mem_of_getElem? hq) hw.symm
  have hX : XRep w' G2 res v:=h4.mono hS2 (fun _ _ _=>rfl) (fun n hn=>by rw [X.clean_has hc n] at hn; simp at hn)
  rw [hd] at hK ⊢
  cases dst with
  | none =>
   dsimp only at hfin
   subst hfin
   exact hK G2 v w' hrel
  | some d =>
   dsimp only at hfin
   obtain ⟨hN,rfl⟩:=hfin
   have hdN : d < E.nt:=by rw [hE.nt]; exact Nat.le_of_ble_eq_true hN
   exact hK G2 v w' (hrel.put hdN (g:=true) (fun _=>hX) (fun hf=>by simp at hf))
theorem uNe {N : Nat} {ops : Array Oper} {st : St} {o : Oper} {fo : Operand} {args : Array Operand} {ts : Array TypeId} {f : FuncId} {xs cxs : List X} {res : X} {p : Pass} {d : Nat} {R : Foot}
  (ho : o.op = .call { callee:=.value fo,args:=args,argTypes:=ts }) (hg : uBg ops (rs R st) o=some true)
  (hf : lk Z.T (rs R st) 0 fo=some (true, .fn f [])) (ha : uCo Z.T (rs R st) ts.toList args.toList=some (true,xs)) (htr : cxs.map (X.tr [p])=xs) (htrok : uE9 [p] cxs=true)
  (hps : (rs R st).box p.n=some p.cs) (hnd : Nat.ble (p.off + p.ds.length) p.cs.length=true)
  (hs : Ctr Z f cxs [p.old] res none [p.ds]) (hc : res.clean=true) (hd : o.dst=some d) (hN : Nat.ble (d + 1) N=true) (hnb : p.n.isBd=false:=by rfl) :
  LS Z N ops o { d:=some (d,true,res),b:=some (p.n,uBG p.cs p.off p.ds),drop:=.t d :: uCm p.n p.off p.ds.length } R st:=by
 intro s2 hag _
 refine (uId (ps:=[p]) (st:=s2) ho (uB8 hag.sub hg) (uEk hag.sub hf) (uF5 hag.sub ha) htr htrok (fun q hq=>by simp at hq; subst hq; exact hag.sub.bx _ _ hps) (by simp [uCw,hnd,hnb]) hs hc hd ⟨hN,rfl⟩).sub ⟨?_,?_,?_,by exact .inr rfl⟩
 ·intro j e hj
  rw [uCD] at hj
  rw [St.put_get,uEb]
  simp only [Eff.gt] at hj
  by_cases h : d=j
  ·subst h; simpa using hj
  ·have h' : ¬ j=d:=fun e=>h e.symm
   simpa [h,h'] using hj
 ·intro m ds hm
  rw [uCM] at hm
  show (s2.store p.n (uBG p.cs p.off p.ds) p.off p.ds.length).box m=_
  rw [St.store_box]
  simp only [Eff.gb] at hm
  split
  ·rename_i he; rw [if_pos he] at hm; exact hm
  ·rename_i he; rw [if_neg he] at hm; exact hm
 ·intro q s hq
  rw [uCk] at hq
  rw [St.put_own]
  simp only [Eff.go,List.mem_cons] at hq
  split
  ·rename_i he; rw [if_pos (.inl he)] at hq; exact hq
  ·rename_i he
   show (s2.store p.n (uBG p.cs p.off p.ds) p.off p.ds.length).own q=_
   rw [St.store_own]
   split
   ·rename_i h3; rw [if_pos (.inr (mem_cellPls.2 h3))] at hq; exact hq
   ·rename_i h3; rw [if_neg (by rintro (h | h); exact he h; exact h3 (mem_cellPls.1 h))] at hq; exact hq
section
variable {s0 : St} {N : Nat} {ops : Array Oper} {B : List Nat} {k : Nat} {rest : List Oper} {acc : List Lnk} {st : St} {o : Oper} {Q : St→Prop} {gate : Bool} {d : Nat}
theorem uAi {x : X} (hk : ops[k]? = some o) (hg : uBg ops (rs (foot ops o [] []) st) o=some gate) (hd : o.dst=some d) (hN : Nat.ble (d + 1) N=true) (hp : PureOk Z (rs (foot ops o [] []) st) o.op o.type gate x)
  (hr : Draw Z N s0 ops B (k + 1) rest (acc++[(k,{ d:=some (d,gate,x),drop:=[.t d] },foot ops o [] [])]) (ap { d:=some (d,gate,x),drop:=[.t d] } st) Q) : Draw Z N s0 ops B k (o :: rest) acc st Q :=
 uCQ hk (uIP hg hd hN hp) hr
theorem uCs {g : Bool} {t : TypeId} {len : Nat} {parts : Array (Nat × Operand)} {xs : List Operand} {ti : TyI} {e sz by' : Nat} {rws : List (List C)} (hk : ops[k]? = some o)
  (ho : o.op = .buildSlice t len parts) (hg : uBg ops (rs (foot ops o [] []) st) o=some gate) (hd : o.dst=some d) (hN : Nat.ble (d + 1) N=true) (ht : tyAt Z.T t=some ti) (hel : ti.el=some (e,sz,by')) (hp : parts.toList=uED 0 xs) (hx : Nat.beq xs.length len=true)
  (hrs : uC1 Z.T (rs (foot ops o [] []) st) e sz xs=some (g,rws)) (hga : gate=true→g=true) (hbig : Nat.ble (len * sz) 10000=true)
  (hr : Draw Z N s0 ops B (k + 1) rest (acc++[(k,{ d:=some (d,gate, .v (.c (.sl sz rws))),drop:=[.t d],gain:=cond gate ((some sz).map fun sz=>(.t d,sz)) none },foot ops o [] [])]) (ap { d:=some (d,gate, .v (.c (.sl sz rws))),drop:=[.t d],gain:=cond gate ((some sz).map fun sz=>(.t d,sz)) none } st) Q) :
  Draw Z N s0 ops B k (o :: rest) acc st Q:=uCQ hk (uHO ho hg hd hN ht hel hp hx hrs hga hbig) hr
theorem uCa {j : Nat} {x : Operand} {t : TypeId} {sz e by' : Nat} {es xs : List (List C)} {ti : TyI} (hk : ops[k]? = some o) (ho : o.op = .call { callee:=.builtin .append,args:=#[.tmp j,x],argTypes:=#[t,t] }) (hg : uBg ops (rs (foot ops o [] [.t j]) st) o=some true) (hd : o.dst=some d)
  (hs : (rs (foot ops o [] [.t j]) st).get j=some (true, .v (.c (.sl sz es)))) (hw : (rs (foot ops o [] [.t j]) st).own (.t j)=some sz) (hx : lk Z.T (rs (foot ops o [] [.t j]) st) t x=some (true, .v (.c (.sl sz xs))))
  (ht : tyAt Z.T t=some ti) (hel : ti.el=some (e,sz,by')) (hN : Nat.ble (d + 1) N=true) (hkd : Nat.beq j d=false) (hbig : (es.length + xs.length) * by'≤140737488355328) (hmax : es.length + xs.length≤9223372036854775807)
  (hr : Draw Z N s0 ops B (k + 1) rest (acc++[(k,{ d:=some (d,true, .v (.c (.sl sz (es++xs)))),drop:=[.t d, .t j],gain:=some (.t d,sz) },foot ops o [] [.t j])]) (ap { d:=some (d,true, .v (.c (.sl sz (es++xs)))),drop:=[.t d, .t j],gain:=some (.t d,sz) } st) Q) :
  Draw Z N s0 ops B k (o :: rest) acc st Q:=uCQ hk (uMP ho hg hd hs hw hx ht hel hN hkd hbig hmax) hr
theorem uDy {j sz : Nat} {x : X} (hk : ops[k]? = some o) (hop : o.op = .move (.tmp j)∨o.op = .assign (.tmp j)) (hg : uBg ops (rs (foot ops o [] [.t j]) st) o=some true) (hd : o.dst=some d) (h : (rs (foot ops o [] [.t j]) st).get j=some (true,x)) (hw : (rs (foot ops o [] [.t j]) st).own (.t j)=some sz) (hN : Nat.ble (d + 1) N=true)
  (hr : Draw Z N s0 ops B (k + 1) rest (acc++[(k,{ d:=some (d,true,x),drop:=[.t d, .t j],gain:=some (.t d,sz) },foot ops o [] [.t j])]) (ap { d:=some (d,true,x),drop:=[.t d, .t j],gain:=some (.t d,sz) } st) Q) :
  Draw Z N s0 ops B k (o :: rest) acc st Q:=uCQ hk (uN7 hop hg hd h hw hN) hr
theorem uAU {t : TypeId} {x v : Operand} {n : Nm} {off : Nat} {y : Y} {cs ds : List C} {ti : TyI} (hk : ops[k]? = some o) (ho : o.op = .store t x v) (hx0 : lk Z.T st t x=some (true, .v (.ptr n off))) (hg : uBg ops (rs (foot ops o [n] []) st) o=some true) (hd : o.dst=none)
  (hx : lk Z.T (rs (foot ops o [n] []) st) t x=some (true, .v (.ptr n off))) (hv : lk Z.T (rs (foot ops o [n] []) st) t v=some (true, .v y)) (hc : y.cells=some ds)
  (hb : (rs (foot ops o [n] []) st).box n=some cs) (ht : tyAt Z.T t=some ti) (hn : ds.length=ti.n) (hl : Nat.ble (off + ds.length) cs.length=true)
  (hr : Draw Z N s0 ops B (k + 1) rest (acc++[(k,{ b:=some (n,uBG cs off ds),drop:=uCm n off ds.length },foot ops o [n] [])]) (ap { b:=some (n,uBG cs off ds),drop:=uCm n off ds.length } st) Q) (hnb : (!n.isBd || !Nat.beq off 0)=true:=by rfl) :
  Draw Z N s0 ops B k (o :: rest) acc st Q:=let _:=hx0; uCQ hk (uNp ho hg hd hx hv hc hb ht hn hl hnb) hr
theorem uCh {t : TypeId} {x : Operand} {n : Nm} {off : Nat} {ti : TyI} {cs : List C} {c : C} {sz : Nat} (hk : ops[k]? = some o) (ho : o.op = .load t x) (h0 : lk Z.T st o.type x=some (true, .v (.ptr n off))) (hg : uBg ops (rs (foot ops o [n] [.b n off]) st) o=some true) (hd : o.dst=some d)
  (h : lk Z.T (rs (foot ops o [n] [.b n off]) st) o.type x=some (true, .v (.ptr n off))) (ht : tyAt Z.T t=some ti) (hagg : ti.agg=false) (hb : (rs (foot ops o [n] [.b n off]) st).box n=some cs) (hc : cs[off]? = some c) (hw : (rs (foot ops o [n] [.b n off]) st).own (.b n off)=some sz) (hN : Nat.ble (d + 1) N=true)
  (hr : Draw Z N s0 ops B (k + 1) rest (acc++[(k,{ d:=some (d,true, .v (.c c)),drop:=[.t d, .b n off],gain:=some (.t d,sz) },foot ops o [n] [.b n off])]) (ap { d:=some (d,true, .v (.c c)),drop:=[.t d, .b n off],gain:=some (.t d,sz) } st) Q) :
  Draw Z N s0 ops B k (o :: rest) acc st Q:=let _:=h0; uCQ hk (uKB ho hg hd h ht hagg hb hc hw hN) hr
theorem uCj {t : TypeId} {x : Operand} {j : Nat} {n : Nm} {off : Nat} {c : C} {cs : List C} {ti : TyI} {sz : Nat} (hk : ops[k]? = some o) (ho : o.op = .store t x (.tmp j)) (hx0 : lk Z.T st t x=some (true, .v (.ptr n off))) (hg : uBg ops (rs (foot ops o [n] [.t j]) st) o=some true) (hd : o.dst=none)
  (hx : lk Z.T (rs (foot ops o [n] [.t j]) st) t x=some (true, .v (.ptr n off))) (hv : (rs (foot ops o [n] [.t j]) st).get j=some (true, .v (.c c)))
  (hb : (rs (foot ops o [n] [.t j]) st).box n=some cs) (ht : tyAt Z.T t=some ti) (hn : ti.n=1) (hl : Nat.ble (off + 1) cs.length=true) (hw : (rs (foot ops o [n] [.t j]) st).own (.t j)=some sz)
  (hr : Draw Z N s0 ops B (k + 1) rest (acc++[(k,{ b:=some (n,uBG cs off [c]),drop:=[.t j, .b n off],gain:=some (.b n off,sz) },foot ops o [n] [.t j])]) (ap { b:=some (n,uBG cs off [c]),drop:=[.t j, .b n off],gain:=some (.b n off,sz) } st) Q) (hnb : n.isBd=false:=by rfl) :
  Draw Z N s0 ops B k (o :: rest) acc st Q:=let _:=hx0; uCQ hk (uKx ho hg hd hx hv hb ht hn hl hw hnb) hr
theorem uNn {fo : Operand} {args : Array Operand} {ts : Array TypeId} {f : FuncId} {xs cxs : List X} {res : X} (p : Pass) (hk : ops[k]? = some o)
  (ho : o.op = .call { callee:=.value fo,args:=args,argTypes:=ts }) (hg : uBg ops (rs (foot ops o [p.n] []) st) o=some true)
  (hf : lk Z.T (rs (foot ops o [p.n] []) st) 0 fo=some (true, .fn f [])) (ha : uCo Z.T (rs (foot ops o [p.n] []) st) ts.toList args.toList=some (true,xs)) (htr : cxs.map (X.tr [p])=xs) (htrok : uE9 [p] cxs=true)
  (hps : (rs (foot ops o [p.n] []) st).box p.n=some p.cs) (hnd : Nat.ble (p.off + p.ds.length) p.cs.length=true)
  (hs : Ctr Z f cxs [p.old] res none [p.ds]) (hc : res.clean=true) (hd : o.dst=some d) (hN : Nat.ble (d + 1) N=true)
  (hr : Draw Z N s0 ops B (k + 1) rest (acc++[(k,{ d:=some (d,true,res),b:=some (p.n,uBG p.cs p.off p.ds),drop:=.t d :: uCm p.n p.off p.ds.length },foot ops o [p.n] [])]) (ap { d:=some (d,true,res),b:=some (p.n,uBG p.cs p.off p.ds),drop:=.t d :: uCm p.n p.off p.ds.length } st) Q) (hnb : p.n.isBd=false:=by rfl) :
  Draw Z N s0 ops B k (o :: rest) acc st Q:=uCQ hk (uNe ho hg hf ha htr htrok hps hnd hs hc hd hN hnb) hr
end
end Go.Abs
namespace Go.Abs
variable {Z : Pg}
section
variable {s0 : St} {N : Nat} {ops : Array Oper} {B : List Nat} {k : Nat} {rest : List Oper} {acc : List Lnk} {st : St} {o : Oper} {Q : St→Prop} {gate : Bool} {d : Nat}
theorem uA3 {t : TypeId} {x : Operand} {g0 g : Bool} {n : Nm} {off : Nat} {ti : TyI} {cs : List C} {c : C} (hk : ops[k]? = some o) (ho : o.op = .load t x) (h0 : lk Z.T st o.type x=some (g0, .v (.ptr n off))) (hg : uBg ops (rs (foot ops o [n] []) st) o=some gate) (hd : o.dst=some d) (hN : Nat.ble (d + 1) N=true)
  (h : lk Z.T (rs (foot ops o [n] []) st) o.type x=some (g, .v (.ptr n off))) (hgg : gate=true→g=true) (ht : tyAt Z.T t=some ti) (hagg : ti.agg=false) (hb : (rs (foot ops o [n] []) st).box n=some cs) (hc : cs[off]? = some c)
  (hr : Draw Z N s0 ops B (k + 1) rest (acc++[(k,{ d:=some (d,gate, .v (.c c)),drop:=[.t d] },foot ops o [n] [])]) (ap { d:=some (d,gate, .v (.c c)),drop:=[.t d] } st) Q) : Draw Z N s0 ops B k (o :: rest) acc st Q :=
 let _:=h0; uCQ hk (uIP hg hd hN (by rw [ho]; exact uAl h hgg ht hagg hb hc)) hr
theorem uAI {t : TypeId} {x : Operand} {g0 g : Bool} {n : Nm} {off : Nat} {ti : TyI} {cs ds : List C} (hk : ops[k]? = some o) (ho : o.op = .load t x) (h0 : lk Z.T st o.type x=some (g0, .v (.ptr n off))) (hg : uBg ops (rs (foot ops o [n] []) st) o=some gate) (hd : o.dst=some d) (hN : Nat.ble (d + 1) N=true)
  (h : lk Z.T (rs (foot ops o [n] []) st) o.type x=some (g, .v (.ptr n off))) (hgg : gate=true→g=true) (ht : tyAt Z.T t=some ti) (hagg : ti.agg=true) (hb : (rs (foot ops o [n] []) st).box n=some cs) (hds : (cs.drop off).take ti.n=ds) (hl : ds.length=ti.n)
  (hr : Draw Z N s0 ops B (k + 1) rest (acc++[(k,{ d:=some (d,gate, .v (.agg ds)),drop:=[.t d] },foot ops o [n] [])]) (ap { d:=some (d,gate, .v (.agg ds)),drop:=[.t d] } st) Q) : Draw Z N s0 ops B k (o :: rest) acc st Q :=
 let _:=h0; uCQ hk (uIP hg hd hN (by rw [ho]; exact uAo h hgg ht hagg hb hds hl)) hr
theorem awp_drawn' {Q : Exit→St→Prop} {id : Nat} {l : List Oper} (hcert : uIj l.toArray (Region.before l.toArray).toList=true) (h : Draw Z N st l.toArray (Region.before l.toArray).toList 0 l [] st (Q .normal)) : AWP Z N (.region id l.toArray true) Q st :=
 uL0 _ hcert h
end
end Go.Abs
namespace Go.Abs
variable {Z : Pg}
theorem TyOk.fields {P : Program} {t : TypeId} {ti : TyI} {fs : Array Field} (h : tyB P t ti=true) (hu : P.underlying t=some (.struct fs)) :
  ∃ i zv,P.info? t=some i∧i.zero=some zv∧All2 (fun c v=>uDr c v=true) ti.z zv.cells.toList ∧ ∀ f ∈ fs.toList,∃ j,P.info? f.type=some j:=by
 unfold tyB at h
 split at h
 ·rename_i i d hi hd
  rw [hu] at hd
  simp only [Option.some.injEq] at hd
  subst hd
  simp only [Bool.and_eq_true,beq_iff_eq] at h
  obtain ⟨⟨⟨_,_⟩,h3⟩,⟨h4,h5⟩,_⟩:=h
  split at h3
  ·rename_i zv hz
   simp only [Bool.and_eq_true,beq_iff_eq] at h3
   refine ⟨i,zv,hi,hz,All2.ofB h3.2,?_⟩
   intro f hf
   obtain ⟨j,hj⟩:=List.getElem?_of_mem hf
   have hal:=All2.ofB h5
   have hlt : j < ti.offs.length:=by rw [hal.len]; exact (List.getElem?_eq_some_iff.1 hj).1
   obtain ⟨f',hf',hr⟩:=hal.get j _ (List.getElem?_eq_getElem hlt)
   rw [hj] at hf'
   simp only [Option.some.injEq] at hf'
   subst hf'
   simp only [Bool.and_eq_true] at hr
   obtain ⟨_,hr2⟩:=hr
   split at hr2
   ·rename_i k hk; exact ⟨k,hk⟩
   ·simp at hr2
  ·simp at h3
 ·simp at h
def uHz (T : List (Option TyI)) (st : St) (fs : List Field) : List (Nat × Operand)→List C→Option (Bool × List C)
 | [],acc=>some (true,acc)
 | (i,x) :: r,acc=>match fs[i]? with
  | some f=>(match tyAt T f.type with
   | some tj=>(match lk T st f.type x with
    | some (g, .v y)=>(match y.cells with
     | some cs=>cond (Nat.beq cs.length tj.n && Nat.ble (f.offset + cs.length) acc.length)
       (match uHz T st fs r (uBG acc f.offset cs) with | some (g',out)=>some (g && g',out) | none=>none) none
     | none=>none)
    | _=>none)
   | none=>none)
  | none=>none
section
variable {st : St} {ty : TypeId} {gate : Bool} {N : Nat} {ops : Array Oper} {o : Oper} {d : Nat} {K : St→Prop}
theorem uGt {E : Env} {G : Gh} {a : Act} {w : World} (hr : Rel E G st a w) {fs : List Field} {place : Nat→Option (Nat × Nat)}
  (hpl : ∀ (i : Nat) (f : Field) (tj : TyI),fs[i]? = some f→tyAt Z.T f.type=some tj→place i=some (f.offset,tj.n)) :
  ∀ {parts : List (Nat × Operand)} {acc out : List C} {g : Bool} {cells : Array Value},uHz Z.T st fs parts acc=some (g,out)→g=true→All2 (CRep w G.S) acc cells.toList →
   ∃ cells',Instr.fill place cells (parts.map fun (i,x)=>(i,a.eval x))=some cells'∧All2 (CRep w G.S) out cells'.toList
 | [],acc,out,g,cells,h,_,hc=>by
  simp only [uHz,Option.some.injEq,Prod.mk.injEq] at h
  obtain ⟨_,rfl⟩:=h
  exact ⟨cells,rfl,hc⟩
 | (i,x) :: r,acc,out,g,cells,h,hg,hc=>by
  simp only [uHz] at h
  split at h
  ·rename_i f hf
   split at h
   ·rename_i tj htj
    split at h
    ·rename_i g1 y hy
     split at h
     ·rename_i cs hcs
      cases hb : (Nat.beq cs.length tj.n && Nat.ble (f.offset + cs.length) acc.length) with
      | false=>rw [hb] at h; simp at h
      | true =>
       rw [hb,cond_true] at h
       rw [Bool.and_eq_true] at hb
       split at h
       ·rename_i g2 out2 h2
        simp only [Option.some.injEq,Prod.mk.injEq] at h
        obtain ⟨rfl,rfl⟩:=h
        rw [Bool.and_eq_true] at hg
        have hrep:=(show YRep w G y (a.eval x) from uA7 hr hy hg.1).cells hcs
        have hn:=Nat.eq_of_beq_eq_true hb.1
        have hl:=Nat.le_of_ble_eq_true hb.2
        have hsz : (a.eval x).cells.size=tj.n:=by rw [← Array.length_toList,← hrep.len,hn]
        have hcl : acc.length=cells.size:=by rw [hc.len,Array.length_toList]
        have hfit : f.offset + (a.eval x).cells.size≤cells.size:=by rw [hsz,← hn]; omega
        obtain ⟨q1,q2⟩:=uGj f.offset (a.eval x) cells hfit
        obtain ⟨cells',h3,h4⟩:=uGt hr hpl (parts:=r) (cells:=(a.eval x).cells.zipIdx.foldl (fun cs (c,j)=>cs.setIfInBounds (f.offset + j) c) cells) h2 hg.2 (by
         refine All2.mk ((uB4 _ _ _).trans (hcl.trans (q1.symm.trans Array.length_toList.symm))) ?_
         intro j c v hj hv
         rw [Array.getElem?_toList,q2 j] at hv
         rw [uEP _ _ _ _ hl] at hj
         rw [hsz,← hn] at hv
         split at hj
         ·rename_i hin
          rw [if_pos hin] at hv
          obtain ⟨v',hv',hr'⟩:=hrep.get _ _ hj
          rw [Array.getElem?_toList,hv] at hv'
          simp only [Option.some.injEq] at hv'
          subst hv'
          exact hr'
         ·rename_i hin
          rw [if_neg hin] at hv
          obtain ⟨v',hv',hr'⟩:=hc.get _ _ hj
          rw [Array.getElem?_toList,hv] at hv'
          simp only [Option.some.injEq] at hv'
          subst hv'
          exact hr')
        refine ⟨cells',?_,h4⟩
        simp only [List.map_cons,Instr.fill,hpl i f tj hf htj]
        have hno : ¬ ((a.eval x).cells.size≠tj.n∨f.offset + (a.eval x).cells.size > cells.size):=by
         rintro (h | h)
         ·exact h hsz
         ·omega
        rw [if_neg (by simpa using hno)]
        exact h3
       ·simp at h
     ·simp at h
    ·simp at h
   ·simp at h
  ·simp at h
theorem uAY {t : TypeId} {parts : Array (Nat × Operand)} {fs : Array Field} {ti : TyI} {g : Bool} {out : List C} (ht : tyAt Z.T t=some ti) (hu : Z.P.underlying t=some (.struct fs))
  (hb : uHz Z.T st fs.toList parts.toList ti.z=some (g,out)) (hg : gate=true→g=true) : PureOk Z st (.build t parts) ty gate (.v (.agg out)):=by
 intro o E G a w ho _ hr hgt
 obtain ⟨i,zv,hi,hz,hzv,hall⟩:=TyOk.fields (Z.ty ht) hu
 obtain ⟨places,hp⟩:=MapFrom.mapM_some (f:=fun f=>(Z.P.info? f.type).map fun i=>(f.offset,i.size)) (l:=fs.toList) (fun f hf=>by
  obtain ⟨j,hj⟩:=hall f hf
  exact ⟨_,by rw [hj]; rfl⟩)
 obtain ⟨cells,h1,h2⟩:=uGt hr (place:=(places.toArray[·]?)) (fun k f tj hk htj=>by
  have := mapM_some_get hp k f hk
  obtain ⟨j,_,_,hj,_,hn,_⟩:=(Z.tyOk htj).info
  rw [hj] at this
  simp only [List.getElem?_toArray]
  rw [← this,← hn]; rfl) hb (hg hgt) (hzv.mono fun c v hcv=>CRep.ofConst (w:=w) (S:=G.S) hcv)
 refine ⟨.agg cells,⟨cells.toList,by simp,h2⟩,?_⟩
 have hbuilt : Z.P.built t (parts.map fun (i,x)=>(i,a.eval x)).toList=some cells:=by
  unfold Program.built
  simp only [hi,hu,hz,hp]
  rw [Array.toList_map]
  exact h1
 simp only [execOp,ho]
 simp [run_build w t _ cells hbuilt]
theorem uKI {x y : Operand} {ts : Array TypeId} {gx gy : Bool} {k k' : IntKind} {m n : Int} (hx : lk Z.T st ty x=some (gx, .v (.c (.i k m)))) (hy : lk Z.T st ty y=some (gy, .v (.c (.i k' n))))
  (hgx : gate=true→gx=true) (hgy : gate=true→gy=true) : PureOk Z st (.call { callee:=.builtin .max,args:=#[x,y],argTypes:=ts }) ty gate (.v (.c (.i k (max m n)))):=by
 intro o E G a w ho _ hr hgt
 have h1:=XRep.int (uA7 hr hx (hgx hgt))
 have h2:=XRep.int (uA7 hr hy (hgy hgt))
 refine ⟨.int k (max m n),CRep.i _ _,?_⟩
 have : (if n > m then n else m)=max m n:=by split <;> omega
 simp [execOp,ho,h1,h2,Go.resolve,invoke,builtin,run_max_int2,← this]
theorem uNi {x y : Operand} {ts : Array TypeId} {gx gy : Bool} {k k' : IntKind} {m n : Int} (hx : lk Z.T st ty x=some (gx, .v (.c (.i k m)))) (hy : lk Z.T st ty y=some (gy, .v (.c (.i k' n))))
  (hgx : gate=true→gx=true) (hgy : gate=true→gy=true) : PureOk Z st (.call { callee:=.builtin .min,args:=#[x,y],argTypes:=ts }) ty gate (.v (.c (.i k (min m n)))):=by
 intro o E G a w ho _ hr hgt
 have h1:=XRep.int (uA7 hr hx (hgx hgt))
 have h2:=XRep.int (uA7 hr hy (hgy hgt))
 refine ⟨.int k (min m n),CRep.i _ _,?_⟩
 have : (if n < m then n else m)=min m n:=by split <;> omega
 simp [execOp,ho,h1,h2,Go.resolve,invoke,builtin,run_min_int2,← this]
theorem uBy {op : Op} {sz : Nat} (hop : op = .move (.const (.slice none 0 0))∨op = .assign (.const (.slice none 0 0))) (_hx : lk Z.T st ty (.const (.slice none 0 0))=some (true, .v (.c (.sl sz [])))) (hN : Nat.ble (d + 1) N=true) :
  Does Z N st (some d) op ty ((st.put d (true, .v (.c (.sl sz [])))).addOwn (.t d) sz):=by
 intro o E G a w hd ho hty hr hE K Q hK
 have hdN : d < E.nt:=by rw [hE.nt]; exact Nat.le_of_ble_eq_true hN
 unfold Oper.wp
 have : (execOp a.eval o).run Z.P w = .ok (.value (.slice none 0 0)) w:=by
  rcases hop with rfl | rfl <;> simp [execOp,ho,uFg]
 rw [this,Oper.upon_value,hd]
 have hp : Rel E G (st.put d (true, .v (.c (.sl sz [])))) (a.put (some d) (.slice none 0 0)) w:=hr.put hdN (fun _=>CRep.nil sz) (fun hf=>by simp at hf)
 refine hK G _ _ (hp.addOwn (v:=.slice none 0 0) ?_ (.inl rfl))
 show (a.put (some d) (.slice none 0 0)).tmps[d]? = _
 rw [uBH (by rw [hr.nt]; exact hdN),if_pos rfl]
theorem uHS {t : TypeId} {x : Operand} {n : Nm} {off : Nat} {cs : List C} {ti : TyI} {sz : Nat} (hx : lk Z.T st t x=some (true, .v (.ptr n off))) (hv : lk Z.T st t (.const (.slice none 0 0))=some (true, .v (.c (.sl sz []))))
  (hb : st.box n=some cs) (ht : tyAt Z.T t=some ti) (hn : ti.n=1) (hl : Nat.ble (off + 1) cs.length=true) (hnb : (!n.isBd || !Nat.beq off 0)=true:=by rfl) :
  Does Z N st none (.store t x (.const (.slice none 0 0))) ty ((st.store n (uBG cs off [.sl sz []]) off 1).addOwn (.b n off) sz):=by
 intro o E G a w hd ho _ hr hE K Q hK
 have h1 : a.eval x=_:=uA7 hr hx rfl
 have h2 : All2 (CRep w G.S) [.sl sz []] (a.eval (.const (.slice none 0 0))).cells.toList:=(show YRep w G (.c (.sl sz [])) _ from uA7 hr hv rfl).cells rfl
 have hl':=Nat.le_of_ble_eq_true hl
 have hrun:=uCO hr hb (ds:=[.sl sz []]) hl' ht (by simp [hn]) h2
 unfold Oper.wp
 have : (execOp a.eval o).run Z.P w = .ok .skip (w.setCells (G.A n).1 ((G.A n).2 + off) (a.eval (.const (.slice none 0 0))).cells.toList):=by
  simp [execOp,ho,h1,hrun]
 rw [this,Oper.upon_skip,hd]
 have hst:=hr.storeAll [.sl sz []] _ hb hl' h2 (nbOf hnb)
 refine hK G undef _ (Rel.putNone (hst.addOwn (v:=.slice none 0 0) ?_ (.inl rfl)) undef)
 obtain ⟨q1,_,u,q3,q4⟩:=hst.bx n (uBG cs off [.sl sz []]) (by rw [St.store_box,if_pos rfl]) off (.sl sz []) (uHI (by omega))
 refine ⟨?_,q1⟩
 have hcell:=hr.bx n cs hb off _ (List.getElem?_eq_getElem (by omega))
 obtain ⟨_,_,u0,hu0,_⟩:=hcell
 have h1c : (a.eval (.const (.slice none 0 0))).cells = #[.slice none 0 0]:=rfl
 rw [h1c]
 simp only [World.setCells]
 exact World.cell?_setCell_same _ _ _ hu0
theorem uG9 {rest : List Oper} {fo : Operand} {args : Array Operand} {ts : Array TypeId} {f : FuncId} {xs cxs : List X} {res : X} (ps : List Pass)
  (ho : o.op = .call { callee:=.value fo,args:=args,argTypes:=ts }) (hg : uBg ops st o=some true)
  (hf : lk Z.T st 0 fo=some (true, .fn f [])) (ha : uCo Z.T st ts.toList args.toList=some (true,xs)) (htr : cxs.map (X.tr ps)=xs) (htrok : uE9 ps cxs=true)
  (hps : ∀ p ∈ ps,st.box p.n=some p.cs) (hnd : uCw st ps=true)
  (hs : Ctr Z f cxs (ps.map Pass.old) res none (ps.map Pass.ds)) (hc : res.clean=true) (hd : o.dst=some d) (hN : Nat.ble (d + 1) N=true)
  (h : AL Z N ops rest K ((st.stores ps).put d (true,res))) : AL Z N ops (o :: rest) K st :=
 uDW (uId ho hg hf ha htr htrok hps hnd hs hc (dst:=some d) hd ⟨hN,rfl⟩) h
end
end Go.Abs
namespace Go.Abs
variable {Z : Pg}
theorem gL {a b : Bool} (h : (a && b)=true) : a=true:=by cases a <;> simp_all
theorem gA {a b : Bool} (h : a=true) (k : b=true) : (a && b)=true:=by subst h; subst k; rfl
theorem gP {g x b : Bool} (h : g=true) (hi : x=b) : (g && (x == b))=true:=by subst h; subst hi; simp
theorem uN8 {N : Nat} {x y : Code} {Q : Exit→St→Prop} {st : St} (S : St) (P : Prop) (h1 : AWP Z N x (uIl (fun s=>P∧Sub S s) Q) st) (h2 : P→AWP Z N y Q S) : AWP Z N (x.seq y) Q st :=
 uAe (uMQ h1 fun e s h=>by
  cases e with
  | normal=>exact uAk h.2 (h2 h.1)
  | _=>exact h)
section
variable {st : St} {ty : TypeId} {gate : Bool}
theorem uAF {x i : Operand} {t : TypeId} {g gi : Bool} {l : List UInt8} {k : IntKind} {n : Int} {j : Nat} (h : lk Z.T st ty x=some (g, .v (.c (.s l)))) (hi : lk Z.T st ty i=some (gi, .v (.c (.i k n))))
  (hg : gate=true→g=true) (hgi : gate=true→gi=true) (hu : Z.P.underlying t=some .string) (hn : n=(j : Int)) (hj : gate=true→j < l.length) : PureOk Z st (.index t x i) ty gate (.v (.c (.i .u8 ((l.getD j 0).toNat : Int)))):=by
 intro o E G a w ho hty hr hgt
 have hlt:=hj hgt
 have hget : l[j]? = some (l.getD j 0):=by rw [List.getD_eq_getElem?_getD,List.getElem?_eq_getElem hlt]; rfl
 exact uKw h hi hg hgi hu hn hget o E G a w ho hty hr hgt
end
end Go.Abs
namespace Go.Abs
def uNd (R : TypeId→List C→Prop) : List Field→List C→Prop
 | [],cs=>cs=[]
 | f :: r,cs=>∃ a b,cs=a++b∧R f.type a∧uNd R r b
def hasN (R : List C→Prop) : Nat→List C→Prop
 | 0,cs=>cs=[]
 | n + 1,cs=>∃ a b,cs=a++b∧R a∧hasN R n b
def uC8 (P : Program) : Nat→TypeId→List C→Prop
 | 0,_,_=>False
 | n + 1,t,cs=>match P.underlying t with
  | some .bool=>∃ x,cs=[.b x]
  | some (.int k)=>∃ m,cs=[.i k m]∧(Lit.int k m).wf=true
  | some .string=>∃ l,cs=[.s l]
  | some (.slice e)=>∃ es,cs=[.sl (P.cellsOf e) es] ∧ ∀ row,row ∈ es→uC8 P n e row
  | some (.struct fs)=>uNd (uC8 P n) fs.toList cs
  | some (.array m e)=>hasN (uC8 P n e) m cs
  | _=>False
def uGq (P : Program) (L : List TypeId) : List Field→Nat→Option Nat
 | [],off=>some off
 | f :: r,off=>if f.offset=off∧f.type ∈ L then uGq P L r (off + P.cellsOf f.type) else none
def uI8 (P : Program) (L : List TypeId) : Bool:=L.all fun t=>match P.underlying t with
 | some .bool | some (.int _) | some .string=>P.cellsOf t == 1
 | some (.slice e)=>P.cellsOf t == 1 && decide (e ∈ L) && P.cellsOf e != 0
 | some (.struct fs)=>uGq P L fs.toList 0 == some (P.cellsOf t)
 | some (.array n e)=>decide (e ∈ L) && P.cellsOf t == n * P.cellsOf e
 | _=>false
theorem uJr {P : Program} {L : List TypeId} : ∀ {fs : List Field} {off tot : Nat},uGq P L fs off=some tot→off≤tot
 | [],off,tot,h=>by simp [uGq] at h; omega
 | f :: r,off,tot,h=>by
  simp only [uGq] at h
  split at h
  ·have := uJr h; omega
  ·simp at h
theorem uGM {α : Type} {R : Nat→α→Prop} : ∀ (n : Nat),(∀ j,j < n → ∃ v,R j v) → ∃ vs : List α,vs.length=n ∧ ∀ (j : Nat) (v : α),vs[j]? = some v→R j v
 | 0,_=>⟨[],rfl,fun j v h=>by simp at h⟩
 | n + 1,h=>by
  obtain ⟨vs,h1,h2⟩:=uGM n fun j hj=>h j (by omega)
  obtain ⟨v,hv⟩:=h n (by omega)
  refine ⟨vs++[v],by simp [h1],fun j u hu=>?_⟩
  rw [List.getElem?_append] at hu
  split at hu
  ·exact h2 j u hu
  ·have : j=n:=by
    have := (List.getElem?_eq_some_iff.1 hu).1
    simp at this; omega
   subst this
   simp [h1] at hu
   subst hu
   exact hv
def topG (w : World) : Gh:={ W:=fun b _=>if b < w.heap.size then .imm else .none,A:=fun _=>(0,0) }
theorem uOK {w : World} {b o : Nat} (h : b < w.heap.size) : (topG w).S b o:=by
 show (if b < w.heap.size then Who.imm else Who.none)=_
 rw [if_pos h]
section
variable {H : Type} {enc : TypeId × Value→H} {P : Program} {L : List TypeId} {w : World}
theorem uIO {α β : Type} {f : α→Option β} {l : List α} {r : List β} (h : l.mapM f=some r) {i : Nat} {x : α} (hx : l[i]? = some x) : ∃ y,f x=some y∧r[i]? = some y:=by
 have h1:=Go.mapM_some_get h i x hx
 have h2:=Go.mapM_some_length h
 have hi : i < r.length:=by rw [h2]; exact (List.getElem?_eq_some_iff.1 hx).1
 exact ⟨r[i],by rw [h1,List.getElem?_eq_getElem hi],List.getElem?_eq_getElem hi⟩
theorem uKe {a : Addr} {n : Nat} {vs : List Value} (h : w.cells? 0 a n=some vs) : vs.length=n ∧ ∀ (j : Nat) (v : Value),vs[j]? = some v→w.cell? (a.add j)=some v:=by
 simp only [World.cells?,Nat.zero_le,if_true] at h
 have hl:=Go.mapM_some_length h
 simp only [List.length_range] at hl
 refine ⟨hl,fun j v hv=>?_⟩
 have hj : j < n:=by rw [← hl]; exact (List.getElem?_eq_some_iff.1 hv).1
 have := Go.mapM_some_get h j j (by simp [hj])
 rw [this]; exact hv
theorem uOm (b o x y : Nat) : ((⟨b,o,none⟩ : Addr).add x).add y=⟨b,o + x + y,none⟩:=by
 rw [uCp,uCp]
theorem CRep.mk_any {S : Nat→Nat→Prop} {sz : Nat} {es : List (List C)} {a : Addr} {len cap : Nat} (hl : es.length=len) (hc : len≤cap) (hm : len≤9223372036854775807) (hs : cap≠0→a.spot=none)
  (h : ∀ (i : Nat) (row : List C),es[i]? = some row→row.length=sz∧RowAt w S a.block (a.off + i * sz) row) : CRep w S (.sl sz es) (.slice (some a) len cap):=by
 by_cases h0 : cap=0
 ·subst h0
  have : len=0:=by omega
  subst this
  have : es=[]:=List.eq_nil_of_length_eq_zero hl
  subst this
  exact .emp sz _
 ·obtain ⟨b,o,sp⟩:=a
  have := hs h0
  simp only at this
  subst this
  exact CRep.mk_sl hl hc hm h
theorem uKg (hL : uI8 P L=true) : ∀ (fuel : Nat) (t : TypeId) (vs : List Value) (d : DataW H) (p : List MemPlace),t ∈ L →
  DataW.trod enc P w 0 (fun _=>true) true fuel t vs=some (d,p) → ∃ cs,uC8 P fuel t cs∧All2 (CRep w (topG w).S) cs vs∧cs.length=P.cellsOf t
 | 0,t,vs,d,p,_,h=>by simp [DataW.trod] at h
 | fuel + 1,t,vs,d,p,ht,h=>by
  have IH:=uKg hL fuel
  have hc:=List.all_eq_true.1 hL t ht
  unfold DataW.trod at h
  split at h
  ·rename_i b hu
   simp only [hu,beq_iff_eq] at hc
   exact ⟨[.b b],by simp only [uC8,hu]; exact ⟨_,rfl⟩,⟨.b b,trivial⟩,hc.symm⟩
  ·rename_i k k' n hu
   simp only [hu,beq_iff_eq] at hc
   split at h
   ·rename_i hk
    obtain ⟨rfl,hwf⟩:=hk
    exact ⟨[.i k' n],by simp only [uC8,hu]; exact ⟨n,rfl,hwf⟩,⟨.i _ n,trivial⟩,hc.symm⟩
   ·simp at h
  ·rename_i hu; simp only [hu] at hc; simp at hc
  ·rename_i s hu
   simp only [hu,beq_iff_eq] at hc
   split at h
   ·rename_i hs
    have hs' : s.data.toList.length≤9223372036854775807:=by
     have h1 : s.data.toList.length=s.size:=rfl
     have h2 : maxLen=9223372036854775807:=by decide
     omega
    refine ⟨[.s s.data.toList],by simp only [uC8,hu]; exact ⟨_,rfl⟩,⟨?_,trivial⟩,hc.symm⟩
    have := CRep.s (w := w) (S := (topG w).S) s.data.toList hs'
    rwa [uLJ] at this
   ·simp at h
  ·rename_i hu; simp only [hu] at hc; simp at hc
  ·rename_i hu; simp only [hu] at hc; simp at hc
  ·rename_i e hu
   simp only [hu,Bool.and_eq_true,beq_iff_eq] at hc
   exact ⟨[.sl (P.cellsOf e) []],by simp [uC8,hu],⟨.nil _,trivial⟩,hc.1.1.symm⟩
  ·rename_i e a len cap hu
   simp only [hu,Bool.and_eq_true,beq_iff_eq,decide_eq_true_eq,bne_iff_ne] at hc
   obtain ⟨⟨hc1,heL⟩,hsz0⟩:=hc
   simp only at h
   split at h
   ·rename_i hb
    obtain ⟨_,hlc,hcm⟩:=hb
    have hmax : len≤9223372036854775807:=by
     have h2 : maxLen=9223372036854775807:=by decide
     omega
    simp only [Option.bind_eq_some_iff,if_true,Option.map_eq_some_iff] at h
    obtain ⟨elems,h1,rest,h2,_⟩:=h
    have hel : ∀ i,i < cap → ∃ ci y,w.cells? 0 (a.add (i * P.cellsOf e)) (P.cellsOf e)=some ci∧DataW.trod enc P w 0 (fun _=>true) true fuel e ci=some y:=by
     intro i hi
     by_cases hil : i < len
     ·obtain ⟨y,hy,_⟩:=uIO h1 (i:=i) (x:=i) (by simp [hil])
      simp only [Option.bind_eq_some_iff] at hy
      obtain ⟨ci,q1,q2⟩:=hy
      exact ⟨ci,y,q1,q2⟩
     ·obtain ⟨y,hy,_⟩:=uIO h2 (i:=i - len) (x:=i - len) (by simp [show i - len < cap - len by omega])
      rw [show len + (i - len)=i by omega] at hy
      simp only [Option.bind_eq_some_iff] at hy
      obtain ⟨ci,q1,q2⟩:=hy
      exact ⟨ci,y,q1,q2⟩
    have hspot : cap≠0→a.spot=none:=by
     intro h0
     obtain ⟨ci,y,q1,_⟩:=hel 0 (by omega)
     obtain ⟨q3,q4⟩:=uKe q1
     have hlt : 0 < ci.length:=by omega
     have := q4 0 _ (List.getElem?_eq_getElem hlt)
     simpa [Addr.add] using World.cell?_spot this
    obtain ⟨es,hesl,hes⟩:=uGM (R:=fun i row=>uC8 P fuel e row∧row.length=P.cellsOf e∧RowAt w (topG w).S a.block (a.off + i * P.cellsOf e) row) len (by
     intro i hi
     obtain ⟨ci,⟨y1,y2⟩,q1,q2⟩:=hel i (by omega)
     obtain ⟨row,r1,r2,r3⟩:=IH e ci y1 y2 heL q2
     refine ⟨row,r1,r3,fun j c hj=>?_⟩
     obtain ⟨v,hv,hrep⟩:=r2.get j c hj
     have hcell:=(uKe q1).2 j v hv
     have hsp:=hspot (by omega)
     obtain ⟨b,o,sp⟩:=a
     simp only at hsp
     subst hsp
     rw [uOm] at hcell
     exact ⟨uOK (World.block_lt_of_cell? w ⟨b,o + i * P.cellsOf e + j,none⟩ hcell),v,hcell,hrep⟩)
    refine ⟨[.sl (P.cellsOf e) es],?_,⟨?_,trivial⟩,hc1.symm⟩
    ·simp only [uC8,hu]
     refine ⟨es,rfl,fun row hr=>?_⟩
     obtain ⟨i,hi⟩:=List.getElem?_of_mem hr
     exact (hes i row hi).1
    ·exact CRep.mk_any hesl hlc hmax hspot fun i row hi=>(hes i row hi).2
   ·simp at h
  ·rename_i vs _ _ fs hu
   simp only [hu,beq_iff_eq] at hc
   split at h
   ·rename_i hlen
    simp only [Option.map_eq_some_iff] at h
    obtain ⟨xs,hxs,_⟩:=h
    have key : ∀ (fs : List Field) (off : Nat) (xs : List (DataW H × List MemPlace)),uGq P L fs off=some (P.cellsOf t) →
      (fs.mapM fun f=>DataW.trod enc P w 0 (fun _=>true) true fuel f.type ((vs.drop f.offset).take (P.cellsOf f.type)))=some xs →
      ∃ cs,uNd (uC8 P fuel) fs cs∧All2 (CRep w (topG w).S) cs (vs.drop off)∧cs.length=P.cellsOf t - off:=by
     intro fs
     induction fs with
     | nil =>
      intro off xs hf _
      simp only [uGq,Option.some.injEq] at hf
      refine ⟨[],rfl,?_,by simp; omega⟩
      rw [List.drop_eq_nil_of_le (by omega)]
      trivial
     | cons f r ih =>
      intro off xs hf hm
      simp only [uGq] at hf
      split at hf
      ·rename_i hfo
       obtain ⟨rfl,hfL⟩:=hfo
       simp only [List.mapM_cons,Option.bind_eq_bind,Option.bind_eq_some_iff] at hm
       obtain ⟨⟨y1,y2⟩,hy,ys,hys,_⟩:=hm
       obtain ⟨a,a1,a2,a3⟩:=IH _ _ _ _ hfL hy
       obtain ⟨b,b1,b2,b3⟩:=ih _ _ hf hys
       have hle:=uJr hf
       refine ⟨a++b,⟨a,b,rfl,a1,b1⟩,?_,by simp; omega⟩
       have := a2.append b2
       rwa [← List.drop_drop,List.take_append_drop] at this
      ·simp at hf
    obtain ⟨cs,c1,c2,c3⟩:=key fs.toList 0 xs hc hxs
    exact ⟨cs,by simp only [uC8,hu]; exact c1,by simpa using c2,by simpa using c3⟩
   ·simp at h
  ·rename_i vs _ _ n e hu
   simp only [hu,Bool.and_eq_true,beq_iff_eq,decide_eq_true_eq] at hc
   obtain ⟨heL,hct⟩:=hc
   split at h
   ·rename_i hlen
    simp only [Option.map_eq_some_iff] at h
    obtain ⟨xs,hxs,_⟩:=h
    have key : ∀ (m k : Nat),k + m=n → ∃ cs,hasN (uC8 P fuel e) m cs∧All2 (CRep w (topG w).S) cs (vs.drop (k * P.cellsOf e))∧cs.length=m * P.cellsOf e:=by
     intro m
     induction m with
     | zero =>
      intro k hk
      refine ⟨[],rfl,?_,by simp⟩
      have : k=n:=by omega
      subst this
      rw [List.drop_eq_nil_of_le (by omega)]
      trivial
     | succ m ih =>
      intro k hk
      obtain ⟨⟨y1,y2⟩,hy,_⟩:=uIO hxs (i:=k) (x:=k) (by simp [show k < n by omega])
      obtain ⟨a,a1,a2,a3⟩:=IH _ _ _ _ heL hy
      obtain ⟨b,b1,b2,b3⟩:=ih (k + 1) (by omega)
      refine ⟨a++b,⟨a,b,rfl,a1,b1⟩,?_,by simp [a3,b3,Nat.succ_mul]; omega⟩
      have := a2.append b2
      rwa [Nat.succ_mul,← List.drop_drop,List.take_append_drop] at this
    obtain ⟨cs,c1,c2,c3⟩:=key n 0 (by omega)
    exact ⟨cs,by simp only [uC8,hu]; exact c1,by simpa using c2,by rw [c3,hct]⟩
   ·simp at h
  all_goals first | (rename_i hu; simp only [hu] at hc; simp at hc) | (simp at h) | trace_state
end
end Go.Abs
namespace Go.Abs
open Go.RowKit (Below)
section
variable {H : Type} {enc : TypeId × Value→H} {P : Program} {L : List TypeId} {w : World}
def uLl : TypeDesc→Bool
 | .bool | .int _ | .string | .slice _=>true
 | _=>false
theorem uI0 {t : TypeId} {v : Value} {r : Reach} {base : Nat} {d : TypeDesc} (hd : P.underlying t=some d) (hp : uLl d=true) (h : Value.okWide P w r base t v) : v.oneCell'=true:=by
 cases d <;> simp [uLl] at hp <;> simp only [Value.okWide,Cell.okWide,Cell.ok,hd] at h <;> cases v <;> first | rfl | (simp at h)
theorem uOj (hL : uI8 P L=true) {t : TypeId} {v : Value} {base : Nat} {d : TypeDesc} {x : DataW H} {p : List MemPlace} (ht : t ∈ L) (hd : P.underlying t=some d) (hp : uLl d=true) (hok : Value.okWide P w .any base t v)
  (h : DataW.Trod enc P w 0 (fun _=>true) true t v x p) : ∃ n c,uC8 P n t [c]∧XRep w (topG w) (.v (.c c)) v:=by
 obtain ⟨n,hn⟩:=h
 rw [uGe (uI0 hd hp hok)] at hn
 obtain ⟨cs,h1,h2,_⟩:=uKg hL n t _ _ _ ht hn
 match cs,h2 with
 | [c],h2=>exact ⟨n,c,h1,h2.1⟩
end
theorem uL5 {Z : Pg} {f : FuncId} {xs : List X} {res : Value} {x : X} (hres : ∀ (w : World) (G : Gh) (v : Value),XRep w G x v→v=res) (hc : Ctr Z f xs [] x none []) {W : World} {vs : List Value} (h : All2 (XRep W (topG W)) xs vs) (hg : ∀ g ∈ Z.gv,g.1 < W.heap.size∧g.2 W.heap[g.1]?) :
  Calls Z.P f vs.toArray W fun e w'=>e = .returned res∧Below W.heap.size W w':=by
 have hno : ∀ b o,¬ ∃ n,(topG W).W b o = .box n:=by
  intro b o ⟨n,hn⟩
  simp only [topG] at hn
  split at hn <;> simp at hn
 have hno2 : ∀ b o p,(topG W).W b o ≠ .own p:=by
  intro b o p hp
  simp only [topG] at hp
  split at hp <;> simp at hp
 refine (hc.2 W (topG W) vs h (fun b o hb=>?_) (fun j cs hj=>by simp at hj) (fun b o n hn=>absurd ⟨n,hn⟩ (hno b o)) (fun b o p hp=>?_) (fun g q=>⟨(hg g q).1,(hg g q).2,fun o n hn=>hno g.1 o ⟨n,hn⟩,hno2 g.1⟩)).mono ?_
 ·simp only [topG] at hb
  split at hb
  ·assumption
  ·simp at hb
 ·simp only [topG] at hp
  split at hp <;> simp at hp
 ·rintro e w' ⟨v,G',rfl,hf,_,_,_,hv,_⟩
  refine ⟨by rw [hres _ _ _ hv],hf.os,hf.tape,hf.output,hf.size,fun k hk=>hf.block k hk fun o ho=>hno k o ho⟩
theorem uLh {Z : Pg} {f : FuncId} {xs : List X} (hc : Ctr Z f xs [] (.v (.c (.b true))) none []) {W : World} {vs : List Value} (h : All2 (XRep W (topG W)) xs vs) (hg : ∀ g ∈ Z.gv,g.1 < W.heap.size∧g.2 W.heap[g.1]? := by intro g hg; exact absurd hg (List.not_mem_nil)) :
  Calls Z.P f vs.toArray W fun e w'=>e = .returned (.bool true)∧Below W.heap.size W w' :=
 uL5 (fun _ _ _ h=>XRep.bool h) hc h hg
end Go.Abs
namespace Go.Abs
variable {Z : Pg} {st : St} {ty : TypeId} {gate : Bool}
theorem uAW {s0 : St} {N : Nat} {ops : Array Oper} {B : List Nat} {k : Nat} {rest : List Oper} {acc : List Lnk} {o : Oper} {Q : St→Prop} {d : Nat} {g gf : Bool} {fo : Operand} {args : Array Operand} {ts : Array TypeId} {f : FuncId} {caps : List Y} {xs : List X} {res : X} (hk : ops[k]? = some o)
  (ho : o.op = .call { callee:=.value fo,args:=args,argTypes:=ts }) (hg : uBg ops (rs (foot ops o [] []) st) o=some gate) (hd : o.dst=some d) (hN : Nat.ble (d + 1) N=true)
  (hf : lk Z.T (rs (foot ops o [] []) st) 0 fo=some (gf, .fn f caps)) (ha : uCo Z.T (rs (foot ops o [] []) st) ts.toList args.toList=some (g,xs)) (hgf : gate=true→gf=true) (hga : gate=true→g=true)
  (hs : Ctr Z f (xs++caps.map .v) [] res none []) (hc : res.clean=true)
  (hr : Draw Z N s0 ops B (k + 1) rest (acc++[(k,{ d:=some (d,gate,res),drop:=[.t d] },foot ops o [] [])]) (ap { d:=some (d,gate,res),drop:=[.t d] } st) Q) :
  Draw Z N s0 ops B k (o :: rest) acc st Q:=uCQ hk (by
   have h:=uN3 (R:=foot ops o [] []) ho hg hd hN hf ha hgf hga hs hc
   rw [show cond gate (Option.map (fun sz=>(Pl.t d,sz)) none) none=none from by cases gate <;> rfl] at h
   exact h) hr
end Go.Abs
namespace Go.Abs
variable {Z : Pg}
def St.boxes2 (st : St) (n' n : Nm) (cs : List C) : St:={ st with bx:=(n',cs) :: (n,[]) :: st.bx }
theorem St.boxes2_box (st : St) (n' n : Nm) (cs : List C) (m : Nm) : (st.boxes2 n' n cs).box m=if n'=m then some cs else if n=m then some [] else st.box m:=by
 show getB ((n',cs) :: (n,[]) :: st.bx) m=_
 rw [uBb,uBb]; rfl
theorem Rel.intoBox {E : Env} {G : Gh} {st : St} {a : Act} {w w1 : World} (h : Rel E G st a w) {n' n : Nm} {p : Pl} {blk L : Nat} {cs : List C} (hloc : ∃ j,n' = .l j) (hnl : ∃ j,n = .l j)
  (hfr : FreshG st (n',true)) (hfo : FreshG st (n,false)) (hF : ∀ o,o < L→G.W blk o = .box n∨G.W blk o = .own p)
  (h1 : w1.os=w.os) (h2 : w1.tape=w.tape) (h3 : w1.output=w.output) (h4 : w1.heap.size=w.heap.size) (h5 : ∀ b,(∀ o,¬ (b=blk∧o < L∧G.W b o = .own p))→w1.heap[b]? = w.heap[b]?)
  (h6 : ∀ b o,¬ (b=blk∧o < L∧G.W b o = .own p)→w1.cell? ⟨b,o,none⟩=w.cell? ⟨b,o,none⟩) (h8 : ∀ b,uBF w1 b=uBF w b) (h9 : ∀ b,w1.shape? b=w.shape? b) (hold : E.D=0)
  (hcs : ∀ (j : Nat) (c : C),cs[j]? = some c→j < L∧w.frozen? ⟨blk,j,none⟩=false ∧ ∃ v,w1.cell? ⟨blk,j,none⟩=some v∧CRep w G.S c v) :
  Rel E { W:=fun b o=>if b=blk∧o < L then .box n' else G.W b o,A:=fun m=>if m=n' then (blk,0) else G.A m } ((st.unown p).boxes2 n' n cs) a w1:=by
 have hS : ∀ b o,G.S b o→Gh.S { W:=fun b o=>if b=blk∧o < L then .box n' else G.W b o,A:=fun m=>if m=n' then (blk,0) else G.A m } b o:=fun b o hs=>by
  unfold Gh.S at *
  dsimp only
  rw [if_neg (by rintro ⟨rfl,ho⟩; rcases hF o ho with e | e <;> rw [e] at hs <;> simp at hs)]
  exact hs
 have hcell : ∀ b o,G.W b o ≠ .own p→w1.cell? ⟨b,o,none⟩=w.cell? ⟨b,o,none⟩:=fun b o hne=>h6 b o fun hh=>hne hh.2.2
 have hc : ∀ b o,G.S b o→w1.cell? ⟨b,o,none⟩=w.cell? ⟨b,o,none⟩:=fun b o hs=>hcell b o (by unfold Gh.S at hs; rw [hs]; simp)
 constructor
 ·exact h.df
 ·intro k g x hk
  obtain ⟨u,hu,q1,q2⟩:=h.tm k g x hk
  refine ⟨u,hu,fun hg=>(q1 hg).mono hS hc (fun m hm=>?_),q2⟩
  have : m≠n' := fun e=>by subst e; have := hfr.1 rfl k g x hk; rw [hm] at this; simp at this
  simp [this]
 ·intro m ds hm j c hj
  rw [St.boxes2_box] at hm
  split at hm
  ·rename_i he; subst he
   simp only [Option.some.injEq] at hm; subst hm
   obtain ⟨q1,q2,v,q3,q4⟩:=hcs j c hj
   dsimp only
   rw [if_pos rfl]
   dsimp only
   rw [Nat.zero_add,if_pos ⟨rfl,q1⟩]
   exact ⟨rfl,by rw [uCb (h8 _)]; exact q2,v,q3,q4.mono hS hc⟩
  ·rename_i hne
   split at hm
   ·simp only [Option.some.injEq] at hm; subst hm; simp at hj
   ·rename_i hne2
    obtain ⟨q1,q2,u,q3,q4⟩:=h.bx m ds hm j c hj
    have hne' : ¬ m=n':=fun e=>hne e.symm
    dsimp only
    rw [if_neg hne']
    refine ⟨?_,by rw [uCb (h8 _)]; exact q2,u,by rw [hcell _ _ (by rw [q1]; simp)]; exact q3,q4.mono hS hc⟩
    rw [if_neg]
    ·exact q1
    ·rintro ⟨e1,ho⟩
     rcases hF _ ho with e | e <;> rw [← e1,q1] at e
     ·injection e with e; exact hne2 e.symm
     ·simp at e
 ·intro r s hr
  have hr2 : (st.unown p).own r=some s:=hr
  rw [St.unown_own] at hr2
  split at hr2
  ·simp at hr2
  ·rename_i hrp
   obtain ⟨u,hu,ho⟩:=h.ow r s hr2
   refine ⟨u,?_,?_⟩
   ·cases r with
    | t k=>exact hu
    | b m off =>
     have hm1 : ¬ m=n':=fun e=>by
      have := hfr.2 _ _ hr2; subst e; simp [Pl.inBox,Nm.beq_self] at this
     have hm2 : ¬ m=n:=fun e=>by
      have := hfo.2 _ _ hr2; subst e; simp [Pl.inBox,Nm.beq_self] at this
     refine ⟨?_,?_⟩
     ·dsimp only; rw [if_neg hm1,hcell _ _ (by rw [hu.2]; simp)]; exact hu.1
     ·dsimp only
      rw [if_neg hm1,if_neg]
      ·exact hu.2
      ·rintro ⟨e1,ho'⟩
       rcases hF _ ho' with e | e <;> rw [← e1,hu.2] at e
       ·injection e with e; exact hm2 e
       ·simp at e
   ·rcases ho with ho | ⟨b2,len,cap,e,q1,q2,q3,q4⟩
    ·exact .inl ho
    ·refine .inr ⟨b2,len,cap,e,q1,q2,⟨by rw [h9]; exact q3.1,by rw [h8]; exact q3.2⟩,fun o ho1 ho2=>?_⟩
     obtain ⟨q5,q6⟩:=q4 o ho1 ho2
     refine ⟨?_,by rw [uCb (h8 _)]; exact q6⟩
     dsimp only
     rw [if_neg]
     ·exact q5
     ·rintro ⟨e1,ho'⟩
      rcases hF _ ho' with e | e <;> rw [← e1,q5] at e
      ·simp at e
      ·injection e with e; exact hrp e
 ·intro b o hb
  rw [h4]
  dsimp only at hb
  split at hb
  ·rename_i hf
   obtain ⟨rfl,ho⟩:=hf
   refine h.wf b o ?_
   rcases hF o ho with e | e <;> rw [e] <;> simp
  ·exact h.wf b o hb
 ·intro b o m hb hn
  dsimp only at hn
  split at hn
  ·rename_i hf
   obtain ⟨rfl,ho⟩:=hf
   rcases hF o ho with e | e
   ·exact h.olB b o _ hb e
   ·exact .inr (h.olO b o _ hb e)
  ·exact h.olB b o m hb hn
 ·intro b o q hb hn
  dsimp only at hn
  split at hn
  ·simp at hn
  ·exact h.olO b o q hb hn
 ·exact h.nt
 ·intro j
  dsimp only
  rw [if_neg (by obtain ⟨m',rfl⟩:=hloc; simp)]
  exact h.oA j
 ·intro b o hi
  exact hS b o (h.im b o hi)
 ·intro b o hb hi
  dsimp only at hi
  split at hi
  ·simp at hi
  ·exact h.im' b o hb hi
 ·refine h.fr.trans ⟨h1,h2,h3,by rw [h4]; exact Nat.le_refl _,?_,?_,fun b _=>h8 _,fun b _=>h9 _⟩
  ·intro b hb hM
   refine h5 b fun o hf=>hM o (.inr ?_)
   exact h.olO b o p hb hf.2.2
  ·intro b o hb hM
   refine h6 b o fun hf=>hM (.inr ?_)
   exact h.olO b o p hb hf.2.2
 ·exact h.hB
 ·intro b o hb
  dsimp only
  split
  ·rename_i hf
   obtain ⟨rfl,ho⟩:=hf
   exfalso
   rcases hF o ho with e | e
   ·obtain ⟨m,rfl⟩:=hnl
    obtain ⟨j,hj⟩:=(h.lo b o hb).1 _ e
    simp at hj
   ·exact (h.lo b o hb).2 (by rw [E.C_new hold]; exact hb) _ e
  ·exact h.lo b o hb
 ·intro t k ds hm hne
  obtain ⟨m',rfl⟩:=hloc
  obtain ⟨m,rfl⟩:=hnl
  rw [St.boxes2_box,if_neg (by simp),if_neg (by simp)] at hm
  obtain ⟨q1,q2,x,q3,q4⟩:=h.bd t k ds hm hne
  obtain ⟨c0,hc0⟩ : ∃ c0,ds[0]? = some c0:=by
   cases ds with
   | nil=>exact absurd rfl hne
   | cons c0 r=>exact ⟨c0,rfl⟩
  obtain ⟨r1,_⟩:=h.bx _ ds hm 0 c0 hc0
  rw [q1] at r1
  dsimp only
  rw [if_neg (by simp),h9,hcell _ _ (by rw [r1]; simp)]
  exact ⟨q1,q2,x,q3,q4⟩
 ·intro x hx
  obtain ⟨q1,q2,q3⟩:=h.mp x hx
  have hne : ∀ o,¬ (x.1=blk∧o < L):=fun o ⟨e,ho⟩=>by
   rcases hF o ho with q | q
   ·exact (q3 o).1 n (by rw [e]; exact q)
   ·exact (q3 o).2 p (by rw [e]; exact q)
  refine ⟨q1.of_same (h5 _ fun o hh=>hne o ⟨hh.1,hh.2.1⟩),q2,fun o=>?_⟩
  dsimp only
  rw [if_neg (hne o)]
  exact q3 o
theorem Rel.emptyBox {E : Env} {G : Gh} {st : St} {a : Act} {w : World} (h : Rel E G st a w) (n : Nm) : Rel E G { st with bx:=(n,[]) :: st.bx } a w where
 df:=h.df
 tm:=h.tm
 bx:=by
  intro m cs hm
  have : St.box { st with bx:=(n,[]) :: st.bx } m=if n=m then some [] else st.box m:=uBb _ _ _ _
  rw [this] at hm
  split at hm
  ·simp only [Option.some.injEq] at hm; subst hm; intro j c hj; simp at hj
  ·exact h.bx m cs hm
 ow:=h.ow
 wf:=h.wf
 olB:=h.olB
 olO:=h.olO
 nt:=h.nt
 oA:=h.oA
 im:=h.im
 im':=h.im'
 fr:=h.fr
 hB:=h.hB
 lo:=h.lo
 bd:=by
  intro t k ds hm hne
  have hm2 : getB ((n,[]) :: st.bx) (.bd t k)=some ds:=hm
  rw [uBb] at hm2
  split at hm2
  ·simp only [Option.some.injEq] at hm2; exact absurd hm2.symm hne
  ·exact h.bd t k ds hm2 hne
 mp:=h.mp
theorem Rel.newMs {E : Env} {G : Gh} {st : St} {a : Act} {w : World} (h : Rel E G st a w) (p : Pl) {j' : Nat} (hfr : FreshG st (.l j',true)) {cells : Array Value} {e : TypeId} (hpe : ∀ t k o,p = .b (.bd t k) o→e=t % 4096) {sz len cap : Nat} {cs : List C} (hc : len≤cap) (hsz : cells.size=cap * sz) (hl : cs.length=len * sz)
  (hrep : ∀ (j : Nat) (c : C),cs[j]? = some c → ∃ v,cells[j]? = some v∧CRep w G.S c v) :
  ∃ G1,Rel E G1 ((st.unown p).addBox (.l j') cs) a (w.drew.alloc (.cells cells e))∧G1.A (.l j')=(w.heap.size,0)∧OwnAt E.C (w.drew.alloc (.cells cells e)) G1 p sz (.slice (some ⟨w.heap.size,0,none⟩) len cap):=by
 let f : Nat→Who:=fun o=>if o < len * sz then .box (.l j') else if o < cap * sz then .own p else .none
 have hfr' : Fr (fun _ _=>False) w.heap.size w (w.drew.alloc (.cells cells e)):=by
  have h1:=uDj w.drew (.cells cells e)
  exact ⟨h1.os,h1.tape,h1.output,h1.size,h1.block,h1.cell,h1.mark,h1.shape⟩
 refine ⟨(G.push w.heap.size f).name (.l j') (w.heap.size,0),?_,by simp [Gh.name],?_⟩
 ·refine Rel.addBox ?_ ?_ rfl
  ·refine ((h.sub (st.unown_sub p)).sub (St.drop_sub _ (.l j'))).grow hfr' ?_ (St.drop_same (st:=st.unown p) rfl (fun k g x hk=>hfr.1 rfl k g x hk) _ _) ?_
   ·intro b o hb
    have : ¬ b=w.heap.size:=by omega
    simp [Gh.name,Gh.push,this]
   ·intro b o hne
    simp only [Gh.name,Gh.push] at hne
    split at hne
    ·rename_i hb; subst hb; simp
    ·have := h.wf b o hne; simp; omega
  ·intro j c hj
   have hjl : j < len * sz:=by rw [← hl]; exact (List.getElem?_eq_some_iff.1 hj).1
   obtain ⟨v,hv',hr⟩:=hrep j c hj
   refine ⟨by simp [Gh.name,Gh.push,f,hjl],by simp only [Gh.name,if_true]; exact World.frozen?_alloc_new w.drew cells e _,v,?_,?_⟩
   ·simp only [Gh.name,if_true]
    rw [Nat.zero_add]
    exact (World.cell?_alloc_new w.drew cells e j).trans hv'
   ·refine hr.mono ?_ ?_
    ·intro b o hs
     have hb:=h.wf b o (by unfold Gh.S at hs; rw [hs]; simp)
     have : ¬ b=w.heap.size:=by omega
     simpa [Gh.S,Gh.name,Gh.push,this] using hs
    ·intro b o hs
     have hb:=h.wf b o (by unfold Gh.S at hs; rw [hs]; simp)
     exact hfr'.cell b o hb (fun x=>x)
 ·refine .inr ⟨w.heap.size,len,cap,e,rfl,⟨hc,Nat.le_trans E.C_le (Nat.le_trans h.hB h.fr.size),hpe⟩,⟨?_,uES w.drew cells e _⟩,fun o' h1 h2=>?_⟩
  ·unfold World.shape?
   rw [show (w.drew.alloc (.cells cells e)).heap[w.heap.size]? = some (.cells cells e) from Array.getElem?_push_size]
   simp [hsz]
  ·have hn : ¬ o' < len * sz:=by omega
   exact ⟨by simp [Gh.name,Gh.push,f,hn,h2],World.frozen?_alloc_new w.drew cells e o'⟩
theorem uHe {sz : Nat} : ∀ {xs : List (List C)} {m : Nat} {c : C},(∀ (i : Nat) (row : List C),xs[i]? = some row→row.length=sz)→xs.flatten[m]? = some c →
  ∃ (i j : Nat) (row : List C),m=i * sz + j∧j < sz∧xs[i]? = some row∧row[j]? = some c
 | [],m,c,_,h=>by simp at h
 | r :: xs,m,c,hr,h=>by
  have h0 : r.length=sz:=hr 0 r rfl
  rw [List.flatten_cons,List.getElem?_append] at h
  split at h
  ·rename_i hm
   exact ⟨0,m,r,by simp,by omega,rfl,h⟩
  ·rename_i hm
   obtain ⟨i,j,row,e,hj,h1,h2⟩:=uHe (xs:=xs) (fun i row hi=>hr (i + 1) row (by simpa using hi)) h
   exact ⟨i + 1,j,row,by rw [Nat.succ_mul]; omega,hj,by simpa using h1,h2⟩
theorem uKF {sz : Nat} : ∀ {xs : List (List C)},(∀ (i : Nat) (row : List C),xs[i]? = some row→row.length=sz)→xs.flatten.length=xs.length * sz
 | [],_=>by simp
 | r :: xs,hr=>by
  have h0 : r.length=sz:=hr 0 r rfl
  rw [List.flatten_cons,List.length_append,uKF (xs:=xs) (fun i row hi=>hr (i + 1) row (by simpa using hi)),List.length_cons,Nat.succ_mul]; omega
theorem uLZ {E : Env} {G : Gh} {st : St} {a : Act} {w : World} (hr : Rel E G st a w) (hold : E.D=0) {p : Pl} {j' : Nat} {n : Nm} {sz e by' L : Nat} {cs : List C} {xs : List (List C)} {v' xv : Value} {t ty : TypeId} {jf : TypeInfo} {ze : Value}
  (hu : Z.P.underlying t=some (.slice e)) (hinfo : Z.P.info? e=some jf) (hsz : jf.size=sz) (hby : jf.bytes=by') (hsz0 : sz≠0) (hze : jf.zero=some ze) (hzec : ze.cells.size=sz)
  (hown : OwnAt E.C w G p sz v') (hnlo : ∃ j,n = .l j) (hfr : FreshG st (.l j',true)) (hfo : FreshG st (n,false))
  (hv : (v' = .slice none 0 0∧L=0∧cs=[]) ∨ ∃ blk cap,v' = .slice (some ⟨blk,0,none⟩) L cap ∧ ∀ (j : Nat) (c : C),cs[j]? = some c→G.W blk j = .box n∧w.frozen? ⟨blk,j,none⟩=false ∧ ∃ v,w.cell? ⟨blk,j,none⟩=some v∧CRep w G.S c v)
  (hcl : cs.length=L * sz) (hxr : CRep w G.S (.sl sz xs) xv) (hx1 : 1≤xs.length) (hbig : (L + xs.length) * by'≤140737488355328) (hmax : L + xs.length≤9223372036854775807) (hpe : ∀ t k o,p = .b (.bd t k) o→e=t % 4096:=by intro _ _ _ hh; simp at hh) :
  ∃ G1 w1 u cap',(Builtin.append_ #[t,t] ty #[v',xv]).run Z.P w = .ok u w1∧Rel E G1 ((st.unown p).boxes2 (.l j') n (cs++xs.flatten)) a w1 ∧
   u = .slice (some ⟨(G1.A (.l j')).1,(G1.A (.l j')).2 + 0,none⟩) (L + xs.length) cap'∧L + xs.length≤cap'∧OwnAt E.C w1 G1 p sz u:=by
 rcases CRep.sl_cases hxr with ⟨xa,hxv,rfl⟩ | ⟨xb,xo,m,mc,hxv,hxl⟩
 ·simp at hx1
 rw [hxv] at hxr
 obtain ⟨news,hnl,hncell,hnone,hnrep⟩:=uEd hxr
 subst hxl
 have hrow : ∀ (i : Nat) (row : List C),xs[i]? = some row→row.length=sz:=fun i row hi=>(hxr.elem.2.2.2 i row hi).1
 have hfl:=uKF hrow
 have hnew : ∀ (j : Nat) (c : C),xs.flatten[j]? = some c → ∃ v,news[j]? = some v∧CRep w G.S c v:=by
  intro j c hj
  obtain ⟨i,k,row,rfl,hk,h1,h2⟩:=uHe hrow hj
  exact hnrep i k row c h1 h2
 have grow : ∀ (olds : List Value) (cap : Nat),olds.length=L * sz→(∀ (j : Nat) (c : C),cs[j]? = some c → ∃ v,olds[j]? = some v∧CRep w G.S c v)→L + xs.length≤cap →
   ∃ G1,Rel E G1 ((st.unown p).boxes2 (.l j') n (cs++xs.flatten)) a (w.drew.alloc (.cells (olds.toArray++news.toArray++Builtin.zeroCells ze.cells (cap - (L + xs.length))) e)) ∧
    G1.A (.l j')=(w.heap.size,0)∧OwnAt E.C (w.drew.alloc (.cells (olds.toArray++news.toArray++Builtin.zeroCells ze.cells (cap - (L + xs.length))) e)) G1 p sz (.slice (some ⟨w.heap.size,0,none⟩) (L + xs.length) cap):=by
  intro olds cap hol horep hge
  obtain ⟨G1,q1,q2,q3⟩:=hr.newMs p hfr (e:=e) hpe (sz:=sz) (len:=L + xs.length) (cap:=cap) (cs:=cs++xs.flatten) (cells:=olds.toArray++news.toArray++Builtin.zeroCells ze.cells (cap - (L + xs.length))) hge
   (by simp only [Array.size_append,List.size_toArray,size_zeroCells,hzec,hnl,hol,← Nat.add_mul]; congr 1; omega) (by rw [List.length_append,hcl,hfl,Nat.add_mul]) (fun j c hj=>by
    rw [List.getElem?_append] at hj
    split at hj
    ·obtain ⟨v,h1,h2⟩:=horep j c hj
     have hlt:=(List.getElem?_eq_some_iff.1 h1).1
     refine ⟨v,?_,h2⟩
     rw [Array.getElem?_append_left (by simp; omega),Array.getElem?_append_left (by simpa using hlt)]
     simpa using h1
    ·rename_i hge2
     obtain ⟨v,h1,h2⟩:=hnew _ c hj
     have hlt:=(List.getElem?_eq_some_iff.1 h1).1
     refine ⟨v,?_,h2⟩
     rw [Array.getElem?_append_left (by simp; omega),Array.getElem?_append_right (by simp; omega)]
     have : j - olds.toArray.size=j - cs.length:=by simp [hol,hcl]
     rw [this]
     simpa using h1)
  refine ⟨G1,?_,q2,q3⟩
  by_cases hnn : n = .l j'
  ·refine Rel.sub (st:=(st.unown p).addBox (.l j') (cs++xs.flatten)) (st':=(st.unown p).boxes2 (.l j') n (cs++xs.flatten)) ⟨fun k e hk=>hk,fun m ds hm=>?_,fun q s hq=>?_, .inr rfl⟩ q1
   ·rw [St.boxes2_box] at hm
    have hb : ((st.unown p).addBox (.l j') (cs++xs.flatten)).box m=if Nm.l j'=m then some (cs++xs.flatten) else ((st.unown p).drop (.l j')).box m:=uBb _ _ _ _
    rw [hb]
    split at hm
    ·rename_i he; rw [if_pos he]; exact hm
    ·rename_i he
     rw [hnn,if_neg he] at hm
     rw [if_neg he,St.drop_box,if_neg (fun e=>he e.symm)]; exact hm
   ·show ((st.unown p).drop (.l j')).own q=_
    rw [St.drop_own]
    have hq' : (st.unown p).own q=some s:=hq
    have hq2:=hq'
    rw [St.unown_own] at hq2
    split at hq2
    ·simp at hq2
    ·rw [if_neg (by rw [hfr.2 _ _ hq2]; simp)]; exact hq'
  ·refine Rel.sub (st:={ (st.unown p).addBox (.l j') (cs++xs.flatten) with bx:=(n,[]) :: ((st.unown p).addBox (.l j') (cs++xs.flatten)).bx }) (st':=(st.unown p).boxes2 (.l j') n (cs++xs.flatten)) ⟨fun k e hk=>hk,fun m ds hm=>?_,fun q s hq=>?_, .inr rfl⟩ (q1.emptyBox n)
   ·rw [St.boxes2_box] at hm
    show getB ((n,[]) :: (Nm.l j',cs++xs.flatten) :: _) m=_
    rw [uBb,uBb]
    split at hm
    ·rename_i he
     subst he
     rw [if_neg hnn,if_pos rfl]; exact hm
    ·rename_i he
     split at hm
     ·rename_i he2; rw [if_pos he2]; exact hm
     ·rename_i he2
      rw [if_neg he2,if_neg he]
      show ((st.unown p).drop (.l j')).box m=_
      rw [St.drop_box,if_neg (fun e=>he e.symm)]; exact hm
   ·show ((st.unown p).drop (.l j')).own q=_
    rw [St.drop_own]
    have hq' : (st.unown p).own q=some s:=hq
    have hq2:=hq'
    rw [St.unown_own] at hq2
    split at hq2
    ·simp at hq2
    ·rw [if_neg (by rw [hfr.2 _ _ hq2]; simp)]; exact hq'
 rcases hv with ⟨hvn,hL,hcs⟩ | ⟨blk,cap,hvs,hbox⟩
 ·subst hvn; subst hL; subst hcs
  have hrun:=run_append_nil (P:=Z.P) w t ty e jf ze hu hinfo hze ⟨xb,xo,none⟩ xs.length mc news (by rw [hnl,hsz]) hncell (by omega) (by omega) (by rw [hby]; simp only [Nat.zero_add] at hbig; omega)
  have hge:=grownCap_ge w xs.length 0 e
  obtain ⟨G1,q1,q2,q3⟩:=grow [] (grownCap w xs.length 0 e) (by simp) (fun j c hj=>by simp at hj) (by omega)
  rw [Nat.zero_add] at q1 q3 ⊢
  refine ⟨G1,_,_,_,by rw [hxv]; exact hrun,by simpa using q1,?_,hge,by simpa using q3⟩
  rw [q2]
 ·subst hvs
  rcases hown with ha0 | ⟨blk2,len2,cap2,e2,hv2,hlc2,⟨hshape,hfr0⟩,hspare⟩
  ·simp at ha0
  simp only [Value.slice.injEq,Option.some.injEq,Addr.mk.injEq] at hv2
  obtain ⟨⟨rfl,_⟩,rfl,rfl⟩:=hv2
  by_cases hroom : L + xs.length≤cap
  ·have hfit : (L + xs.length) * sz≤cap * sz:=Nat.mul_le_mul_right _ hroom
   rw [Nat.add_mul] at hfit
   have hsome : ∀ j,j < news.length→(w.cell? ⟨blk,L * sz + j,none⟩).isSome=true:=by
    intro j hj
    unfold World.shape? at hshape
    unfold World.cell?
    split at hshape
    ·rename_i c e3 fz hheap
     simp only [Option.some.injEq,Prod.mk.injEq] at hshape
     obtain ⟨_,hcs⟩:=hshape
     simp only [hheap]
     simp
     omega
    ·simp at hshape
   have hst:=run_storeCells_cells (P:=Z.P) blk (L * sz) news 0 w (by simpa using hsome) (fun j hj=>by
    simpa using (hspare (L * sz + j) (by omega) (by omega)).2) hnone
   rw [Nat.add_zero] at hst
   obtain ⟨f1,f2,f3,f4,f5,f6,f7,f8,f9⟩:=uC6 blk news (L * sz) w hsome
   have hrun : (Builtin.append_ #[t,t] ty #[.slice (some ⟨blk,0,none⟩) L cap, .slice (some ⟨xb,xo,none⟩) xs.length mc]).run Z.P w = .ok (.slice (some ⟨blk,0,none⟩) (L + xs.length) cap) (w.setCells blk (L * sz) news):=by
    have hf:=run_firstCells_some (P:=Z.P) w sz xs.length ⟨xb,xo,none⟩ xs.length mc news hnl hncell
    simp [Builtin.append_,run_underlying hu,sizeOf,typeInfo,hinfo,hsz,Builtin.lenOf,hroom,hf,uCp,hst]
   have hF : ∀ o,o < (L + xs.length) * sz→G.W blk o = .box n∨G.W blk o = .own p:=by
    intro o ho
    rw [Nat.add_mul] at ho
    by_cases hol : o < L * sz
    ·exact .inl (hbox o _ (List.getElem?_eq_getElem (by omega))).1
    ·exact .inr (hspare o (by omega) (by omega)).1
   have hrange : ∀ b o,¬ (b=blk∧o < (L + xs.length) * sz∧G.W b o = .own p) → ¬ (b=blk∧L * sz≤o∧o < L * sz + news.length):=by
    rintro b o hn ⟨rfl,h1,h2⟩
    exact hn ⟨rfl,by rw [Nat.add_mul]; omega,(hspare o h1 (by omega)).1⟩
   have hrel:=hr.intoBox (n':=.l j') (n:=n) (p:=p) (blk:=blk) (L:=(L + xs.length) * sz) (cs:=cs++xs.flatten) (w1:=w.setCells blk (L * sz) news) ⟨_,rfl⟩ hnlo hfr hfo hF f1 f2 f3 f4 (fun b hb=>by
     by_cases hbb : b=blk
     ·subst hbb
      by_cases hz : news.length=0
      ·have hn0 : news=[]:=List.eq_nil_of_length_eq_zero hz
       rw [hn0]; rfl
      ·exact absurd ⟨rfl,Nat.le_refl _,by omega⟩ (hrange b (L * sz) (hb (L * sz)))
     ·exact f5 b hbb) (fun b o hb=>f6 b o (hrange b o hb)) f8 f9 hold (fun j c hj=>by
      rw [List.getElem?_append] at hj
      split at hj
      ·rename_i hlt
       obtain ⟨q1,q2,v,q3,q4⟩:=hbox j c hj
       refine ⟨by rw [Nat.add_mul]; omega,q2,v,?_,q4⟩
       rw [f6 blk j (by rintro ⟨_,h1,_⟩; omega)]; exact q3
      ·rename_i hge
       obtain ⟨v,h1,h2⟩:=hnew _ c hj
       have hlt:=(List.getElem?_eq_some_iff.1 h1).1
       have hj2 : j=L * sz + (j - cs.length):=by omega
       refine ⟨by rw [Nat.add_mul]; omega,(hspare j (by omega) (by omega)).2,v,?_,h2⟩
       rw [hj2]; exact f7 _ v h1)
   refine ⟨_,_,_,_,by rw [hxv]; exact hrun,hrel,?_,hroom, .inr ⟨blk,L + xs.length,cap,e2,rfl,⟨hroom,hlc2.2⟩,⟨by rw [f9]; exact hshape,by rw [f8]; exact uFj hfr0 (by rw [Nat.add_mul]; omega)⟩,fun o' h1 h2=>?_⟩⟩
   ·dsimp only; rw [if_pos rfl]
   ·have h1':=h1
    rw [Nat.add_mul] at h1
    obtain ⟨q5,q6⟩:=hspare o' (by omega) h2
    refine ⟨?_,by rw [uCb (f8 _)]; exact q6⟩
    dsimp only
    rw [if_neg (by rintro ⟨_,h3⟩; omega)]
    exact q5
  ·obtain ⟨olds,hol,hor⟩:=uEc (R:=fun j v=>w.cell? ⟨blk,j,none⟩=some v ∧ ∃ c,cs[j]? = some c∧CRep w G.S c v) (L * sz) fun j hj=>by
    have hc:=List.getElem?_eq_getElem (l:=cs) (i:=j) (by omega)
    obtain ⟨_,_,v,q3,q4⟩:=hbox j _ hc
    exact ⟨v,q3,_,hc,q4⟩
   have hrun:=run_append_grow (P:=Z.P) w t ty e jf ze hu hinfo hze ⟨blk,0,none⟩ L cap olds (by rw [hol,hsz]) (fun j v hj=>by rw [uCp,Nat.zero_add]; exact (hor j v hj).1) ⟨xb,xo,none⟩ xs.length mc news (by rw [hnl,hsz]) hncell (by omega) (by omega) (growslice_fits (by omega) (by rw [hby]; exact hbig))
   have hge:=grownCap_ge w (L + xs.length) cap e
   obtain ⟨G1,q1,q2,q3⟩:=grow olds (grownCap w (L + xs.length) cap e) hol (fun j c hj=>by
    have hlt:=(List.getElem?_eq_some_iff.1 hj).1
    have hv:=List.getElem?_eq_getElem (l:=olds) (i:=j) (by omega)
    obtain ⟨_,c',h1,h2⟩:=hor j _ hv
    rw [hj] at h1; simp only [Option.some.injEq] at h1; subst h1
    exact ⟨_,hv,h2⟩) hge
   refine ⟨G1,_,_,_,by rw [hxv]; exact hrun,q1,?_,hge,q3⟩
   rw [q2]
section
variable {N : Nat} {st : St} {ty : TypeId}
def St.msApp (st : St) (d k j' : Nat) (n : Nm) (sz L : Nat) (cs : List C) : St:=(((st.unown (.t k)).boxes2 (.l j') n cs).put d (true, .v (.ms (.l j') sz 0 L))).addOwn (.t d) sz
theorem uK6 {d k j' : Nat} {x : Operand} {t : TypeId} {sz e by' L : Nat} {n : Nm} {cs : List C} {xs : List (List C)} {ti : TyI} {y : Y} (hs : st.get k=some (true, .v y)) (hw : st.own (.t k)=some sz)
  (hx : lk Z.T st t x=some (true, .v (.c (.sl sz xs)))) (ht : tyAt Z.T t=some ti) (hel : ti.el=some (e,sz,by')) (hN : Nat.ble (d + 1) N=true) (hkd : Nat.beq k d=false)
  (hnl : ∃ j,n = .l j) (hfr : FreshG st (.l j',true)) (hfo : FreshG st (n,false)) (hcl : cs.length=L * sz) (hx1 : 1≤xs.length) (hbig : (L + xs.length) * by'≤140737488355328) (hmax : L + xs.length≤9223372036854775807)
  (hy : ∀ (E : Env) (G : Gh) (a : Act) (w : World) (v' : Value),Rel E G st a w→YRep w G y v'→OwnAt E.C w G (.t k) sz v'→(v' = .slice none 0 0∧L=0∧cs=[]) ∨ ∃ blk cap,v' = .slice (some ⟨blk,0,none⟩) L cap ∧ ∀ (j : Nat) (c : C),cs[j]? = some c→G.W blk j = .box n∧w.frozen? ⟨blk,j,none⟩=false ∧ ∃ v,w.cell? ⟨blk,j,none⟩=some v∧CRep w G.S c v) (hz : Z.old=false:=by rfl) :
  Does Z N st (some d) (.call { callee:=.builtin .append,args:=#[.tmp k,x],argTypes:=#[t,t] }) ty (st.msApp d k j' n sz (L + xs.length) (cs++xs.flatten)):=by
 intro o E G a w hd ho _ hr hE K Q hK
 have hdN : d < E.nt:=by rw [hE.nt]; exact Nat.le_of_ble_eq_true hN
 have hkd' : ¬ d=k:=fun e=>by subst e; simp at hkd
 obtain ⟨hu,jf,ze,hinfo,hsz,hby,hsz0,hze,hzec⟩:=(Z.tyOk ht).sl e sz by' hel
 obtain ⟨v,hv,hv1,_⟩:=hr.tm k true _ hs
 obtain ⟨v',hv',hown⟩:=hr.ow _ _ hw
 have : v'=v:=by
  have hv2 : a.tmps[k]? = some v':=hv'
  rw [hv] at hv2; simpa using hv2.symm
 subst this
 have hxr : CRep w G.S (.sl sz xs) (a.eval x):=uA7 hr hx rfl
 have hev : a.eval (.tmp k)=v':=by simp [Act.eval,Array.getD_eq_getD_getElem?,hv]
 have hexec : (execOp a.eval o).run Z.P w=((Builtin.append_ #[t,t] o.type #[v',a.eval x]).run Z.P w).andThen fun u w'=>.ok (.value u) w':=by
  simp [execOp,ho,Go.resolve,invoke,builtin,hev]
 obtain ⟨G1,w1,u,cap',hrun,hrel,hu1,hcap,ho'⟩:=uLZ hr (hE.old hz) (p:=.t k) (ty:=o.type) hu hinfo hsz hby hsz0 hze hzec hown hnl hfr hfo (hy E G a w v' hr (hv1 rfl) hown) hcl hxr hx1 hbig hmax
 unfold Oper.wp
 rw [hexec,hrun]
 simp only [Result.andThen_ok]
 rw [Oper.upon_value,hd]
 have hput:=hrel.put hdN (g:=true) (x:=.v (.ms (.l j') sz 0 (L + xs.length))) (v:=u) (fun _=>.inr ⟨cap',hcap,hu1⟩) (fun hf=>by simp at hf)
 have := hput.relabel (q := .t d) ho' (by rw [St.put_own,if_pos rfl]) (by
  show (a.put (some d) u).tmps[d]? = _
  rw [uBH (by rw [hr.nt]; exact hdN)]; simp)
 refine hK (G1.relabel (.t k) (.t d)) u w1 (Rel.sub (st:=(((((st.unown (.t k)).boxes2 (.l j') n (cs++xs.flatten)).put d (true, .v (.ms (.l j') sz 0 (L + xs.length)))).unown (.t k)).addOwn (.t d) sz)) (st':=st.msApp d k j' n sz (L + xs.length) (cs++xs.flatten)) ⟨fun _ _ q=>q,fun _ _ q=>q,?_, .inr rfl⟩ this)
 intro r s hrs
 unfold St.msApp at hrs
 rw [St.addOwn_own] at hrs ⊢
 split at hrs
 ·rename_i he; rw [if_pos he]; exact hrs
 ·rename_i he
  rw [if_neg he,St.unown_own]
  split
  ·rename_i hk
   subst hk
   rw [St.put_own,if_neg (by simp; exact fun e=>hkd' e.symm)] at hrs
   have h2 : (st.unown (.t k)).own (.t k)=some s:=hrs
   rw [St.unown_own,if_pos rfl] at h2
   simp at h2
  ·exact hrs
theorem uO6 {k L sz : Nat} {n : Nm} {cs : List C} {st : St} (hb : st.box n=some cs) (hcl : cs.length=L * sz) : ∀ (E : Env) (G : Gh) (a : Act) (w : World) (v' : Value),Rel E G st a w→YRep w G (.ms n sz 0 L) v'→OwnAt E.C w G (.t k) sz v' →
  (v' = .slice none 0 0∧L=0∧cs=[]) ∨ ∃ blk cap,v' = .slice (some ⟨blk,0,none⟩) L cap ∧ ∀ (j : Nat) (c : C),cs[j]? = some c→G.W blk j = .box n∧w.frozen? ⟨blk,j,none⟩=false ∧ ∃ v,w.cell? ⟨blk,j,none⟩=some v∧CRep w G.S c v:=by
 intro E G a w v' hr hy ho
 rcases hy with ⟨rfl,rfl⟩ | ⟨cap,hcap,rfl⟩
 ·exact .inl ⟨rfl,rfl,List.eq_nil_of_length_eq_zero (by rw [hcl,Nat.zero_mul])⟩
 rcases ho with ho | ⟨blk,len,cap2,e,hv,_⟩
 ·simp at ho
 ·simp only [Value.slice.injEq,Option.some.injEq,Addr.mk.injEq,Nat.add_zero] at hv
  obtain ⟨⟨h1,h2,_⟩,_⟩:=hv
  refine .inr ⟨(G.A n).1,cap,by simp [h2],fun j c hj=>?_⟩
  have := hr.bx n cs hb j c hj
  rw [h2,Nat.zero_add] at this
  exact this
section
variable {s0 : St} {ops : Array Oper} {B : List Nat} {q : Nat} {rest : List Oper} {acc : List Lnk} {o : Oper} {Q : St→Prop} {d : Nat}
end
theorem uK1 {x : Operand} {t : TypeId} {g gate : Bool} {n : Nm} {sz off L : Nat} {ti : TyI} {el : Nat × Nat × Nat} (h : lk Z.T st ty x=some (g, .v (.ms n sz off L))) (hg : gate=true→g=true)
  (ht : tyAt Z.T t=some ti) (hel : ti.el=some el) : PureOk Z st (.call { callee:=.builtin .len,args:=#[x],argTypes:=#[t] }) ty gate (.v (.c (.i .i64 (L : Int)))):=by
 intro o E G a w ho _ hr hgt
 obtain ⟨e,s,by'⟩:=el
 have hu:=((Z.tyOk ht).sl e s by' hel).1
 refine ⟨.int .i64 L,CRep.i _ _,?_⟩
 rcases uA7 hr h (hg hgt) with ⟨rfl,h2⟩ | ⟨cap,_,h2⟩
 ·simp [execOp,ho,h2,Go.resolve,invoke,builtin,Builtin.len_,underlying,hu,goInt]
 ·simp [execOp,ho,h2,Go.resolve,invoke,builtin,Builtin.len_,underlying,hu,goInt]
theorem uIM {x i : Operand} {t : TypeId} {g gi gate : Bool} {n : Nm} {sz off L : Nat} {k : IntKind} {m : Int} {j : Nat} {ti : TyI} {e by' : Nat} (h : lk Z.T st ty x=some (g, .v (.ms n sz off L))) (hi : lk Z.T st ty i=some (gi, .v (.c (.i k m))))
  (hg : gate=true→g=true) (hgi : gate=true→gi=true) (ht : tyAt Z.T t=some ti) (hel : ti.el=some (e,sz,by')) (hn : m=(j : Int)) (hj : gate=true→j < L) : PureOk Z st (.indexAddr t x i) ty gate (.v (.ptr n (off + j * sz))):=by
 intro o E G a w ho _ hr hgt
 have hj:=hj hgt
 rcases uA7 hr h (hg hgt) with ⟨rfl,h1⟩ | ⟨cap,_,h1⟩
 ·omega
 have h2:=XRep.int (uA7 hr hi (hgi hgt))
 subst hn
 obtain ⟨hu,jf,ze,hinfo,hsz,_,_,_,_⟩:=(Z.tyOk ht).sl e sz by' hel
 refine ⟨.pointer (some ⟨(G.A n).1,(G.A n).2 + (off + j * sz),none⟩),rfl,?_⟩
 simp [execOp,ho,h1,h2,Instr.indexAt,asIntOf,underlying,hu,hj,sizeOf,typeInfo,hinfo,hsz,uCp,Nat.add_assoc]
end
end Go.Abs
namespace Go.Abs
variable {Z : Pg}
def St.frz (st : St) (k m sz : Nat) (es : List (List C)) : St:={ st with t:=(k,true, .v (.c (.sl sz es))) :: st.t,bx:=(.l m,[]) :: st.bx }
open Classical in
noncomputable def Gh.frz (G : Gh) (n : Nm) : Gh:={ G with W:=fun b o=>if G.W b o = .box n then .imm else G.W b o }
theorem uLT {sz : Nat} : ∀ {xs : List (List C)} {i j : Nat} {row : List C} {c : C},(∀ (i : Nat) (row : List C),xs[i]? = some row→row.length=sz)→xs[i]? = some row→row[j]? = some c→xs.flatten[i * sz + j]? = some c
 | [],i,j,row,c,_,h,_=>by simp at h
 | x :: xs,0,j,row,c,hr,h,hc=>by
  simp only [List.getElem?_cons_zero,Option.some.injEq] at h
  subst h
  have hj:=(List.getElem?_eq_some_iff.1 hc).1
  rw [List.flatten_cons,Nat.zero_mul,Nat.zero_add,List.getElem?_append_left hj,hc]
 | x :: xs,i + 1,j,row,c,hr,h,hc=>by
  have hx:=hr 0 x rfl
  rw [List.flatten_cons,List.getElem?_append_right (by rw [hx,Nat.add_mul]; omega)]
  have := uLT (xs := xs) (i := i) (fun i row hi=>hr (i + 1) row (by simpa using hi)) (by simpa using h) hc
  rw [← this]
  congr 1
  rw [hx,Nat.add_mul]; omega
theorem Gh.frz_S {G : Gh} {n : Nm} {b o : Nat} (h : G.S b o) : (G.frz n).S b o:=by
 unfold Gh.S Gh.frz at *
 dsimp only
 rw [if_neg (by rw [h]; simp)]
 exact h
theorem Rel.freeze {E : Env} {G : Gh} {st : St} {a : Act} {w : World} (h : Rel E G st a w) {k m sz L : Nat} {es : List (List C)} (hs : st.get k=some (true, .v (.ms (.l m) sz 0 L)))
  (hb : st.box (.l m)=some es.flatten) (hL : es.length=L) (hm : L≤9223372036854775807) (hrow : ∀ (i : Nat) (row : List C),es[i]? = some row→row.length=sz) (hfo : FreshG st (.l m,false)) :
  Rel E (G.frz (.l m)) (st.frz k m sz es) a w:=by
 have hmono : ∀ {y : C} {v : Value},CRep w G.S y v→CRep w (G.frz (.l m)).S y v:=fun hc=>hc.mono (fun _ _=>Gh.frz_S) (fun _ _ _=>rfl)
 have hbox:=h.bx _ _ hb
 have hne : ∀ {b o : Nat} {x : Who},G.W b o=x→x ≠ .box (.l m)→(G.frz (.l m)).W b o=x:=fun {b o x} e hx=>by
  unfold Gh.frz; dsimp only; rw [if_neg (by rw [e]; exact hx)]; exact e
 constructor
 ·exact h.df
 ·intro j g x hj
  have hj2 : getT ((k,true, .v (.c (.sl sz es))) :: st.t) j=some (g,x):=hj
  rw [uBX] at hj2
  split at hj2
  ·rename_i he; subst he
   simp only [Option.some.injEq,Prod.mk.injEq] at hj2
   obtain ⟨rfl,rfl⟩:=hj2
   obtain ⟨v,hv,hv1,_⟩:=h.tm _ _ _ hs
   refine ⟨v,hv,fun _=>?_,fun hg=>by simp at hg⟩
   rcases hv1 rfl with ⟨rfl,rfl⟩ | ⟨cap,hc,rfl⟩
   ·rw [List.eq_nil_of_length_eq_zero hL]; exact CRep.nil sz
   refine CRep.mk_sl hL hc hm fun i row hi=>⟨hrow i row hi,fun j' c hj'=>?_⟩
   obtain ⟨q1,q2,v,q3,q4⟩:=hbox _ c (uLT hrow hi hj')
   rw [Nat.add_zero,Nat.add_assoc]
   refine ⟨?_,v,q3,hmono q4⟩
   unfold Gh.S Gh.frz; dsimp only; rw [if_pos q1]
  ·obtain ⟨u,hu,q1,q2⟩:=h.tm j g x hj2
   exact ⟨u,hu,fun hg=>(q1 hg).mono (fun _ _=>Gh.frz_S) (fun _ _ _=>rfl) (fun _ _=>rfl),q2⟩
 ·intro n ds hn j c hj
  have hn2 : getB ((.l m,[]) :: st.bx) n=some ds:=hn
  rw [uBb] at hn2
  split at hn2
  ·simp only [Option.some.injEq] at hn2; subst hn2; simp at hj
  ·rename_i hx
   obtain ⟨q1,q2,v,q3,q4⟩:=h.bx n ds hn2 j c hj
   exact ⟨hne q1 (by intro e; injection e with e; exact hx e.symm),q2,v,q3,hmono q4⟩
 ·intro p s hp
  have hp2 : st.own p=some s:=hp
  obtain ⟨u,hu,ho⟩:=h.ow p s hp2
  refine ⟨u,?_,?_⟩
  ·cases p with
   | t k'=>exact hu
   | b n off =>
    refine ⟨hu.1,hne hu.2 ?_⟩
    intro e; injection e with e
    have := hfo.2 _ _ hp2
    subst e; simp [Pl.inBox,Nm.beq_self] at this
  ·rcases ho with ho | ⟨b2,len,cap,e,q1,q2,q3,q4⟩
   ·exact .inl ho
   ·exact .inr ⟨b2,len,cap,e,q1,q2,q3,fun o h1 h2=>⟨hne (q4 o h1 h2).1 (by simp),(q4 o h1 h2).2⟩⟩
 ·intro b o hw
  refine h.wf b o fun e=>hw (hne e (by simp))
 ·intro b o n hb' hn
  unfold Gh.frz at hn; dsimp only at hn
  split at hn
  ·simp at hn
  ·exact h.olB b o n hb' hn
 ·intro b o p hb' hn
  unfold Gh.frz at hn; dsimp only at hn
  split at hn
  ·simp at hn
  ·exact h.olO b o p hb' hn
 ·exact h.nt
 ·exact h.oA
 ·intro b o hi
  exact hne (h.im b o hi) (by simp)
 ·intro b o hb' hi
  unfold Gh.frz at hi; dsimp only at hi
  split at hi
  ·rename_i e
   obtain ⟨j,hj⟩:=(h.lo b o hb').1 _ e
   simp at hj
  ·exact h.im' b o hb' hi
 ·exact h.fr
 ·exact h.hB
 ·intro b o hb'
  unfold Gh.frz; dsimp only
  split
  ·simp
  ·exact h.lo b o hb'
 ·intro t j ds hn hne2
  have hn2 : getB ((.l m,[]) :: st.bx) (.bd t j)=some ds:=hn
  rw [uBb,if_neg (by simp)] at hn2
  exact h.bd t j ds hn2 hne2
 ·intro x hx
  obtain ⟨q1,q2,q3⟩:=h.mp x hx
  refine ⟨q1,q2,fun o=>?_⟩
  unfold Gh.frz; dsimp only
  split
  ·exact ⟨fun n=>by simp,fun q=>by simp⟩
  ·exact q3 o
theorem uMk {N : Nat} {ops : Array Oper} {rest : List Oper} {K : St→Prop} {st : St} (k m : Nat) {sz L : Nat} (es : List (List C)) (hs : st.get k=some (true, .v (.ms (.l m) sz 0 L)))
  (hb : st.box (.l m)=some es.flatten) (hL : es.length=L) (hm : L≤9223372036854775807) (hrow : ∀ (i : Nat) (row : List C),es[i]? = some row→row.length=sz) (hfo : st.freshO (.l m,false)=true)
  (h : AL Z N ops rest K (st.frz k m sz es)) : AL Z N ops rest K st :=
 fun E G a w hr hE=>h E _ a w (hr.freeze hs hb hL hm hrow (St.freshO_ok hfo)) hE
def St.ren (st : St) (k m m' sz L : Nat) (cs : List C) : St :=
 {t:=(k,true, .v (.ms (.l m') sz 0 L)) :: st.t.filter (fun q=>!Nat.beq q.1 k),bx:=(.l m',cs) :: st.bx.filter (fun q=>!Nm.beq q.1 (.l m)),ow:=st.ow,mp:=st.mp }
theorem uDX (k : Nat) : ∀ (l : List (Nat × Bool × X)) (j : Nat),getT (l.filter fun q=>!Nat.beq q.1 k) j=if j=k then none else getT l j
 | [],j=>by simp [getT]
 | (i,e) :: r,j=>by
  by_cases hi : i=k
  ·subst hi
   have hb : Nat.beq i i=true:=Nat.beq_refl i
   rw [List.filter_cons,if_neg (by simp [hb]),uDX i r j,uBX]
   by_cases hj : j=i
   ·subst hj; simp
   ·have : ¬ i=j:=fun e=>hj e.symm
    simp [hj,this]
  ·rw [List.filter_cons,if_pos (by simp [uHq hi]),uBX,uBX,uDX k r j]
   by_cases hj : i=j
   ·subst hj; simp [hi]
   ·simp [hj]
open Classical in
theorem Rel.rename {E : Env} {G : Gh} {st : St} {a : Act} {w : World} (h : Rel E G st a w) {k m m' sz L : Nat} {cs : List C} (hs : st.get k=some (true, .v (.ms (.l m) sz 0 L))) (hb : st.box (.l m)=some cs)
  (hfr : FreshG st (.l m',true)) (hfo : FreshG st (.l m,false)) :
  Rel E { W:=fun b o=>if G.W b o = .box (.l m) then .box (.l m') else G.W b o,A:=fun n=>if n = .l m' then G.A (.l m) else G.A n } (st.ren k m m' sz L cs) a w:=by
 have hS : ∀ b o,G.S b o→Gh.S { W:=fun b o=>if G.W b o = .box (.l m) then .box (.l m') else G.W b o,A:=fun n=>if n = .l m' then G.A (.l m) else G.A n } b o:=fun b o hs=>by
  unfold Gh.S at *
  dsimp only
  rw [if_neg (by rw [hs]; simp)]
  exact hs
 constructor
 ·exact h.df
 ·intro j g x hj
  have hj2 : getT ((k,true, .v (.ms (.l m') sz 0 L)) :: st.t.filter (fun q=>!Nat.beq q.1 k)) j=some (g,x):=hj
  rw [uBX] at hj2
  split at hj2
  ·rename_i he; subst he
   simp only [Option.some.injEq,Prod.mk.injEq] at hj2
   obtain ⟨rfl,rfl⟩:=hj2
   obtain ⟨u,hu,q1,q2⟩:=h.tm _ _ _ hs
   refine ⟨u,hu,fun _=>?_,fun hg=>by simp at hg⟩
   rcases q1 rfl with e | ⟨cap,hc,e⟩
   ·exact .inl e
   ·exact .inr ⟨cap,hc,by dsimp only; rw [if_pos rfl]; exact e⟩
  ·rw [uDX] at hj2
   split at hj2
   ·simp at hj2
   ·obtain ⟨u,hu,q1,q2⟩:=h.tm j g x hj2
    refine ⟨u,hu,fun hg=>(q1 hg).mono hS (fun _ _ _=>rfl) fun n hn=>?_,q2⟩
    have : ¬ n = .l m' := fun e=>by subst e; have := hfr.1 rfl j g x hj2; rw [hn] at this; simp at this
    dsimp only; rw [if_neg this]
 ·intro n ds hn j c hj
  have hn2 : getB ((.l m',cs) :: st.bx.filter (fun q=>!Nm.beq q.1 (.l m))) n=some ds:=hn
  rw [uBb] at hn2
  split at hn2
  ·rename_i he; subst he
   simp only [Option.some.injEq] at hn2; subst hn2
   obtain ⟨q1,q2,u,q3,q4⟩:=h.bx _ _ hb j c hj
   dsimp only
   rw [if_pos rfl,if_pos q1]
   exact ⟨rfl,q2,u,q3,q4.mono hS (fun _ _ _=>rfl)⟩
  ·rename_i hne
   rw [uCW (fun q=>!Nm.beq q (.l m))] at hn2
   split at hn2
   ·rename_i hf2
    have hne2 : ¬ n = .l m:=fun e=>by subst e; simp [Nm.beq_self] at hf2
    obtain ⟨q1,q2,u,q3,q4⟩:=h.bx n ds hn2 j c hj
    have hn3 : ¬ n = .l m':=fun e=>hne e.symm
    dsimp only
    rw [if_neg hn3,if_neg (by rw [q1]; intro e; injection e with e; exact hne2 e)]
    exact ⟨q1,q2,u,q3,q4.mono hS (fun _ _ _=>rfl)⟩
   ·simp at hn2
 ·intro p s hp
  have hp2 : st.own p=some s:=hp
  obtain ⟨u,hu,ho⟩:=h.ow p s hp2
  refine ⟨u,?_,?_⟩
  ·cases p with
   | t k'=>exact hu
   | b n off =>
    have h1 : ¬ n = .l m' := fun e=>by have := hfr.2 _ _ hp2; subst e; simp [Pl.inBox,Nm.beq_self] at this
    have h2 : ¬ n = .l m := fun e=>by have := hfo.2 _ _ hp2; subst e; simp [Pl.inBox,Nm.beq_self] at this
    refine ⟨?_,?_⟩
    ·dsimp only; rw [if_neg h1]; exact hu.1
    ·dsimp only; rw [if_neg h1,if_neg (by rw [hu.2]; intro e; injection e with e; exact h2 e)]; exact hu.2
  ·rcases ho with ho | ⟨b2,len,cap,e,q1,q2,q3,q4⟩
   ·exact .inl ho
   ·exact .inr ⟨b2,len,cap,e,q1,q2,q3,fun o h1 h2=>⟨by dsimp only; rw [if_neg (by rw [(q4 o h1 h2).1]; simp)]; exact (q4 o h1 h2).1,(q4 o h1 h2).2⟩⟩
 ·intro b o hw
  refine h.wf b o fun e=>hw ?_
  dsimp only; rw [if_neg (by rw [e]; simp)]; exact e
 ·intro b o n hb' hn
  dsimp only at hn
  split at hn
  ·rename_i e; exact h.olB b o _ hb' e
  ·exact h.olB b o n hb' hn
 ·intro b o p hb' hn
  dsimp only at hn
  split at hn
  ·simp at hn
  ·exact h.olO b o p hb' hn
 ·exact h.nt
 ·intro j
  dsimp only
  rw [if_neg (by simp)]
  exact h.oA j
 ·intro b o hi
  exact hS b o (h.im b o hi)
 ·intro b o hb' hi
  dsimp only at hi
  split at hi
  ·simp at hi
  ·exact h.im' b o hb' hi
 ·exact h.fr
 ·exact h.hB
 ·intro b o hb'
  dsimp only
  split
  ·rename_i e
   obtain ⟨j,hj⟩:=(h.lo b o hb').1 _ e
   simp at hj
  ·exact h.lo b o hb'
 ·intro t j ds hn hne2
  have hn2 : getB ((.l m',cs) :: st.bx.filter (fun q=>!Nm.beq q.1 (.l m))) (.bd t j)=some ds:=hn
  rw [uBb,if_neg (by simp),uCW (fun q=>!Nm.beq q (.l m))] at hn2
  split at hn2
  ·dsimp only
   rw [if_neg (by simp)]
   exact h.bd t j ds hn2 hne2
  ·simp at hn2
 ·intro x hx
  obtain ⟨q1,q2,q3⟩:=h.mp x hx
  refine ⟨q1,q2,fun o=>?_⟩
  dsimp only
  rw [if_neg ((q3 o).1 _)]
  exact q3 o
theorem uIu : ∀ (ds p m s : List C),m.length=ds.length→uBG (p++(m++s)) p.length ds=p++(ds++s)
 | [],p,m,s,h=>by rw [List.eq_nil_of_length_eq_zero h]; rfl
 | d :: ds,p,[],s,h=>by simp at h
 | d :: ds,p,x :: m,s,h=>by
  have h' : m.length=ds.length:=by simpa using h
  rw [uBG,List.cons_append,List.set_append_right _ _ (Nat.le_refl _),Nat.sub_self,List.set_cons_zero]
  have := uIu ds (p++[d]) m s h'
  rw [List.append_assoc,List.length_append] at this
  simpa using this
end Go.Abs
namespace Go.Abs
variable {Z : Pg}
theorem uNw {E : Env} {G : Gh} {st : St} {a : Act} {w : World} (hr : Rel E G st a w) {p : Pl} {sz e by' : Nat} {es xs : List (List C)} {v' xv : Value} {t tx ty : TypeId} {jf : TypeInfo} {ze : Value} {news : List Value}
  (hu : Z.P.underlying t=some (.slice e)) (hinfo : Z.P.info? e=some jf) (hsz : jf.size=sz) (hby : jf.bytes=by') (hsz0 : sz≠0) (hze : jf.zero=some ze) (hzec : ze.cells.size=sz)
  (hcr : CRep w G.S (.sl sz es) v') (hown : OwnAt E.C w G p sz v') (hsrc : Src Z.P sz tx xv xs.length news w) (hxrow : ∀ (i : Nat) (row : List C),xs[i]? = some row→row.length=sz)
  (hnrep : ∀ (i j : Nat) (row : List C) (c : C),xs[i]? = some row→row[j]? = some c → ∃ v,news[i * sz + j]? = some v∧CRep w G.S c v)
  (hbig : (es.length + xs.length) * by'≤140737488355328) (hmax : es.length + xs.length≤9223372036854775807) (hpe : ∀ t k o,p = .b (.bd t k) o→e=t % 4096) :
  ∃ G1 w1 uo un uc,(Builtin.append_ #[t,tx] ty #[v',xv]).run Z.P w = .ok (.slice uo un uc) w1∧Rel E G1 (st.unown p) a w1∧CRep w1 G1.S (.sl sz (es++xs)) (.slice uo un uc)∧OwnAt E.C w1 G1 p sz (.slice uo un uc)∧G1.A=G.A ∧
   (∀ b o,b < w.heap.size→G.W b o ≠ .own p→w1.cell? ⟨b,o,none⟩=w.cell? ⟨b,o,none⟩):=by
 have hpos : 0 < sz:=by omega
 have hunown : Rel E G (st.unown p) a w:=hr.sub (st.unown_sub _)
 have hexl : (es++xs).length=es.length + xs.length:=List.length_append
 have hnl:=hsrc.newsLen
 have hcase : (v' = .slice none 0 0∧es=[]) ∨ ∃ blk len cap,v' = .slice (some ⟨blk,0,none⟩) len cap∧es.length=len:=by
  rcases hown with hn | ⟨blk2,len2,cap2,e2,hv2,_⟩
  ·subst hn
   refine .inl ⟨rfl,?_⟩
   rcases CRep.sl_cases hcr with ⟨_,_,h⟩ | ⟨_,_,_,_,h,_⟩
   ·exact h
   ·simp at h
  ·refine .inr ⟨blk2,len2,cap2,hv2,?_⟩
   rw [hv2] at hcr
   exact hcr.elem.1
 have grow : ∀ (base : Option Addr) (cap : Nat) (olds : List Value),v' = .slice base es.length cap→olds.length=es.length * sz→(Builtin.firstCells jf.size es.length (.slice base es.length cap)).run Z.P w.drew = .ok olds.toArray w.drew→cap < es.length + xs.length →
   (∀ (i j : Nat) (row : List C) (c : C),es[i]? = some row→row[j]? = some c → ∃ v,olds[i * sz + j]? = some v∧CRep w G.S c v)→(∀ (i : Nat) (row : List C),es[i]? = some row→row.length=sz) →
   ∃ G1 w1 uo un uc,(Builtin.append_ #[t,tx] ty #[v',xv]).run Z.P w = .ok (.slice uo un uc) w1∧Rel E G1 (st.unown p) a w1∧CRep w1 G1.S (.sl sz (es++xs)) (.slice uo un uc)∧OwnAt E.C w1 G1 p sz (.slice uo un uc)∧G1.A=G.A ∧
   (∀ b o,b < w.heap.size→G.W b o ≠ .own p→w1.cell? ⟨b,o,none⟩=w.cell? ⟨b,o,none⟩):=by
  intro base cap olds hv hol hold hg horep herow
  subst hv
  have hrun:=run_append_grow_src (P:=Z.P) w t tx ty e jf ze hu hinfo hze base es.length cap olds hold xv xs.length news (by rw [hsz]; exact hsrc) hg (by omega) (growslice_fits (by omega) (by rw [hby]; exact hbig))
  have hge:=grownCap_ge w (es.length + xs.length) cap e
  have harr : (olds++news).toArray=olds.toArray++news.toArray:=by simp
  rw [harr] at hrun
  obtain ⟨G1,q0,q1,q2,q3⟩:=hr.newRow p (e:=e) hpe (sz:=sz) (len:=es.length + xs.length) (cap:=grownCap w (es.length + xs.length) cap e) (es:=es++xs) (cells:=olds.toArray++news.toArray++Builtin.zeroCells ze.cells (grownCap w (es.length + xs.length) cap e - (es.length + xs.length))) hge
   hmax (by simp only [Array.size_append,List.size_toArray,size_zeroCells,hzec,hnl,hol,← Nat.add_mul]; congr 1; omega) hexl (fun i row hi=>by
    rw [List.getElem?_append] at hi
    split at hi
    ·exact herow _ row hi
    ·exact hxrow _ row hi) (uGA hol horep hnrep _)
  refine ⟨G1,_,_,_,_,hrun,q1,q2,q3,q0,fun b o hb _=>?_⟩;exact World.cell?_alloc_lt w.drew _ _ hb
 rcases hcase with ⟨hvn,rfl⟩ | ⟨blk,len,cap,hvs,hlen⟩
 ·by_cases hm : xs.length=0
  ·have hx0 : xs=[]:=List.eq_nil_of_length_eq_zero hm
   subst hx0
   subst hvn
   refine ⟨G,w,none,0,0,?_,hunown,CRep.nil sz, .inl rfl,rfl,fun _ _ _ _=>rfl⟩
   have hn0 : news=[]:=List.eq_nil_of_length_eq_zero (by rw [hnl]; simp)
   subst hn0
   have hc:=hsrc.cells
   have hl:=hsrc.len w
   simp only [List.length_nil] at hc hl
   rcases hsrc.kind with ⟨e',hk⟩ | hk <;> simp [Builtin.append_,run_underlying hu,run_underlying hk,sizeOf,typeInfo,hinfo,hl,hsz,hc]
  ·exact grow none 0 [] hvn (by simp) (by rw [hsz]; simp [Builtin.firstCells]) (by simp; omega) (fun i j row c hi _=>by simp at hi) (fun i row hi=>by simp at hi)
 ·subst hlen
  have hcr2:=hcr
  rw [hvs] at hcr2
  obtain ⟨olds,hol,hocell,_,horep⟩:=uEd hcr2
  have herow : ∀ (i : Nat) (row : List C),es[i]? = some row→row.length=sz:=fun i row hi=>(hcr2.elem.2.2.2 i row hi).1
  by_cases hroom : es.length + xs.length≤cap
  ·rcases hown with ha0 | ⟨blk2,len2,cap2,e2,hv2,hlc2,⟨hshape,hfr0⟩,hspare⟩
   ·rw [ha0] at hvs; simp at hvs
   ·subst hvs
    simp only [Value.slice.injEq,Option.some.injEq,Addr.mk.injEq] at hv2
    obtain ⟨⟨rfl,_⟩,rfl,rfl⟩:=hv2
    have hfit : (es.length + xs.length) * sz≤cap * sz:=Nat.mul_le_mul_right _ hroom
    rw [Nat.add_mul] at hfit
    have hsome : ∀ j,j < news.length→(w.cell? ⟨blk,es.length * sz + j,none⟩).isSome=true:=by
     intro j hj
     unfold World.shape? at hshape
     unfold World.cell?
     split at hshape
     ·rename_i c e3 fz hheap
      simp only [Option.some.injEq,Prod.mk.injEq] at hshape
      obtain ⟨_,hcs⟩:=hshape
      simp only [hheap]
      simp
      omega
     ·simp at hshape
    obtain ⟨f1,f2,f3,f4,f5,f6,f7,f8,f9⟩:=uC6 blk news (es.length * sz) w hsome
    have hrun:=run_append_room_src (P:=Z.P) w t tx ty e jf hu hinfo blk 0 es.length cap xv xs.length news (by rw [hsz]; exact hsrc) hroom (by rw [hsz,Nat.zero_add]; exact hsome) (fun j hj=>by
     rw [hsz,Nat.zero_add]
     exact (hspare (es.length * sz + j) (by omega) (by omega)).2)
    rw [hsz,Nat.zero_add] at hrun
    let F : Nat→Nat→Prop:=fun b o=>b=blk∧es.length * sz≤o∧o < es.length * sz + news.length
    have hF : ∀ b o,F b o→G.W b o = .own p:=by
     rintro b o ⟨rfl,h1,h2⟩
     exact (hspare o h1 (by omega)).1
    have hrel:=hr.write (F:=F) (w1:=w.setCells blk (es.length * sz) news) hF f1 f2 f3 f4 (fun b hb=>by
      by_cases hbb : b=blk
      ·subst hbb
       by_cases hz : news.length=0
       ·have hn0 : news=[]:=List.eq_nil_of_length_eq_zero hz
        rw [hn0]; rfl
       ·exact absurd ⟨rfl,Nat.le_refl _,by omega⟩ (hb (es.length * sz))
      ·exact f5 b hbb) (fun b o hb=>f6 b o hb) f8 f9
    have hnF : ∀ b o,G.S b o → ¬ F b o:=fun b o hs hf=>by
     unfold Gh.S at hs; rw [hF b o hf] at hs; simp at hs
    have hS : ∀ b o,G.S b o→Gh.S { G with W:=fun b o=>if F b o then .imm else G.W b o } b o:=fun b o hs=>by
     have := hnF b o hs
     unfold Gh.S at *
     dsimp only
     rw [if_neg this]; exact hs
    have hc : ∀ b o,G.S b o→(w.setCells blk (es.length * sz) news).cell? ⟨b,o,none⟩=w.cell? ⟨b,o,none⟩:=fun b o hs=>f6 b o (hnF b o hs)
    refine ⟨_,_,_,_,_,hrun,hrel,CRep.mk_sl hexl hroom hmax fun i row hi=>?_, .inr ⟨blk,es.length + xs.length,cap,e2,rfl,⟨hroom,hlc2.2⟩,⟨by rw [f9]; exact hshape,by rw [f8]; exact uFj hfr0 (by rw [Nat.add_mul]; omega)⟩,fun o' h1 h2=>?_⟩,rfl,fun b o hb hw=>f6 b o fun hf=>hw (hF b o hf)⟩
    ·rw [List.getElem?_append] at hi
     split at hi
     ·obtain ⟨q1,q2⟩:=hcr2.elem.2.2.2 _ row hi
      exact ⟨q1,q2.mono hS hc⟩
     ·rename_i hge
      refine ⟨hxrow _ row hi,fun j c hj=>?_⟩
      obtain ⟨v,hv,hrep⟩:=hnrep _ j row c hi hj
      have hlt:=(List.getElem?_eq_some_iff.1 hv).1
      have hidx : 0 + i * sz + j=es.length * sz + ((i - es.length) * sz + j):=by
       rw [Nat.sub_mul]
       have : es.length * sz≤i * sz:=Nat.mul_le_mul_right sz (by omega)
       omega
      rw [hidx]
      refine ⟨?_,v,f7 _ v hv,hrep.mono hS hc⟩
      unfold Gh.S
      dsimp only
      rw [if_pos ⟨rfl,by omega,by omega⟩]
    ·rw [Nat.add_mul] at h1
     obtain ⟨q5,q6⟩:=hspare o' (by omega) h2
     refine ⟨?_,by rw [uCb (f8 _)]; exact q6⟩
     dsimp only
     rw [if_neg (by rintro ⟨_,_,h3⟩; omega)]
     exact q5
  ·exact grow (some ⟨blk,0,none⟩) cap olds hvs hol (by rw [hsz]; exact run_firstCells_some (P:=Z.P) w.drew sz es.length ⟨blk,0,none⟩ es.length cap olds hol hocell) (by omega) horep herow
def uBt (l : List UInt8) : List (List C):=l.map fun b=>[.i .u8 (b.toNat : Int)]
theorem uBN (l : List UInt8) : (uBt l).length=l.length:=by simp [uBt]
theorem uLb (l m : List UInt8) : uBt (l++m)=uBt l++uBt m:=by simp [uBt]
theorem uGU {l : List UInt8} {i : Nat} {row : List C} (h : (uBt l)[i]? = some row) : ∃ b,l[i]? = some b∧row=[.i .u8 (b.toNat : Int)]:=by
 unfold uBt at h
 rw [List.getElem?_map,Option.map_eq_some_iff] at h
 obtain ⟨b,h1,h2⟩:=h
 exact ⟨b,h1,h2.symm⟩
end Go.Abs
namespace Go.Abs
variable {Z : Pg}
def uDg (b : Nat) (w w0 : World) : Prop :=
 (w.cell? ⟨b,0,none⟩=some (.pointer none)∧w0=w.setCell ⟨b,0,none⟩ (.pointer (some ⟨b,0,none⟩)))∨(w.cell? ⟨b,0,none⟩=some (.pointer (some ⟨b,0,none⟩))∧w0=w)
structure BdSys (Z : Pg) where
 tB : TypeId
 tS : TypeId
 tStr : TypeId
 tU : TypeId
 tPU : TypeId
 tI : TypeId
 tN : Nat
 hN1 : tN / 4096=tB
 hN2 : tN % 4096=tU
 fW : FuncId
 fB : FuncId
 hasB : Bool
 fS : FuncId
 jf : TypeInfo
 hu : Z.P.underlying tS=some (.slice tU)
 hstr : Z.P.underlying tStr=some .string
 hpu : Z.P.underlying tPU=some (.pointer tU)
 hinfo : Z.P.info? tU=some jf
 hsz : jf.size=1
 hby : jf.bytes=1
 hze : jf.zero=some (.int .u8 0)
 hcells : Z.P.cellsOf tU=1
 enW : Enters Z fW
 enB : hasB=true→Enters Z fB
 enS : Enters Z fS
 ws : ∀ (b : Nat) (w w0 w1 : World) (v' : Value) (uo : Option Addr) (un uc : Nat) (s : ByteArray),uDg b w w0→w.shape? b=some (tB,2)→w.frozen? ⟨b,0,none⟩=false →
  w0.cell? ⟨b,1,none⟩=some v'→(Builtin.append_ #[tS,tStr] tS #[v', .string s]).run Z.P w0 = .ok (.slice uo un uc) w1→w1.cell? ⟨b,1,none⟩=some v'→w1.frozen? ⟨b,1,none⟩=false →
  Calls Z.P fW #[.pointer (some ⟨b,0,none⟩), .string s] w fun e w'=>e = .returned (.tuple #[.int .i64 s.size, .nilIface])∧w'=w1.setCell ⟨b,1,none⟩ (.slice uo un uc)
 wb : hasB=true → ∀ (b : Nat) (w w0 w1 : World) (v' : Value) (uo : Option Addr) (un uc : Nat) (c : Int),uDg b w w0→w.shape? b=some (tB,2)→w.frozen? ⟨b,0,none⟩=false →
  w0.cell? ⟨b,1,none⟩=some v'→(Builtin.append_ #[tS,tS] tS #[v', .slice (some ⟨w0.heap.size,0,none⟩) 1 1]).run Z.P (w0.alloc (.cells #[.int .u8 c] tU)) = .ok (.slice uo un uc) w1→w1.cell? ⟨b,1,none⟩=some v'→w1.frozen? ⟨b,1,none⟩=false →
  Calls Z.P fB #[.pointer (some ⟨b,0,none⟩), .int .u8 c] w fun e w'=>e = .returned .nilIface∧w'=w1.setCell ⟨b,1,none⟩ (.slice uo un uc)
 st : ∀ (b : Nat) (w w1 w2 : World) (ao : Option Addr) (n cap : Nat) (p : Value) (s : ByteArray),w.cell? ⟨b,1,none⟩=some (.slice ao n cap) →
  (Builtin.unsafeSliceData_ #[tS] tPU #[.slice ao n cap]).run Z.P w.drew = .ok p w1→w1.cell? ⟨b,1,none⟩=some (.slice ao n cap) →
  (Builtin.unsafeString_ #[tPU,tI] tStr #[p, .int .i64 n]).run Z.P w1 = .ok (.string s) w2 →
  Calls Z.P fS #[.pointer (some ⟨b,0,none⟩)] w fun e w'=>e = .returned (.string s)∧w'=w2
def St.newBd (st : St) (t d : Nat) : St:=((st.addBox (.bd t d) [.bl, .sl 1 (uBt [])]).addOwn (.b (.bd t d) 1) 1).put d (true, .v (.ptr (.bd t d) 0))
theorem uIZ {N : Nat} {st : St} {ty d t u : Nat} {ti : TyI} (hu : u / 4096=t) (ht : tyAt Z.T t=some ti) (hz : ti.z=[.o (.pointer none), .sl 1 []]) (hN : Nat.ble (d + 1) N=true) (hfr : st.fresh (.bd u d)=true) :
  Does Z N st (some d) (.alloc t) ty (st.newBd u d):=by
 intro o E G a w hd ho _ hr hE K Q hK
 have hdN : d < E.nt:=by rw [hE.nt]; exact Nat.le_of_ble_eq_true hN
 obtain ⟨i,dd,zv,hi,_,_,_,hzv,_,hall⟩:=(Z.tyOk ht).info
 rw [hz] at hall
 have hcs : zv.cells = #[.pointer none, .slice none 0 0]:=by
  cases hl : zv.cells.toList with
  | nil=>rw [hl] at hall; exact hall.elim
  | cons x r =>
   rw [hl] at hall
   cases r with
   | nil=>exact hall.2.elim
   | cons y r2 =>
    cases r2 with
    | cons _ _=>exact hall.2.2.elim
    | nil =>
     have h1 : CRep w G.S (.o (.pointer none)) x:=CRep.ofConst hall.1
     have h2 : CRep w G.S (.sl 1 []) y:=CRep.ofConst hall.2.1
     have hx : x = .pointer none:=by
      have : uDr (.o (.pointer none)) x=true:=hall.1
      unfold uDr at this
      split at this <;> simp_all
     have hy : y = .slice none 0 0:=by
      have : uDr (.sl 1 []) y=true:=hall.2.1
      unfold uDr at this
      split at this <;> simp_all
     rw [← Array.toArray_toList (xs:=zv.cells),hl,hx,hy]
 have hnew : ∀ j,(w.alloc (.cells zv.cells t)).cell? ⟨w.heap.size,j,none⟩=zv.cells[j]? := fun j=>World.cell?_alloc_new w _ _ _
 let n : Nm:=.bd u d
 let G1:=(G.push w.heap.size fun o=>if o < 2 then .box n else .none).name n (w.heap.size,0)
 have hgrow : Rel E G1 (st.drop n) a (w.alloc (.cells zv.cells t)):=by
  refine (hr.sub (St.drop_sub st n)).grow (uDj w _) ?_ ?_ ?_
  ·intro b o hb
   have : ¬ b=w.heap.size:=by omega
   simp [G1,Gh.name,Gh.push,this]
  ·have hne : ∀ k g x,(st.drop n).get k=some (g,x)→x.has n=false:=fun k g x hk=>St.fresh_has hfr hk
   constructor
   ·intro k g x hk m hm
    have : ¬ m=n:=fun e=>by subst e; rw [hne k g x hk] at hm; simp at hm
    simp [G1,Gh.name,this]; rfl
   ·intro m cs hm
    rw [St.drop_box] at hm
    split at hm
    ·simp at hm
    ·rename_i hmn
     simp [G1,Gh.name,hmn]; rfl
   ·intro m off sz hm
    rw [St.drop_own] at hm
    split at hm
    ·simp at hm
    ·rename_i hmn
     have : m≠n:=fun e=>hmn (by subst e; simp [Pl.inBox,Nm.beq_self])
     simp [G1,Gh.name,this]; rfl
   ·intro j
    have : ¬ (Nm.o j=n):=by simp [n]
    simp [G1,Gh.name,this]; rfl
  ·intro b o hne
   simp only [G1,Gh.name,Gh.push] at hne
   split at hne
   ·rename_i hb; subst hb; simp
   ·have := hr.wf b o hne; simp; omega
 have hA : G1.A n=(w.heap.size,0):=by simp [G1,Gh.name]
 have hbox : uDt (w.alloc (.cells zv.cells t)) G1 n [.bl, .sl 1 []]:=by
  intro j c hj
  rw [hA]
  have hj2 : j < 2:=(List.getElem?_eq_some_iff.1 hj).1
  refine ⟨by simp [G1,Gh.name,Gh.push,hj2],World.frozen?_alloc_new w zv.cells t _,?_⟩
  dsimp only
  rw [Nat.zero_add,hnew,hcs]
  match j,hj with
  | 0,hj=>simp only [List.getElem?_cons_zero,Option.some.injEq] at hj; subst hj; exact ⟨_,rfl,CRep.bl none⟩
  | 1,hj=>simp only [List.getElem?_cons_succ,List.getElem?_cons_zero,Option.some.injEq] at hj; subst hj; exact ⟨_,rfl,CRep.nil 1⟩
  | j + 2,hj=>omega
 have hrel : Rel E G1 (st.addBox n [.bl, .sl 1 []]) a (w.alloc (.cells zv.cells t)):={
  df:=hgrow.df
  tm:=hgrow.tm
  bx:=by
   intro m ds hm
   have : (st.addBox n [.bl, .sl 1 []]).box m=if n=m then some [.bl, .sl 1 []] else (st.drop n).box m:=uBb _ _ _ _
   rw [this] at hm
   split at hm
   ·rename_i he; subst he; simp only [Option.some.injEq] at hm; subst hm; exact hbox
   ·exact hgrow.bx m ds hm
  ow:=hgrow.ow
  wf:=hgrow.wf
  olB:=hgrow.olB
  olO:=hgrow.olO
  nt:=hgrow.nt
  oA:=hgrow.oA
  im:=hgrow.im
  im':=hgrow.im'
  fr:=hgrow.fr
  hB:=hgrow.hB
  lo:=hgrow.lo
  bd:=by
   intro t' k' ds hm hne
   have : (st.addBox n [.bl, .sl 1 []]).box (.bd t' k')=if n = .bd t' k' then some [.bl, .sl 1 []] else (st.drop n).box (.bd t' k'):=uBb _ _ _ _
   rw [this] at hm
   split at hm
   ·rename_i he
    rw [← he,hA]
    have he2 : t=t' / 4096:=by simp [n] at he; rw [← he.1]; exact hu.symm
    refine ⟨rfl,?_,none,?_, .inl rfl⟩
    ·unfold World.shape?
     rw [show (w.alloc (.cells zv.cells t)).heap[w.heap.size]? = some (.cells zv.cells t) from Array.getElem?_push_size]
     simp [hcs,he2]
    ·rw [hnew,hcs]; rfl
   ·exact hgrow.bd t' k' ds hm hne
  mp:=hgrow.mp }
 have hown:=hrel.addOwn (p:=.b n 1) (sz:=1) (v:=.slice none 0 0) (by
  obtain ⟨q1,_,v,q3,_⟩:=hbox 1 _ rfl
  refine ⟨?_,q1⟩
  rw [hA] at q3 ⊢
  dsimp only
  rw [Nat.zero_add,hnew,hcs]; rfl) (.inl rfl)
 have hput:=hown.put hdN (g:=true) (x:=.v (.ptr n 0)) (v:=.pointer (some ⟨w.heap.size,0,none⟩)) (fun _=>by show _=_; rw [hA]) (fun hf=>by simp at hf)
 unfold Oper.wp
 have : (execOp a.eval o).run Z.P w = .ok (.value (.pointer (some ⟨w.heap.size,0,none⟩))) (w.alloc (.cells zv.cells t)):=by
  simp [execOp,ho,Instr.alloc,zeroValue,typeInfo,hi,hzv,newVar,newRow]
 rw [this,Oper.upon_value,hd]
 exact hK G1 _ _ hput
end Go.Abs
namespace Go.Abs
variable {Z : Pg}
theorem Rel.checked {E : Env} {G : Gh} {st : St} {a : Act} {w : World} (hr : Rel E G st a w) {t k : Nat} {cs : List C} (hb : st.box (.bd t k)=some (.bl :: cs)) :
  ∃ w0,uDg (G.A (.bd t k)).1 w w0∧Rel E G (st.store (.bd t k) (.bl :: cs) 0 1) a w0:=by
 obtain ⟨q1,q2,x,q3,q4⟩:=hr.bd t k _ hb (by simp)
 rcases q4 with rfl | rfl
 ·refine ⟨_, .inl ⟨q3,rfl⟩,?_⟩
  have := hr.store1 hb (k := 0) (c := .bl) (v := .pointer (some ⟨(G.A (.bd t k)).1,0,none⟩)) (by simp) (CRep.bl _) (fun _ _=>⟨_,rfl, .inr rfl⟩)
  rw [q1] at this
  exact this
 ·refine ⟨w, .inr ⟨q3,rfl⟩,?_⟩
  refine Rel.sub (st:=st) (st':=st.store (.bd t k) (.bl :: cs) 0 1) ⟨fun _ _ h=>h,fun m ds hm=>?_,fun p s hp=>?_, .inr rfl⟩ hr
  ·rw [St.store_box] at hm
   split at hm
   ·rename_i he; subst he; rw [hb]; exact hm
   ·exact hm
  ·rw [St.store_own] at hp
   split at hp
   ·simp at hp
   ·exact hp
theorem Rel.bdPut {E : Env} {G : Gh} {st : St} {a : Act} {w : World} {t k : Nat} {old : C} {rows : List (List C)} {u : Value} (hr : Rel E G (st.unown (.b (.bd t k) 1)) a w) (hb : st.box (.bd t k)=some [.bl,old])
  (hc : CRep w G.S (.sl 1 rows) u) (ho : OwnAt E.C w G (.b (.bd t k) 1) 1 u) :
  Rel E G (((st.unown (.b (.bd t k) 1)).store (.bd t k) [.bl, .sl 1 rows] 1 1).addOwn (.b (.bd t k) 1) 1) a (w.setCell ⟨(G.A (.bd t k)).1,1,none⟩ u):=by
 have hb' : (st.unown (.b (.bd t k) 1)).box (.bd t k)=some [.bl,old]:=hb
 obtain ⟨q1,_,_,_,_⟩:=hr.bd t k _ hb' (by simp)
 have h1:=hr.store1 hb' (k:=1) (c:=.sl 1 rows) (v:=u) (by simp) hc (fun _ e=>by simp at e)
 obtain ⟨r1,r2,v,r3,r4⟩:=hr.bx _ _ hb' 1 old rfl
 rw [q1,Nat.zero_add] at h1 r1 r3
 refine h1.addOwn (v:=u) ⟨?_,?_⟩ ?_
 ·rw [q1,Nat.zero_add]; exact World.cell?_setCell_same _ _ _ r3
 ·rw [q1,Nat.zero_add]; exact r1
 ·rcases ho with ho | ⟨blk,len,cap,e,q1,q2,q3,q4⟩
  ·exact .inl ho
  ·exact .inr ⟨blk,len,cap,e,q1,q2,⟨by rw [uBV]; exact q3.1,by rw [uC4]; exact q3.2⟩,fun o ho1 ho2=>by rw [World.frozen?_setCell]; exact q4 o ho1 ho2⟩
def St.bw (st : St) (t k : Nat) (l : List UInt8) : St:=(st.store (.bd t k) [.bl, .sl 1 (uBt l)] 0 2).addOwn (.b (.bd t k) 1) 1
theorem uOW {st : St} {t k : Nat} {cs : List C} {l : List UInt8} : Sub (st.bw t k l) ((((st.store (.bd t k) cs 0 1).unown (.b (.bd t k) 1)).store (.bd t k) [.bl, .sl 1 (uBt l)] 1 1).addOwn (.b (.bd t k) 1) 1) where
 t:=fun _ _ h=>h
 bx:=fun m ds hm=>by
  have h1 : (st.store (.bd t k) [.bl, .sl 1 (uBt l)] 0 2).box m=some ds:=hm
  show (((st.store (.bd t k) cs 0 1).unown (.b (.bd t k) 1)).store (.bd t k) [.bl, .sl 1 (uBt l)] 1 1).box m=_
  rw [St.store_box] at h1 ⊢
  split at h1
  ·rename_i he; rw [if_pos he]; exact h1
  ·rename_i he
   rw [if_neg he]
   show (st.store (.bd t k) cs 0 1).box m=_
   rw [St.store_box,if_neg he]; exact h1
 ow:=fun p s hp=>by
  unfold St.bw at hp
  rw [St.addOwn_own] at hp ⊢
  split at hp
  ·rename_i he; rw [if_pos he]; exact hp
  ·rename_i he
   rw [if_neg he]
   rw [St.store_own] at hp ⊢
   split at hp
   ·simp at hp
   ·rename_i hin
    have hin1 : ¬ Pl.inCells (.bd t k) 1 1 p=true:=by
     intro h; apply hin
     cases p with
     | t j=>simp [Pl.inCells] at h
     | b m j =>
      simp only [Pl.inCells,Bool.and_eq_true] at h ⊢
      refine ⟨h.1,Nat.ble_eq_true_of_le (Nat.zero_le _),Nat.ble_eq_true_of_le ?_⟩
      have := Nat.le_of_ble_eq_true h.2.2; omega
    have hin0 : ¬ Pl.inCells (.bd t k) 0 1 p=true:=by
     intro h; apply hin
     cases p with
     | t j=>simp [Pl.inCells] at h
     | b m j =>
      simp only [Pl.inCells,Bool.and_eq_true] at h ⊢
      refine ⟨h.1,Nat.ble_eq_true_of_le (Nat.zero_le _),Nat.ble_eq_true_of_le ?_⟩
      have := Nat.le_of_ble_eq_true h.2.2; omega
    rw [if_neg hin1,St.unown_own,if_neg (fun e=>he e.symm),St.store_own,if_neg hin0]
    exact hp
theorem uMh (l : List UInt8) : ∀ (i : Nat) (row : List C),(uBt l)[i]? = some row→row.length=1:=by
 intro i row hi
 obtain ⟨b,h1,rfl⟩:=uGU hi
 rfl
section
variable {N : Nat} {st : St} {ops : Array Oper} {rest : List Oper} {K : St→Prop} {o : Oper} {d k : Nat} {fo x y : Operand} {ts : Array TypeId} {m : List UInt8}
theorem uNR (B : BdSys Z) {E : Env} {G : Gh} {a : Act} {w : World} (hr : Rel E G st a w) (hb : st.box (.bd B.tN k)=some [.bl, .sl 1 (uBt m)]) (hw : st.own (.b (.bd B.tN k) 1)=some 1) {l : List UInt8} {tx : TypeId} {xv : World→Value} {news : List Value} {pre : World→World}
  (hpre : ∀ w0,Rel E G (st.store (.bd B.tN k) [.bl, .sl 1 (uBt m)] 0 1) a w0→Rel E G (st.store (.bd B.tN k) [.bl, .sl 1 (uBt m)] 0 1) a (pre w0)∧Src Z.P 1 tx (xv w0) (uBt l).length news (pre w0) ∧
   ∀ b o,b < w0.heap.size→(pre w0).cell? ⟨b,o,none⟩=w0.cell? ⟨b,o,none⟩)
  (hrep : ∀ (w' : World) (i j : Nat) (row : List C) (c : C),(uBt l)[i]? = some row→row[j]? = some c → ∃ v,news[i * 1 + j]? = some v∧CRep w' G.S c v) (hlen : m.length + l.length≤140737488355328) :
  ∃ w0 v' uo un uc w1,uDg (G.A (.bd B.tN k)).1 w w0∧w.shape? (G.A (.bd B.tN k)).1=some (B.tB,2)∧w.frozen? ⟨(G.A (.bd B.tN k)).1,0,none⟩=false∧(G.A (.bd B.tN k)).2=0∧w0.cell? ⟨(G.A (.bd B.tN k)).1,1,none⟩=some v' ∧
   (Builtin.append_ #[B.tS,tx] B.tS #[v',xv w0]).run Z.P (pre w0) = .ok (.slice uo un uc) w1∧w1.cell? ⟨(G.A (.bd B.tN k)).1,1,none⟩=some v'∧w1.frozen? ⟨(G.A (.bd B.tN k)).1,1,none⟩=false ∧
   ∃ G1,Rel E G1 (st.bw B.tN k (m++l)) a (w1.setCell ⟨(G.A (.bd B.tN k)).1,1,none⟩ (.slice uo un uc)):=by
 obtain ⟨q1,q2,x0,q3,_⟩:=hr.bd _ _ _ hb (by simp)
 obtain ⟨_,f0,_⟩:=hr.bx _ _ hb 0 _ rfl
 rw [q1,Nat.zero_add] at f0
 obtain ⟨w0,hck,hr0⟩:=hr.checked hb
 obtain ⟨hr1,hsrc,hsame⟩:=hpre w0 hr0
 have hin : Pl.inCells (.bd B.tN k) 0 1 (.b (.bd B.tN k) 1)=false:=by simp [Pl.inCells,Nm.beq_self]; rfl
 have hown0 : (st.store (.bd B.tN k) [.bl, .sl 1 (uBt m)] 0 1).own (.b (.bd B.tN k) 1)=some 1:=by rw [St.store_own,if_neg (by rw [hin]; simp)]; exact hw
 have hbox0 : (st.store (.bd B.tN k) [.bl, .sl 1 (uBt m)] 0 1).box (.bd B.tN k)=some [.bl, .sl 1 (uBt m)]:=by rw [St.store_box,if_pos rfl]
 obtain ⟨v',hv',hown⟩:=hr1.ow _ _ hown0
 obtain ⟨r1,r2,u,r3,r4⟩:=hr1.bx _ _ hbox0 1 _ rfl
 obtain ⟨b1,b2,b3,b4,b5⟩ : w0.cell? ⟨(G.A (.bd B.tN k)).1,1,none⟩=(pre w0).cell? ⟨(G.A (.bd B.tN k)).1,1,none⟩∧u=v'∧(pre w0).cell? ⟨(G.A (.bd B.tN k)).1,1,none⟩=some v'∧(G.A (.bd B.tN k)).1 < (pre w0).heap.size∧G.W (G.A (.bd B.tN k)).1 1 = .box (.bd B.tN k):=by
  obtain ⟨s1,_,u0,s3,_⟩:=hr0.bx _ _ hbox0 1 _ rfl
  rw [q1,Nat.zero_add] at s1 s3
  have hlt : (G.A (.bd B.tN k)).1 < w0.heap.size:=World.block_lt_of_cell? (a:=⟨(G.A (.bd B.tN k)).1,1,none⟩) w0 s3
  have h2:=hv'.1
  rw [q1,Nat.zero_add] at h2 r3
  have hlt2 : (G.A (.bd B.tN k)).1 < (pre w0).heap.size:=World.block_lt_of_cell? (a:=⟨(G.A (.bd B.tN k)).1,1,none⟩) _ r3
  refine ⟨(hsame _ _ hlt).symm,?_,h2,hlt2,s1⟩
  rw [r3] at h2; exact Option.some.inj h2
 subst b2
 obtain ⟨G1,w1,uo,un,uc,hrun,hrel,hc,ho,hA,hcell⟩:=uNw hr1 (p:=.b (.bd B.tN k) 1) (tx:=tx) (ty:=B.tS) (xs:=uBt l) (news:=news) B.hu B.hinfo B.hsz B.hby (by omega) B.hze rfl r4 hown hsrc (uMh l) (fun i j row c h1 h2=>hrep _ i j row c h1 h2) (by
   rw [uBN,uBN]; omega) (by rw [uBN,uBN]; omega) (fun t' k' o' hh=>by simp at hh; rw [← hh.1.1]; exact B.hN2.symm)
 rw [← uLb] at hc
 have hc1 : w1.cell? ⟨(G.A (.bd B.tN k)).1,1,none⟩=some u:=by
  rw [hcell _ _ b4 (by rw [b5]; simp)]; exact b3
 have hput:=Rel.bdPut hrel hbox0 hc ho
 obtain ⟨_,f1,_⟩:=hrel.bx (.bd B.tN k) _ hbox0 1 _ rfl
 rw [hA] at hput f1
 rw [q1,Nat.zero_add] at f1
 exact ⟨w0,u,uo,un,uc,w1,hck,(B.hN1 ▸ q2),f0,q1,by rw [b1]; exact b3,hrun,hc1,f1,G1,hput.sub uOW⟩
theorem uGa (B : BdSys Z) {c : UInt8} {cv : Int} (ho : o.op = .call { callee:=.value fo,args:=#[x,y],argTypes:=ts }) (hg : uBg ops st o=some true) (hd : o.dst=some d) (hN : Nat.ble (d + 1) N=true)
  (hf : lk Z.T st 0 fo=some (true, .fn B.fB [])) (ha : uCo Z.T st ts.toList [x,y]=some (true,[.v (.ptr (.bd B.tN k) 0), .v (.c (.i .u8 cv))])) (hcv : cv=(c.toNat : Int))
  (hb : st.box (.bd B.tN k)=some [.bl, .sl 1 (uBt m)]) (hw : st.own (.b (.bd B.tN k) 1)=some 1) (hlen : m.length + 1≤140737488355328)
  (h : AL Z N ops rest K ((st.bw B.tN k (m++[c])).put d (true, .v (.c (.o .nilIface))))) (hB : B.hasB=true:=by rfl) : AL Z N ops (o :: rest) K st:=by
 refine uDW (fun E G a w hr hE K' Q' hK=>?_) h
 have hdN : d < E.nt:=by rw [hE.nt]; exact Nat.le_of_ble_eq_true hN
 rw [uBW hr hg]
 simp only [if_true]
 obtain ⟨cvs,hfv,hcv'⟩:=uA7 hr hf rfl
 have hcv0 : cvs=[]:=by cases cvs with
  | nil=>rfl
  | cons _ _=>exact hcv'.elim
 subst hcv0
 obtain ⟨hx,hy,_⟩:=uDa hr ha rfl
 have hx1 : a.eval x=_:=hx
 have hy1:=XRep.int hy
 unfold Oper.wp
 rw [uD2 ho hfv (B.enB hB),Oper.upon_enter]
 obtain ⟨w0,v',uo,un,uc,w1,hck,hsh,hfz,hA0,hc0,hrun,hc1,hf1,G1,hrel⟩:=uNR B hr hb hw (l:=[c]) (tx:=B.tS) (xv:=fun w=>.slice (some ⟨w.heap.size,0,none⟩) 1 1) (news:=[.int .u8 cv]) (pre:=fun w=>w.alloc (.cells #[.int .u8 cv] B.tU))
  (fun w0 h0=>⟨h0.grow (uDj w0 _) (fun _ _ _=>rfl) (SameA.refl _ _) (fun b o hb=>by have := h0.wf b o hb; simp; omega),by
   have := Src.ofSlice (P := Z.P) (size := 1) (w0.alloc (.cells #[.int .u8 cv] B.tU)) B.hu ⟨w0.heap.size,0,none⟩ 1 1 [.int .u8 cv] rfl (fun j u hj=>by
    rw [uCp,World.cell?_alloc_new,Nat.zero_add]
    match j,hj with
    | 0,hj=>simpa using hj
    | j + 1,hj=>simp at hj) (fun u hu=>by simp at hu; subst hu; rfl)
   rw [uBN]; exact this,fun b o hb=>World.cell?_alloc_lt w0 _ _ hb⟩) (fun w' i j row c' hi hj=>by
   obtain ⟨b,h1,rfl⟩:=uGU hi
   have hi0 : i=0 := by have := (List.getElem?_eq_some_iff.1 h1).1; simp at this; omega
   subst hi0
   have hj0 : j=0 := by have := (List.getElem?_eq_some_iff.1 hj).1; simp at this; omega
   subst hj0
   simp only [List.getElem?_cons_zero,Option.some.injEq] at h1 hj
   subst h1; subst hj
   exact ⟨_,rfl,by rw [hcv]; exact CRep.i _ _⟩) (by simpa using hlen)
 have hcall:=B.wb hB (G.A (.bd B.tN k)).1 w w0 w1 v' uo un uc cv hck hsh hfz hc0 hrun hc1 hf1
 have hargs : ((#[x,y] : Array Operand).toList.map a.eval++[]).toArray = #[.pointer (some ⟨(G.A (.bd B.tN k)).1,0,none⟩), .int .u8 cv]:=by
  simp [hx1,hy1,hA0]
 rw [hargs]
 refine hcall.mono ?_
 rintro e w' ⟨rfl,rfl⟩
 dsimp only
 rw [hd] at hK ⊢
 exact hK G1 _ _ (hrel.put hdN (g:=true) (fun _=>CRep.o _ rfl) (fun hf=>by simp at hf))
end
end Go.Abs
namespace Go.Abs
variable {Z : Pg}
theorem uA6 {N : Nat} {ι : Type} {c : Code} {Q : Exit→St→Prop} {st : St} (F : St) (V : ι→List (Nat × Bool × X)) (VB : ι→List (Nm × List C)) (ok : ι→Prop) (m : ι→Nat) (i0 : ι) (h0 : ok i0)
  (hs : Sub { t:=V i0++F.t,bx:=VB i0++F.bx,ow:=F.ow,mp:=F.mp } st)
  (round : ∀ i,ok i→AWP Z N c (uIl (fun s=>∃ j,ok j∧m j < m i∧Sub { t:=V j++F.t,bx:=VB j++F.bx,ow:=F.ow,mp:=F.mp } s) Q) { t:=V i++F.t,bx:=VB i++F.bx,ow:=F.ow,mp:=F.mp }) : AWP Z N (.loop c) Q st :=
 uDn (fun i=>{ t:=V i++F.t,bx:=VB i++F.bx,ow:=F.ow,mp:=F.mp }) ok m i0 h0 hs round
def eqC : Nat→C→C→Option Bool
 | 1, .i k m, .i k' n=>cond (decide (k=k')) (some (m == n)) none
 | 0, .b x, .b y=>some (x == y)
 | 2, .s l, .s m=>some (l == m)
 | _,_,_=>none
def eqFl : List Nat→List C→List C→Option Bool
 | [],[],[]=>some true
 | k :: ks,c :: cs,d :: ds=>match eqC k c d,eqFl ks cs ds with
  | some x,some y=>some (x && y)
  | _,_=>none
 | _,_,_=>none
def uHB (P : Program) (t : TypeId) : Option Nat:=match P.underlying t with
 | some .bool=>some 0
 | some (.int _)=>some 1
 | some .string=>some 2
 | _=>none
def uJ5 (P : Program) : List Field→Nat→Option (List Nat)
 | [],_=>some []
 | f :: r, n => cond (Nat.beq f.offset n && f.name != "_") (match uHB P f.type, uJ5 P r (n + 1) with
  | some k,some ks=>some (k :: ks)
  | _,_=>none) none
theorem uOi {P : Program} {w : World} {S : Nat→Nat→Prop} {c d : C} {u v : Value} {r : Bool} {t : TypeId} {q : Nat} (n : Nat) (hu : CRep w S c u) (hv : CRep w S d v) (h : eqC q c d=some r)
  (ht : uHB P t=some q) : (Op.equalIn (n + 1) t u v).run P w = .ok r w:=by
 unfold uHB at ht
 unfold eqC at h
 split at h
 ·rename_i k m k' n'
  cases hu; cases hv
  by_cases hk : k=k'
  ·subst hk
   simp at h; subst h
   split at ht <;> first | (rename_i hd; simp at ht; done) | skip
   all_goals first
    | (rename_i hd; exact run_equalIn_int w n t k _ m n' hd)
    | (simp at ht)
  ·simp [hk] at h
 ·cases hu; cases hv
  simp at h; subst h
  split at ht <;> first
   | (rename_i hd; exact run_equalIn_bool' w n t _ _ hd)
   | (simp at ht)
 ·rename_i l m
  cases hu; cases hv
  simp at h; subst h
  split at ht <;> first
   | (rename_i hd; rw [run_equalIn_string w n t _ _ hd,uF8,uF8])
   | (simp at ht)
 ·simp at h
theorem uJC {P : Program} {w : World} {t : TypeId} {q : Nat} (ht : uHB P t=some q) : (isAgg t).run P w = .ok false w:=by
 unfold uHB at ht
 unfold isAgg underlying
 split at ht <;> simp_all
theorem uJS {P : Program} {w : World} {S : Nat→Nat→Prop} {xs ys : Array Value} (n : Nat) : ∀ {fs : List Field} {off : Nat} {ks : List Nat} {cs ds : List C} {us vs : List Value} {r : Bool},uJ5 P fs off=some ks→eqFl ks cs ds=some r →
  All2 (CRep w S) cs us→All2 (CRep w S) ds vs→xs.toList.drop off=us→ys.toList.drop off=vs→(Op.eqFields (n + 1) xs ys fs).run P w = .ok r w
 | [],off,ks,cs,ds,us,vs,r,hf,he,_,_,_,_=>by
  simp [uJ5] at hf; subst hf
  unfold eqFl at he
  split at he <;> simp_all [Op.eqFields]
 | f :: fs,off,ks,cs,ds,us,vs,r,hf,he,hu,hv,hx,hy=>by
  simp only [uJ5] at hf
  cases hb : (Nat.beq f.offset off && f.name != "_") with
  | false=>rw [hb] at hf; simp at hf
  | true =>
   rw [hb] at hf
   simp only [cond_true] at hf
   rw [Bool.and_eq_true] at hb
   have hoff : f.offset=off:=Nat.eq_of_beq_eq_true hb.1
   have hname : f.name ≠ "_" := by simpa using hb.2
   split at hf
   ·rename_i k ks' hk hks
    simp at hf; subst hf
    unfold eqFl at he
    split at he
    ·simp_all
    ·rename_i k2 ks2 c cs' d ds' heq
     obtain ⟨rfl,rfl⟩:=List.cons.inj heq
     split at he
     ·rename_i x y hx1 hy1
      simp at he; subst he
      cases us with
      | nil=>exact hu.elim
      | cons u us =>
      cases vs with
      | nil=>exact hv.elim
      | cons v vs =>
      have hxu : xs[off]? = some u:=by
       have := congrArg (·[0]?) hx
       simpa [List.getElem?_drop] using this
      have hyv : ys[off]? = some v:=by
       have := congrArg (·[0]?) hy
       simpa [List.getElem?_drop] using this
      have hx2 : xs.toList.drop (off + 1)=us:=by rw [← List.drop_drop,hx]; rfl
      have hy2 : ys.toList.drop (off + 1)=vs:=by rw [← List.drop_drop,hy]; rfl
      have ih:=uJS (P:=P) (w:=w) (S:=S) (xs:=xs) (ys:=ys) n hks hy1 hu.2 hv.2 hx2 hy2
      have h1:=uOi (P:=P) n hu.1 hv.1 hx1 hk
      have hA:=uJC (w:=w) hk
      simp only [Op.eqFields,if_pos hname,Sem.run_bind]
      have hp1 : (part f.type xs f.offset).run P w = .ok u w:=by simp [part,hA,hoff,hxu]
      have hp2 : (part f.type ys f.offset).run P w = .ok v w:=by simp [part,hA,hoff,hyv]
      rw [hp1]
      simp only [Result.andThen_ok]
      rw [hp2]
      simp only [Result.andThen_ok]
      rw [h1]
      simp only [Result.andThen_ok]
      cases x with
      | false=>simp
      | true=>simpa using ih
     ·simp at he
    ·simp at he
   ·simp at hf
section
variable {st : St} {ty : TypeId} {gate : Bool}
theorem uHR {x y : Operand} {t t' : TypeId} {gx gy neg : Bool} {cs ds : List C} {fs : Array Field} {ks : List Nat} {r : Bool} {op : BinOp} (hop : (op = .eql∧neg=false)∨(op = .neq∧neg=true))
  (hx : lk Z.T st ty x=some (gx, .v (.agg cs))) (hy : lk Z.T st ty y=some (gy, .v (.agg ds)))
  (hgx : gate=true→gx=true) (hgy : gate=true→gy=true) (hu : Z.P.underlying t=some (.struct fs)) (hk : uJ5 Z.P fs.toList 0=some ks) (hst : Z.P.stoodInHeld t=false) (heg : Z.P.eqGuardType Z.P.depth t=false)
  (he : eqFl ks cs ds=some r) : PureOk Z st (.binOp op t x y t') ty gate (.v (.c (.b (r != neg)))):=by
 intro o E G a w ho hty hr hgt
 obtain ⟨us,hus,hcu⟩:=uA7 hr hx (hgx hgt)
 obtain ⟨vs,hvs,hcv⟩:=uA7 hr hy (hgy hgt)
 have hfo : Z.P.fieldsOf t=fs:=by simp [Program.fieldsOf,hu]
 have hrun : (Op.equalIn 10000 t (.agg us.toArray) (.agg vs.toArray)).run Z.P w = .ok r w:=by
  rw [show (10000 : Nat)=9998 + 1 + 1 from rfl,run_equalIn_agg w _ t _ _ (by rw [hfo]; exact hu) hst,hfo]
  exact uJS 9998 hk he hcu hcv (by simp) (by simp)
 refine ⟨.bool (r != neg),CRep.b _,?_⟩
 simp only [execOp,ho,hus,hvs,Sem.run_bind,run_eqGuard_agg w op t x y _ _ heg,Result.andThen_ok]
 rcases hop with ⟨rfl,rfl⟩ | ⟨rfl,rfl⟩
 ·rw [run_eql_struct,hrun]; simp [Result.andThen]
 ·rw [run_neq_struct,hrun]; simp [Result.andThen]
theorem uH1 {t t' : TypeId} {x y : Operand} {gx gy : Bool} {k : IntKind} {m n s : Int} (hx : lk Z.T st ty x=some (gx, .v (.c (.i k m)))) (hy : lk Z.T st ty y=some (gy, .v (.c (.i k n))))
  (hgx : gate=true→gx=true) (hgy : gate=true→gy=true) (hn : gate=true→n≠0) (hs : gate=true→k.wrap (m.tdiv n)=s) : PureOk Z st (.binOp .quo t x y t') ty gate (.v (.c (.i k s))):=by
 intro o E G a w ho hty hr hgt
 exact uM4 hx hy hgx hgy (hn hgt) (hs hgt) o E G a w ho hty hr hgt
theorem uHU {x : Operand} {src dst e : TypeId} {g : Bool} {l : List UInt8} {es : List (List C)} (h : lk Z.T st ty x=some (g, .v (.c (.sl 1 es)))) (hes : es=uBt l) (hg : gate=true→g=true)
  (hs : Z.P.underlying src=some (.slice e)) (he : Z.P.underlying e=some (.int .u8)) (hd : Z.P.underlying dst=some .string) : PureOk Z st (.convert src dst x) ty gate (.v (.c (.s l))):=by
 subst hes
 intro o E G a w ho hty hr hgt
 have hc : CRep w G.S (.sl 1 (uBt l)) _:=uA7 hr h (hg hgt)
 have hlm:=hc.lenMax
 rw [uBN] at hlm
 refine ⟨.string ⟨l.toArray⟩,CRep.s l hlm,?_⟩
 have hrun : (convert src dst (a.eval x)).run Z.P w = .ok (.string ⟨l.toArray⟩) w:=by
  generalize a.eval x=v at hc
  rcases hc.sl_cases with ⟨a',rfl,he0⟩ | ⟨blk,off,len,cap,rfl,hlen⟩
  ·have hl0 : l=[]:=by
    cases l with
    | nil=>rfl
    | cons b l=>simp [uBt] at he0
   subst hl0
   cases a' with
   | none =>
    rw [run_convert_bytes_string w src dst e none 0 0 hs he hd]
    simp [Conv.bytesToString]
    rfl
   | some a'=>exact run_convert_bytes_back w src dst e a' 0 [] hs he hd (fun j hj=>by simp at hj)
  ·obtain ⟨h1,h2,h3,h4⟩:=hc.elem
   rw [uBN] at h1
   subst h1
   refine run_convert_bytes_back w src dst e _ cap l hs he hd fun j hj=>?_
   obtain ⟨_,hrow⟩:=h4 j [.i .u8 (l[j].toNat : Int)] (by simp [uBt,List.getElem?_eq_getElem hj])
   obtain ⟨_,u,q1,q2⟩:=hrow 0 _ rfl
   cases q2
   rw [uCp]
   simpa using q1
 simp only [execOp,ho,Sem.run_bind,hrun,Result.andThen_ok]
 rfl
end
end Go.Abs
namespace Go.Abs
variable {Z : Pg}
def C.ex : C→C
 | .sl _ []=>.o (.slice none 0 0)
 | c=>c
theorem uOT {w : World} {S : Nat→Nat→Prop} {c : C} {v : Value} (h : uDr c v=true) : CRep w S c.ex v:=by
 unfold C.ex
 split
 ·unfold uDr at h
  split at h <;> first
   | (rename_i he; simp at he; done)
   | skip
  all_goals first
   | exact CRep.o _ rfl
   | simp_all
 ·exact CRep.ofConst h
theorem All2.exs {w : World} {S : Nat→Nat→Prop} : ∀ {cs : List C} {vs : List Value},All2 (fun c v=>uDr c v=true) cs vs→All2 (CRep w S) (cs.map C.ex) vs
 | [],[],_=>trivial
 | _ :: _,_ :: _,h=>⟨uOT h.1,All2.exs h.2⟩
 | [],_ :: _,h=>h.elim
 | _ :: _,[],h=>h.elim
section
variable {N : Nat} {st : St} {ty : TypeId} {gate : Bool} {ops : Array Oper} {rest : List Oper} {K : St→Prop}
theorem uI2 {d : Nat} {t : TypeId} {ti : TyI} (ht : tyAt Z.T t=some ti) (hN : Nat.ble (d + 1) N=true) (hfr : ∀ k g x,st.get k=some (g,x)→x.has (.l d)=false) :
  Does Z N st (some d) (.alloc t) ty ((st.addBox (.l d) (ti.z.map C.ex)).put d (true, .v (.ptr (.l d) 0))):=by
 intro o E G a w hd ho _ hr hE K Q hK
 have hdN : d < E.nt:=by rw [hE.nt]; exact Nat.le_of_ble_eq_true hN
 obtain ⟨i,dd,zv,hi,_,_,_,hz,_,hall⟩:=(Z.tyOk ht).info
 obtain ⟨G',hr'⟩:=hr.boxed hdN hfr (t:=t) (All2.exs (w:=w) (S:=G.S) hall)
 unfold Oper.wp
 have : (execOp a.eval o).run Z.P w = .ok (.value (.pointer (some ⟨w.heap.size,0,none⟩))) (w.alloc (.cells zv.cells t)):=by
  simp [execOp,ho,Instr.alloc,zeroValue,typeInfo,hi,hz,newVar,newRow]
 rw [this,Oper.upon_value,hd]
 exact hK G' _ _ hr'
theorem uGi {d : Nat} {t : TypeId} {ti : TyI} {cs : List C} (ht : tyAt Z.T t=some ti) (hz : ti.z.map C.ex=cs) (hN : Nat.ble (d + 1) N=true) (hfr : st.fresh (.l d)=true) :
  Does Z N st (some d) (.alloc t) ty ((st.addBox (.l d) cs).put d (true, .v (.ptr (.l d) 0))):=by
 subst hz; exact uI2 ht hN fun _ _ _ hk=>St.fresh_has hfr hk
def St.own0 (st : St) (n : Nm) (cs : List C) (off sz : Nat) : St:=({ st with bx:=(n,cs.set off (.sl sz [])) :: st.bx } : St).addOwn (.b n off) sz
theorem Rel.own0 {E : Env} {G : Gh} {st : St} {a : Act} {w : World} (h : Rel E G st a w) {n : Nm} {cs : List C} {off sz : Nat} (hb : st.box n=some cs) (hc : cs[off]? = some (.o (.slice none 0 0))) : Rel E G (st.own0 n cs off sz) a w:=by
 have hlt : off < cs.length:=(List.getElem?_eq_some_iff.1 hc).1
 have hbox:=h.bx n cs hb
 have hr : Rel E G { st with bx:=(n,cs.set off (.sl sz [])) :: st.bx } a w:={
  df:=h.df
  tm:=h.tm
  bx:=by
   intro m ds hm
   have : getB ((n,cs.set off (.sl sz [])) :: st.bx) m=some ds:=hm
   rw [uBb] at this
   split at this
   ·rename_i he; subst he
    simp only [Option.some.injEq] at this; subst this
    intro j c hj
    rw [List.getElem?_set] at hj
    split at hj
    ·rename_i he; subst he
     simp only [Option.some.injEq] at hj; subst hj
     obtain ⟨q1,q2,v,q3,q4⟩:=hbox off _ hc
     cases q4
     exact ⟨q1,q2,_,q3,CRep.nil sz⟩
    ·exact hbox j c hj
   ·exact h.bx m ds this
  ow:=h.ow
  wf:=h.wf
  olB:=h.olB
  olO:=h.olO
  nt:=h.nt
  oA:=h.oA
  im:=h.im
  im':=h.im'
  fr:=h.fr
  hB:=h.hB
  lo:=h.lo
  bd:=by
   intro t k ds hm hne
   have : getB ((n,cs.set off (.sl sz [])) :: st.bx) (.bd t k)=some ds:=hm
   rw [uBb] at this
   split at this
   ·rename_i he; subst he
    exact h.bd t k cs hb (by intro e; subst e; simp at hlt)
   ·exact h.bd t k ds this hne
  mp:=h.mp }
 obtain ⟨q1,q2,v,q3,q4⟩:=hbox off _ hc
 cases q4
 exact hr.addOwn (p:=.b n off) (v:=.slice none 0 0) ⟨q3,q1⟩ (.inl rfl)
theorem uDf {c : Code} {Q : Exit→St→Prop} (n : Nm) (off sz : Nat) {cs ds : List C} (hb : st.box n=some cs) (hc : cs[off]? = some (.o (.slice none 0 0))) (hds : cs.set off (.sl sz [])=ds)
  (h : AWP Z N c Q (({ st with bx:=(n,ds) :: st.bx } : St).addOwn (.b n off) sz)) : AWP Z N c Q st:=by
 subst hds
 exact fun E G a w hr hE=>h E G a w (hr.own0 hb hc) hE
end
end Go.Abs
namespace Go.Abs
variable {Z : Pg}
theorem cell?_freeze (w : World) (p a : Addr) (n : Nat) : (w.freeze p n).cell? a=w.cell? a:=by
 unfold World.freeze
 split
 ·rfl
 ·simp only [World.cell?,Array.getElem?_modify]
  by_cases h : p.block=a.block
  ·rw [if_pos h]
   cases hh : w.heap[a.block]? with
   | none=>rfl
   | some o=>cases o <;> rfl
  ·rw [if_neg h]
theorem shape?_freeze (w : World) (p : Addr) (n b : Nat) : (w.freeze p n).shape? b=w.shape? b:=by
 unfold World.freeze
 split
 ·rfl
 ·simp only [World.shape?,Array.getElem?_modify]
  by_cases h : p.block=b
  ·rw [if_pos h]
   cases hh : w.heap[b]? with
   | none=>rfl
   | some o=>cases o <;> rfl
  ·rw [if_neg h]
theorem uC2 (w : World) (p : Addr) (n b : Nat) (h : p.block≠b) : (w.freeze p n).heap[b]? = w.heap[b]? := by
 unfold World.freeze
 split
 ·rfl
 ·simp only [Array.getElem?_modify,if_neg h]
theorem uCA (w : World) (p : Addr) (n b : Nat) (h : p.block≠b) : uBF (w.freeze p n) b=uBF w b:=by
 unfold uBF
 rw [uC2 w p n b h]
theorem uFE {w : World} {b k n : Nat} (h : uHx (uBF w b) k) (hn : n≤k) : uHx (uBF (w.freeze ⟨b,0,none⟩ n) b) k:=by
 unfold World.freeze
 split
 ·exact h
 ·rename_i hne
  unfold uBF at h ⊢
  dsimp only
  rw [Array.getElem?_modify,if_pos rfl]
  cases hh : w.heap[b]? with
  | none=>intro lo hi e; simp at e
  | some ob =>
   rw [hh] at h
   cases ob with
   | cells c e fr =>
    obtain ⟨lo,hi⟩:=fr
    have := h lo hi rfl
    intro lo' hi' e'
    simp only [Option.map_some,Option.some.injEq] at e'
    split at e'
    ·simp at e'; omega
    ·rename_i hlh
     have hlh' : lo≠hi:=by simpa using hlh
     simp at e'; omega
   | _=>intro lo hi e; simp at e
theorem uGh (w : World) (p : Addr) (n : Nat) : (w.freeze p n).heap.size=w.heap.size:=by
 unfold World.freeze; split <;> simp
theorem uMH (w : World) (p : Addr) (n : Nat) : (w.freeze p n).os=w.os∧(w.freeze p n).tape=w.tape∧(w.freeze p n).output=w.output:=by
 unfold World.freeze; split <;> exact ⟨rfl,rfl,rfl⟩
theorem Rel.frz0 {E : Env} {G : Gh} {st : St} {a : Act} {w : World} (h : Rel E G st a w) {p : Pl} {sz blk len cap : Nat} {es : List (List C)} (hsz : sz≠0) (ho : OwnAt E.C w G p sz (.slice (some ⟨blk,0,none⟩) len cap))
  (hc : CRep w G.S (.sl sz es) (.slice (some ⟨blk,0,none⟩) len cap)) (n : Nat) (hn : n≤len * sz) (hold : E.D=0) : Rel E G st a (w.freeze ⟨blk,0,none⟩ n):=by
 rw [E.C_new hold] at ho
 rcases ho with ho | ⟨blk2,len2,cap2,e,hv,⟨hlc,hB,_⟩,⟨hsh,hfr⟩,hsp⟩
 ·simp at ho
 ·simp only [Value.slice.injEq,Option.some.injEq,Addr.mk.injEq] at hv
  obtain ⟨⟨rfl,_⟩,rfl,rfl⟩:=hv
  have himm : ∀ o,o < len * sz→G.W blk o = .imm:=by
   intro o ho
   obtain ⟨hl,_,_,hrow⟩:=hc.elem
   have hi : o / sz < len:=Nat.div_lt_of_lt_mul (by rw [Nat.mul_comm]; exact ho)
   have hj : o % sz < sz:=Nat.mod_lt _ (by omega)
   obtain ⟨h1,h2⟩:=hrow (o / sz) _ (List.getElem?_eq_getElem (by omega))
   obtain ⟨h3,_⟩:=h2 (o % sz) _ (List.getElem?_eq_getElem (by omega))
   have : 0 + o / sz * sz + o % sz=o:=by rw [Nat.zero_add,Nat.mul_comm]; exact Nat.div_add_mod o sz
   rw [this] at h3
   exact h3
  have hout : ∀ o,cap * sz≤o→w.cell? ⟨blk,o,none⟩=none:=by
   intro o ho
   unfold World.shape? at hsh
   unfold World.cell?
   split at hsh
   ·rename_i c e3 fz hheap
    simp only [Option.some.injEq,Prod.mk.injEq] at hsh
    simp only [hheap]
    simp; omega
   ·simp at hsh
  have hlcs : len * sz≤cap * sz:=Nat.mul_le_mul_right _ hlc
  have hnobox : ∀ o m,G.W blk o = .box m→w.cell? ⟨blk,o,none⟩=none:=by
   intro o m hm
   rcases Nat.lt_or_ge o (len * sz) with h1 | h1
   ·rw [himm o h1] at hm; simp at hm
   ·rcases Nat.lt_or_ge o (cap * sz) with h2 | h2
    ·rw [(hsp o h1 h2).1] at hm; simp at hm
    ·exact hout o h2
  have hcell : ∀ b o,(w.freeze ⟨blk,0,none⟩ n).cell? ⟨b,o,none⟩=w.cell? ⟨b,o,none⟩:=fun b o=>cell?_freeze w _ _ n
  constructor
  ·exact h.df
  ·intro k g x hk
   obtain ⟨u,hu,h1,h2⟩:=h.tm k g x hk
   exact ⟨u,hu,fun hg=>(h1 hg).mono (fun _ _ hs=>hs) (fun b o _=>hcell b o) (fun _ _=>rfl),h2⟩
  ·intro m cs hm j c hj
   obtain ⟨q1,q2,u,q3,q4⟩:=h.bx m cs hm j c hj
   have hne : blk≠(G.A m).1:=by
    intro e
    rw [← e] at q1 q3
    rw [hnobox _ _ q1] at q3; simp at q3
   refine ⟨q1,?_,u,by rw [hcell]; exact q3,q4.mono (fun _ _ hs=>hs) fun b o _=>hcell b o⟩
   rw [uCb (uCA w _ n _ hne)]; exact q2
  ·intro q s hq
   obtain ⟨v,hv,hown⟩:=h.ow q s hq
   refine ⟨v,?_,?_⟩
   ·cases q with
    | t k=>exact hv
    | b m off=>exact ⟨by rw [hcell]; exact hv.1,hv.2⟩
   ·rcases hown with hown | ⟨b2,l2,c2,e2,q1,q2,q3,q4⟩
    ·exact .inl hown
    ·refine .inr ⟨b2,l2,c2,e2,q1,q2,⟨by rw [shape?_freeze]; exact q3.1,?_⟩,fun o h1 h2=>?_⟩
     ·by_cases hb : blk=b2
      ·subst hb
       refine uFE q3.2 ?_
       have hcc : cap * sz=c2 * s:=by
        have := q3.1
        rw [hsh] at this
        simp at this; exact this.2
       have hl2 : l2 * s≤c2 * s:=Nat.mul_le_mul_right _ q2.1
       rcases Nat.lt_or_ge (l2 * s) (len * sz) with hlt | hge
       ·have hw:=(q4 (l2 * s) (Nat.le_refl _) (by omega)).1
        rw [himm _ hlt] at hw; simp at hw
       ·omega
      ·rw [uCA _ _ _ _ hb]; exact q3.2
     ·obtain ⟨q5,q6⟩:=q4 o h1 h2
      refine ⟨q5,?_⟩
      by_cases hb : blk=b2
      ·subst hb
       have hge : len * sz≤o:=by
        rcases Nat.lt_or_ge o (len * sz) with hlt | hge
        ·rw [himm _ hlt] at q5; simp at q5
        ·exact hge
       exact uI5 (uFE hfr hn) o hge
      ·rw [uCb (uCA w _ n _ hb)]; exact q6
  ·intro b o hb; rw [uGh]; exact h.wf b o hb
  ·exact h.olB
  ·exact h.olO
  ·exact h.nt
  ·exact h.oA
  ·exact h.im
  ·exact h.im'
  ·obtain ⟨f1,f2,f3⟩:=uMH w ⟨blk,0,none⟩ n
   refine h.fr.trans ⟨f1,f2,f3,by rw [uGh]; exact Nat.le_refl _,fun b hb _=>uC2 w _ n b (by show blk≠b; omega),fun b o _ _=>hcell b o,fun b hb=>uCA w _ n b (by show blk≠b; omega),fun b _=>shape?_freeze w _ n b⟩
  ·exact h.hB
  ·exact h.lo
  ·intro t k cs hb hne
   obtain ⟨q1,q2,x,q3,q4⟩:=h.bd t k cs hb hne
   exact ⟨q1,by rw [shape?_freeze]; exact q2,x,by rw [hcell]; exact q3,q4⟩
  ·intro x hx
   obtain ⟨q1,q2,q3⟩:=h.mp x hx
   refine ⟨q1.of_same (uC2 w _ n _ ?_),q2,q3⟩
   intro e
   obtain ⟨ms,clock,r1,_⟩:=q1
   have e : blk=x.1:=e
   rw [← e] at r1
   simp [World.shape?,r1] at hsh
section
variable {N : Nat} {st : St} {ops : Array Oper} {rest : List Oper} {K : St→Prop} {o : Oper} {d k : Nat} {fo x : Operand} {ts : Array TypeId} {m : List UInt8}
theorem uO2 (B : BdSys Z) (ho : o.op = .call { callee:=.value fo,args:=#[x],argTypes:=ts }) (hg : uBg ops st o=some true) (hd : o.dst=some d) (hN : Nat.ble (d + 1) N=true)
  (hf : lk Z.T st 0 fo=some (true, .fn B.fS [])) (ha : uCo Z.T st ts.toList [x]=some (true,[.v (.ptr (.bd B.tN k) 0)]))
  (hb : st.box (.bd B.tN k)=some [.bl, .sl 1 (uBt m)]) (hw : st.own (.b (.bd B.tN k) 1)=some 1)
  (h : AL Z N ops rest K (st.put d (true, .v (.c (.s m))))) (hz : Z.old=false:=by rfl) : AL Z N ops (o :: rest) K st:=by
 refine uDW (fun E G a w hr hE K' Q' hK=>?_) h
 have hdN : d < E.nt:=by rw [hE.nt]; exact Nat.le_of_ble_eq_true hN
 rw [uBW hr hg]
 simp only [if_true]
 obtain ⟨cvs,hfv,hcv⟩:=uA7 hr hf rfl
 have hcv0 : cvs=[]:=by cases cvs with
  | nil=>rfl
  | cons _ _=>exact hcv.elim
 subst hcv0
 obtain ⟨hx,_⟩:=uDa hr ha rfl
 have hx1 : a.eval x=_:=hx
 obtain ⟨q1,q2,x0,q3,_⟩:=hr.bd _ _ _ hb (by simp)
 rw [q1] at hx1
 have hargs : ((#[x] : Array Operand).toList.map a.eval++[]).toArray = #[.pointer (some ⟨(G.A (.bd B.tN k)).1,0,none⟩)]:=by
  simp [hx1]
 unfold Oper.wp
 rw [uD2 ho hfv B.enS,Oper.upon_enter,hargs]
 obtain ⟨v',hv',hown⟩:=hr.ow _ _ hw
 obtain ⟨r1,r2,u,r3,r4⟩:=hr.bx _ _ hb 1 _ rfl
 have h2:=hv'.1
 rw [q1,Nat.zero_add] at h2 r3
 obtain rfl : u=v':=by rw [r3] at h2; exact Option.some.inj h2
 have hlm:=r4.lenMax
 rw [uBN] at hlm
 have hbd:=hr.drew
 have key : ∃ w2,Calls Z.P B.fS #[.pointer (some ⟨(G.A (.bd B.tN k)).1,0,none⟩)] w (fun e w'=>e = .returned (.string ⟨m.toArray⟩)∧w'=w2)∧Rel E G st a w2:=by
  have hbd : Rel E G st a w.drew:=hr.drew
  rcases hown with rfl | ⟨blk,len,cap,e,rfl,h5,h6,h7⟩
  ·have hm0 : m=[]:=by
    cases m with
    | nil=>rfl
    | cons c l=>have := r4; cases this with
     | _=>simp_all [uBt]
   subst hm0
   exact ⟨w.drew,B.st _ w w.drew w.drew none 0 0 (.pointer none) .empty r3 (Lib.run_unsafeSliceData_nil _ _ _ _ _) r3 (Lib.run_unsafeString_none _ _ _ _ _),hbd⟩
  ·have hml : m.length=len := by have := r4.elem.1; rw [uBN] at this; exact this
   have heU : e=B.tU:=by rw [h5.2.2 B.tN k 1 rfl]; exact B.hN2
   subst heU
   by_cases hm0 : m=[]
   ·subst hm0
    simp only [List.length_nil] at hml
    subst hml
    by_cases hc0 : cap=0
    ·subst hc0
     have hz:=Lib.run_unsafeSliceData_zero (P:=Z.P) w.drew #[B.tS] B.tPU B.tU B.hpu ⟨blk,0,none⟩ 0 _ h6.1
     refine ⟨_,B.st _ w _ _ (some ⟨blk,0,none⟩) 0 0 _ .empty r3 hz ?_ (Lib.run_unsafeString_none _ _ _ _ _),hbd.grow (uDj w.drew _) (fun _ _ _=>rfl) (SameA.refl _ _) (fun b o hb=>by have := hbd.wf b o hb; simp at this ⊢; omega)⟩
     rw [World.cell?_alloc_lt _ _ _ (by
      have := World.block_lt_of_cell? (a := ⟨(G.A (.bd B.tN k)).1,1,none⟩) w r3
      exact this)]
     exact r3
    ·exact ⟨w.drew,B.st _ w w.drew w.drew (some ⟨blk,0,none⟩) 0 cap _ .empty r3 (Lib.run_unsafeSliceData_row _ _ _ _ _ _ hc0) r3 (Lib.run_unsafeString_none _ _ _ _ _),hbd⟩
   ·have hne : m.length≠0:=by simpa using hm0
    have hc0 : cap≠0:=by omega
    subst hml
    refine ⟨w.drew.freeze ⟨blk,0,none⟩ m.length,B.st _ w w.drew _ (some ⟨blk,0,none⟩) m.length cap _ ⟨m.toArray⟩ r3 (Lib.run_unsafeSliceData_row _ _ _ _ _ _ hc0) r3 (Lib.run_unsafeString_row (P:=Z.P) w.drew _ _ _ B.tU B.hpu B.hcells blk (cap * 1) h6.1 m hm0 (by omega) hlm ?_),?_⟩
    ·intro j y hj
     obtain ⟨_,hrow⟩:=r4.elem.2.2.2 j [.i .u8 (y.toNat : Int)] (by simp [uBt,hj])
     obtain ⟨_,z,s1,s2⟩:=hrow 0 _ rfl
     cases s2
     rw [uCp]
     simpa using s1
    ·exact hbd.frz0 (p:=.b (.bd B.tN k) 1) (sz:=1) (by omega) (.inr ⟨blk,m.length,cap,B.tU,rfl,h5,h6,h7⟩) (CRep.mono (w:=w) (w':=w.drew) (S:=G.S) (S':=G.S) (fun _ _ h=>h) (fun _ _ _=>rfl) r4) m.length (by omega) (hE.old hz)
 obtain ⟨w2,hcall,hrel⟩:=key
 refine hcall.mono ?_
 rintro e w' ⟨rfl,rfl⟩
 dsimp only
 rw [hd] at hK ⊢
 exact hK G _ _ (hrel.put hdN (g:=true) (fun _=>CRep.s m hlm) (fun hf=>by simp at hf))
end
end Go.Abs
namespace Go.Abs
theorem uLx {T : List (Option TyI)} {rs : List ResultVar} {res x : X} {bs' : List (List C)} {s : St} (h : resX T s rs=some x) (hx : x=res) (hb : subB s (uDq 0 bs')) : retS T rs res none bs' .normal s :=
 uAv (rs:=rs) h hx hb
theorem sx {α : Type} {o : Option α} {e : α} (h : o=some e) : ∃ x,o=some x∧x=e:=⟨e,h,rfl⟩
theorem gU {p : Prop} {b : Bool} (_ : p) : b=b:=rfl
theorem tR {next : St→Prop} {Q : Exit→St→Prop} {s : St} (h : Q .ret s) : uIl next Q .ret s:=h
theorem bR {id : Nat} {Q : Exit→St→Prop} {s : St} (h : Q .ret s) : uFi id Q .ret s:=h
theorem ak {e : Eff} {s : St} {p : Pl} {sz : Nat} (hk : (!(e.drop.any (Pl.beq p)) && e.gain.isNone)=true) (h : s.own p=some sz) : (ap e s).own p=some sz:=by
 rw [Bool.and_eq_true] at hk
 obtain ⟨h1,h2⟩:=hk
 have hg : e.gain=none:=by simpa using h2
 rw [uCk,Eff.go,hg]
 dsimp only
 have : ¬ p ∈ e.drop:=by
  intro hp
  have : e.drop.any (Pl.beq p)=true:=List.any_eq_true.2 ⟨p,hp,Pl.beq_self p⟩
  rw [this] at h1; simp at h1
 rw [if_neg this]
 exact h
theorem uDo {cs ds : List C} (h : ds.length=cs.length) : uBG cs 0 ds=ds:=by
 apply List.ext_getElem?
 intro j
 rw [uEP cs ds 0 j (by omega)]
 split
 ·rfl
 ·rename_i hj
  rw [List.getElem?_eq_none (by omega),List.getElem?_eq_none (by omega)]
theorem uIv {n : Nm} {cs ds : List C} (h : ds.length=cs.length) : (⟨n,0,cs,ds⟩ : Pass).old=cs:=by
 simp [Pass.old,h]
section
variable {Z : Pg} {N : Nat} {ops : Array Oper} {K : St→Prop} {st : St} {o : Oper} {d : Nat}
theorem uAN {rest : List Oper} {fo : Operand} {args : Array Operand} {ts : Array TypeId} {f : FuncId} {xs cxs : List X} {res : X} (n : Nm) {cs ds : List C}
  (ho : o.op = .call { callee:=.value fo,args:=args,argTypes:=ts }) (hg : uBg ops st o=some true)
  (hf : lk Z.T st 0 fo=some (true, .fn f [])) (ha : uCo Z.T st ts.toList args.toList=some (true,xs)) (hb : st.box n=some cs) (hd : o.dst=some d)
  (hs : Ctr Z f cxs [cs] res none [ds]) (hl : ds.length=cs.length) (htr : cxs.map (X.tr [⟨n,0,cs,ds⟩])=xs) (htrok : uE9 [⟨n,0,cs,ds⟩] cxs=true) (hnb : n.isBd=false) (hc : res.clean=true) (hN : Nat.ble (d + 1) N=true)
  (h : AL Z N ops rest K ((st.store n ds 0 ds.length).put d (true,res))) : AL Z N ops (o :: rest) K st:=by
 refine uG9 [⟨n,0,cs,ds⟩] ho hg hf ha htr htrok (by intro p hp; simp at hp; subst hp; exact hb) ?_ ?_ hc hd hN ?_
 ·simp [uCw,hl,hnb]
 ·simpa [uIv hl] using hs
 ·simpa [St.stores,uDo hl] using h
theorem uEW {rest : List Oper} {B : List Nat} {s0 : St} {k : Nat} {acc : List (Nat × Eff × Foot)} {Q : St→Prop} {fo : Operand} {args : Array Operand} {ts : Array TypeId} {f : FuncId} {xs cxs : List X} {res : X} (n : Nm) {cs ds : List C} (hk : ops[k]? = some o)
  (ho : o.op = .call { callee:=.value fo,args:=args,argTypes:=ts }) (hg : uBg ops (rs (foot ops o [n] []) st) o=some true)
  (hf : lk Z.T (rs (foot ops o [n] []) st) 0 fo=some (true, .fn f [])) (ha : uCo Z.T (rs (foot ops o [n] []) st) ts.toList args.toList=some (true,xs)) (hb : (rs (foot ops o [n] []) st).box n=some cs) (hd : o.dst=some d)
  (hs : Ctr Z f cxs [cs] res none [ds]) (hl : ds.length=cs.length) (htr : cxs.map (X.tr [⟨n,0,cs,ds⟩])=xs) (htrok : uE9 [⟨n,0,cs,ds⟩] cxs=true) (hnb : n.isBd=false) (hc : res.clean=true) (hN : Nat.ble (d + 1) N=true)
  (hr : Draw Z N s0 ops B (k + 1) rest (acc++[(k,{ d:=some (d,true,res),b:=some (n,ds),drop:=.t d :: uCm n 0 ds.length },foot ops o [n] [])]) (ap { d:=some (d,true,res),b:=some (n,ds),drop:=.t d :: uCm n 0 ds.length } st) Q) :
  Draw Z N s0 ops B k (o :: rest) acc st Q:=by
 refine uNn ⟨n,0,cs,ds⟩ hk ho hg hf ha htr htrok hb (by simp [hl]) ?_ hc hd hN ?_ hnb
 ·simpa [uIv hl] using hs
 ·simpa [uDo hl] using hr
end
end Go.Abs
namespace Go.Abs
variable {Z : Pg}
theorem uKd {f : FuncId} {args : List X} (us : List Value) {res : X} {v : Value} (hen : Enters Z f) (ha : ∀ (w : World) (G : Gh) (vs : List Value),All2 (XRep w G) args vs→vs=us)
  (hc : ∀ w,Calls Z.P f us.toArray w fun e w'=>e = .returned v∧w'=w) (hr : ∀ w G,XRep w G res v) : Ctr Z f args [] res none []:=by
 refine ⟨hen,fun w G vs hvs hwf hbx hbox hown _=>?_⟩
 obtain rfl:=ha w G vs hvs
 refine (hc w).mono ?_
 rintro e w' ⟨rfl,rfl⟩
 exact ⟨v,G,rfl,Fr.refl _ _ _,fun _ _ h=>h,fun _ _ _ h=>h,hwf,hr _ _,fun _=>rfl,fun j cs h=>by simp at h,fun sz h=>by simp at h,fun b o h=>absurd h (hown b o _)⟩
def St.val (st : St) (k : Nat) (n : Nm) (sz off len : Nat) (u : Value) : St:={ st with t:=(k,true, .v (.msv n sz off len u)) :: st.t }
theorem Rel.val {E : Env} {G : Gh} {st : St} {a : Act} {w : World} (h : Rel E G st a w) {k sz off len : Nat} {n : Nm} (hs : st.get k=some (true, .v (.ms n sz off len))) (hl : 0 < len) : ∃ u,Rel E G (st.val k n sz off len u) a w:=by
 obtain ⟨v,hv,hv1,_⟩:=h.tm _ _ _ hs
 refine ⟨v,{ df:=h.df,tm:=?_,bx:=h.bx,ow:=h.ow,wf:=h.wf,olB:=h.olB,olO:=h.olO,nt:=h.nt,oA:=h.oA,im:=h.im,im':=h.im',fr:=h.fr,hB:=h.hB,lo:=h.lo,bd:=h.bd,mp:=h.mp }⟩
 intro j g x hj
 have hj2 : getT ((k,true, .v (.msv n sz off len v)) :: st.t) j=some (g,x):=hj
 rw [uBX] at hj2
 split at hj2
 ·rename_i he; subst he
  simp only [Option.some.injEq,Prod.mk.injEq] at hj2
  obtain ⟨rfl,rfl⟩:=hj2
  refine ⟨v,hv,fun _=>?_,fun hg=>by simp at hg⟩
  rcases hv1 rfl with ⟨e,_⟩ | e
  ·omega
  ·exact ⟨rfl,e⟩
 ·exact h.tm _ _ _ hj2
def St.same (st : St) (j : Nat) (n : Nm) (sz off len : Nat) : St:={ st with t:=(j,true, .v (.ms n sz off len)) :: st.t }
theorem Rel.same {E : Env} {G : Gh} {st : St} {a : Act} {w : World} (h : Rel E G st a w) {j k sz off len : Nat} {n : Nm} {u : Value} (hj : st.get j=some (true, .v (.c (.o u)))) (hs : st.get k=some (true, .v (.msv n sz off len u))) :
  Rel E G (st.same j n sz off len) a w:=by
 obtain ⟨v,hv,hv1,_⟩:=h.tm _ _ _ hj
 obtain ⟨v',hv',hv2,_⟩:=h.tm _ _ _ hs
 have e1 : v=u:=by
  have : CRep w G.S (.o u) v:=hv1 rfl
  cases this; rfl
 subst e1
 refine { df:=h.df,tm:=?_,bx:=h.bx,ow:=h.ow,wf:=h.wf,olB:=h.olB,olO:=h.olO,nt:=h.nt,oA:=h.oA,im:=h.im,im':=h.im',fr:=h.fr,hB:=h.hB,lo:=h.lo,bd:=h.bd,mp:=h.mp }
 intro i g x hi
 have hj2 : getT ((j,true, .v (.ms n sz off len)) :: st.t) i=some (g,x):=hi
 rw [uBX] at hj2
 split at hj2
 ·rename_i he; subst he
  simp only [Option.some.injEq,Prod.mk.injEq] at hj2
  obtain ⟨rfl,rfl⟩:=hj2
  refine ⟨v,hv,fun _=>?_,fun hg=>by simp at hg⟩
  obtain ⟨e,q⟩:=hv2 rfl
  subst e
  exact .inr q
 ·exact h.tm _ _ _ hj2
section
variable {st : St} {ty : TypeId} {gate : Bool}
end
structure SetFn (Z : Pg) (f : FuncId) : Prop where
 en : Enters Z f
 run : ∀ (w : World) (pb po qb qo : Nat) (m n c : Int) (blk off len cap : Nat),w.cell? ⟨pb,po,none⟩=some (.int .i64 n)→w.cell? ⟨qb,qo,none⟩=some (.slice (some ⟨blk,off,none⟩) len cap)→0≤m→(len : Int)=n + 1→(len : Int) < 9223372036854775807 →
  (∀ j,j < len→(w.cell? ⟨blk,off + j,none⟩).isSome=true)→(∀ j,j < len→w.frozen? ⟨blk,off + j,none⟩=false) →
  Calls Z.P f #[.int .i64 m, .int .u64 c, .pointer (some ⟨pb,po,none⟩), .pointer (some ⟨qb,qo,none⟩)] w fun e w'=>e = .returned (.tuple #[])∧w'=if m≤n then w.setCell ⟨blk,off + m.toNat,none⟩ (.int .u64 c) else w
end Go.Abs
namespace Go.Abs
variable {Z : Pg}
def arr (k : IntKind) (g : Nat→Int) (n : Nat) : List C:=(List.range n).map fun m=>C.i k (g m)
section
variable {N : Nat} {ops : Array Oper} {rest : List Oper} {K : St→Prop} {st : St} {o : Oper} {d : Nat} {ty : TypeId}
end
section
variable {N : Nat} {ops : Array Oper} {rest : List Oper} {st : St} {o : Oper} {s0 : St} {B : List Nat} {q : Nat} {acc : List Lnk} {Q : St→Prop}
end
theorem uL2 {N : Nat} {ops : Array Oper} {rest : List Oper} {K : St→Prop} {st : St} (k m m' : Nat) {sz L : Nat} {cs : List C} (hs : st.get k=some (true, .v (.ms (.l m) sz 0 L))) (hb : st.box (.l m)=some cs)
  (hfr : st.freshO (.l m',true)=true) (hfo : st.freshO (.l m,false)=true) (h : AL Z N ops rest K (st.ren k m m' sz L cs)) : AL Z N ops rest K st :=
 fun E G a w hr hE=>h E _ a w (hr.rename hs hb (St.freshO_ok hfr) (St.freshO_ok hfo)) hE
end Go.Abs
namespace Go.Abs
theorem rko {ops : Array Oper} {o : Oper} {rb : List Nm} {st : St} {p : Pl} {sz : Nat} (h : st.own p=some sz) : (rs (foot ops o rb [p]) st).own p=some sz:=by
 show getO (uGs st [p]) p=some sz
 simp only [uGs,h]
 rw [uBZ,if_pos rfl]
theorem ak2 {e : Eff} {s : St} {p : Pl} {sz : Nat} (hk : e.keeps p=true) (h : s.own p=some sz) : (ap e s).own p=some sz:=by
 unfold Eff.keeps at hk
 rw [Bool.and_eq_true] at hk
 obtain ⟨h1,h2⟩:=hk
 rw [uCk,Eff.go]
 have hd : ¬ p ∈ e.drop:=by
  intro hp
  have : e.drop.any (Pl.beq p)=true:=List.any_eq_true.2 ⟨p,hp,Pl.beq_self p⟩
  rw [this] at h1; simp at h1
 cases hg : e.gain with
 | none=>dsimp only; rw [if_neg hd]; exact h
 | some x =>
  obtain ⟨q,y⟩:=x
  rw [hg] at h2
  dsimp only at h2 ⊢
  have hq : ¬ q=p:=by
   intro z; subst z; rw [Pl.beq_self] at h2; simp at h2
  rw [if_neg hq,if_neg hd]; exact h
end Go.Abs
namespace Go.Abs
open Go.RowKit (Below)
variable {Z : Pg}
def intAt (b : Option Obj) : Prop:=∃ cs t s m,b=some (.cells cs t s)∧cs[0]? = some (.int .i64 m)
theorem intAt.cell {w : World} {g : Nat} (h : intAt w.heap[g]?) : ∃ m,w.cell? ⟨g,0,none⟩=some (.int .i64 m):=by
 obtain ⟨cs,t,s,m,h1,h2⟩:=h
 exact ⟨m,by unfold World.cell?; rw [h1]; simpa using h2⟩
theorem intAt.of {w : World} {g : Nat} {m : Int} (h : w.cell? ⟨g,0,none⟩=some (.int .i64 m)) : intAt w.heap[g]? := by
 unfold World.cell? at h
 dsimp only at h
 split at h
 ·rename_i cs t s hb
  exact ⟨cs,t,s,m,hb,by simpa using h⟩
 ·simp at h
theorem Fr.ofBelow {M : Nat→Nat→Prop} {w w' : World} (h : Below w.heap.size w w') : Fr M w.heap.size w w' where
 os:=h.os
 tape:=h.tape
 output:=h.output
 size:=h.size
 block:=fun b hb _=>h.block b hb
 cell:=fun b o hb _=>by unfold World.cell?; rw [h.block b hb]
 mark:=fun b hb=>by unfold uBF; rw [h.block b hb]
 shape:=fun b hb=>by unfold World.shape?; rw [h.block b hb]
theorem uIa {f : FuncId} {args : List X} {res : X} {v : Value} (hen : Enters Z f)
  (hc : ∀ (w : World) (G : Gh) (vs : List Value),All2 (XRep w G) args vs→(∀ b o,G.W b o ≠ .none→b < w.heap.size)→GlOk Z w G→Calls Z.P f vs.toArray w fun e w'=>e = .returned v∧Below w.heap.size w w') (hr : ∀ w G,XRep w G res v) : Ctr Z f args [] res none []:=by
 refine ⟨hen,fun w G vs hvs hwf hbx hbox hown hgl=>?_⟩;refine (hc w G vs hvs hwf hgl).mono ?_
 rintro e w' ⟨rfl,hb⟩
 exact ⟨v,G,rfl,Fr.ofBelow hb,fun _ _ h=>h,fun _ _ _ h=>h,fun b o h=>Nat.lt_of_lt_of_le (hwf b o h) hb.size,hr _ _,fun _=>rfl,fun j cs h=>by simp at h,fun sz h=>by simp at h,fun b o h=>absurd h (hown b o _)⟩
theorem uKj (w : World) (o : Obj) : Below w.heap.size w (w.alloc o):=(Below.refl _ w).alloc (Nat.le_refl _) o
theorem uMI {f : FuncId} {args : List X} {cs : List C} {vals : List Value} {ty : TypeId} (hen : Enters Z f) (hlen : vals.length≤9223372036854775807) (hv : ∀ w S,All2 (CRep w S) cs vals)
  (hc : ∀ (w : World) (G : Gh) (vs : List Value),All2 (XRep w G) args vs→GlOk Z w G→Calls Z.P f vs.toArray w fun e w'=>e = .returned (.slice (some ⟨w.heap.size,0,none⟩) vals.length vals.length)∧w'=w.alloc (.cells vals.toArray ty)) :
  Ctr Z f args [] (.v (.c (.sl 1 (cs.map fun c=>[c])))) none []:=by
 refine ⟨hen,fun w G vs hvs hwf hbx hbox hown hgl=>?_⟩;refine (hc w G vs hvs hgl).mono ?_
 rintro e w' ⟨rfl,rfl⟩
 have hb:=uKj w (.cells vals.toArray ty)
 have hnew : ∀ j,(w.alloc (.cells vals.toArray ty)).cell? ⟨w.heap.size,j,none⟩=vals[j]? := by
  intro j
  unfold World.cell?
  rw [World.alloc_heap_new]
  simp
 have hsz : (w.alloc (.cells vals.toArray ty)).heap.size=w.heap.size + 1:=by simp
 let G' : Gh:={ G with W:=fun b o=>if b=w.heap.size then .imm else G.W b o }
 have hl : cs.length=vals.length:=(hv w G.S).len
 refine ⟨_,G',rfl,Fr.ofBelow hb,fun b o h=>?_,fun b o hlt h=>?_,fun b o h=>?_,?_,fun _=>rfl,fun j cs h=>by simp at h,fun sz h=>by simp at h,fun b o h=>?_⟩
 ·show (if b=w.heap.size then Who.imm else G.W b o) = .imm
  split
  ·rfl
  ·exact h
 ·have h2 : (if b=w.heap.size then Who.imm else G.W b o) = .imm:=h
  rwa [if_neg (Nat.ne_of_lt hlt)] at h2
 ·have h2 : (if b=w.heap.size then Who.imm else G.W b o) ≠ .none:=h
  split at h2
  ·rw [hsz]; omega
  ·have := hwf b o h2; rw [hsz]; omega
 ·show CRep _ _ (.sl 1 (cs.map fun c=>[c])) _
  refine .sl 1 _ w.heap.size 0 vals.length vals.length (fun i j=>vals.getD i (.bool false)) (by simpa using hl) (Nat.le_refl _) hlen (fun i row h=>?_) (fun i j hi hj=>?_) (fun i row j c h1 h2=>?_)
  ·rw [List.getElem?_map,Option.map_eq_some_iff] at h
   obtain ⟨a,_,rfl⟩:=h
   rfl
  ·refine ⟨?_,?_⟩
   ·show (if w.heap.size=w.heap.size then Who.imm else _) = .imm
    rw [if_pos rfl]
   ·rw [hnew,List.getD_eq_getElem?_getD]
    obtain rfl : j=0:=by omega
    rw [show 0 + i * 1 + 0=i by omega,List.getElem?_eq_getElem hi]; rfl
  ·rw [List.getElem?_map,Option.map_eq_some_iff] at h1
   obtain ⟨a,ha,rfl⟩:=h1
   cases j with
   | succ j=>simp at h2
   | zero =>
    simp only [List.getElem?_cons_zero,Option.some.injEq] at h2
    subst h2
    obtain ⟨v,hv1,hv2⟩:=(hv (w.alloc (.cells vals.toArray ty)) G'.S).get i a ha
    rw [List.getD_eq_getElem?_getD,hv1]
    exact hv2
 ·have h2 : (if b=w.heap.size then Who.imm else G.W b o) = .own (.t 0):=h
  split at h2
  ·cases h2
  ·exact absurd h2 (hown b o _)
theorem Ctr.wk {Z Z' : Pg} {f : FuncId} {args : List X} {bs bs' : List (List C)} {res : X} {ro : Option Nat} (hP : Z'.P=Z.P) (hg : ∀ g ∈ Z.gv,g ∈ Z'.gv) (h : Ctr Z f args bs res ro bs') : Ctr Z' f args bs res ro bs':=by
 obtain ⟨⟨fn,h1,h2,h3⟩,h4⟩:=h
 refine ⟨⟨fn,by rw [hP]; exact h1,h2,h3⟩,fun w G vs a b c d e g=>?_⟩
 rw [hP]
 exact h4 w G vs a b c d e fun x hx=>g x (hg x hx)
end Go.Abs
namespace Go.Abs
variable {Z : Pg}
section
variable {N : Nat} {st : St} {ops : Array Oper} {o : Oper} {d k : Nat} {fo x y : Operand} {ts : Array TypeId} {m : List UInt8}
end
end Go.Abs
namespace Go.Abs
variable {Z : Pg}
section
variable {N : Nat} {ops : Array Oper} {rest : List Oper} {K : St→Prop} {st : St} {o : Oper} {d : Nat}
theorem Rel.mem_map {E : Env} {G : Gh} {a : Act} {w : World} (h : Rel E G st a w) {i b : Nat} {f : Bool} {es : List (List UInt8 × Value)} (hm : st.mp[i]? = some (b,f,es)) : MapAt w b es∧(f=true→E.B≤b) ∧ ∀ o,(∀ n,G.W b o ≠ .box n) ∧ ∀ p,G.W b o ≠ .own p :=
 h.mp _ (List.mem_of_getElem? hm)
end
end Go.Abs
namespace Go.Abs
variable {Z : Pg} {st : St}
end Go.Abs
namespace Go.Abs
variable {Z : Pg}
inductive Loc where
 | box
 | res
def uOw (loc : Loc) (w' : World) (G' : Gh) (v : Value) (j off : Nat) (u : Value) : Prop :=
 match loc with
 | .box=>w'.cell? ⟨(G'.A (.o j)).1,(G'.A (.o j)).2 + off,none⟩=some u
 | .res=>∃ us ws : Array Value,v = .tuple us∧us[0]? = some (.agg ws)∧ws[off]? = some u
abbrev OS:=List (Nat × Nat × Nat)
def CtrO (Z : Pg) (f : FuncId) (args : List X) (bs : List (List C)) (os : OS) (res : X) (bs' : List (List C)) (loc : Loc) : Prop :=
 Enters Z f ∧ ∀ (cc : Nat) (w : World) (G : Gh) (vs : List Value),cc≤w.heap.size→All2 (XRep w G) args vs→(∀ b o,G.W b o ≠ .none→b < w.heap.size)→(∀ (j : Nat) (cs : List C),bs[j]? = some cs→uDt w G (.o j) cs) →
  (∀ b o n,G.W b o = .box n → ∃ j cs k,n = .o j∧bs[j]? = some cs∧k < cs.length∧b=(G.A n).1∧o=(G.A n).2 + k) →
  (∀ b o p,G.W b o = .own p→cc≤b) →
  (∀ e ∈ os,∃ u,w.cell? ⟨(G.A (.o e.1)).1,(G.A (.o e.1)).2 + e.2.1,none⟩=some u∧G.W (G.A (.o e.1)).1 ((G.A (.o e.1)).2 + e.2.1) = .box (.o e.1)∧OwnAt cc w G (.b (.o e.1) e.2.1) e.2.2 u)→GlOk Z w G →
  Calls Z.P f vs.toArray w fun e w'=>∃ v G',e = .returned v∧Fr (fun b o=>(∃ n,G.W b o = .box n) ∨ ∃ p,G.W b o = .own p) w.heap.size w w' ∧
   (∀ b o,G.W b o = .imm→G'.W b o = .imm)∧(∀ b o,b < w.heap.size→G'.W b o = .imm→G.W b o = .imm ∨ ∃ p,G.W b o = .own p)∧(∀ b o,G'.W b o ≠ .none→b < w'.heap.size)∧XRep w' G' res v ∧
   (∀ j,G'.A (.o j)=G.A (.o j))∧(∀ (j : Nat) (cs : List C),bs'[j]? = some cs→uDt w' G' (.o j) cs) ∧
   (∀ e ∈ os,∃ u,uOw loc w' G' v e.1 e.2.1 u∧OwnAt cc w' G' (.b (.o e.1) e.2.1) e.2.2 u)∧(∀ b o q,b < w.heap.size→G'.W b o = .own q → ∃ p,G.W b o = .own p)
def st0O (args : List X) (bs : List (List C)) (os : OS) : St:={ t:=uIy 0 args,bx:=uDq 0 bs,ow:=os.map fun e=>(.b (.o e.1) e.2.1,e.2.2) }
theorem uLB : ∀ {os : OS} {p : Pl} {sz : Nat},getO (os.map fun e=>((.b (.o e.1) e.2.1 : Pl),e.2.2)) p=some sz → ∃ e ∈ os,p = .b (.o e.1) e.2.1∧sz=e.2.2
 | [],p,sz,h=>by simp [getO] at h
 | e :: r,p,sz,h=>by
  rw [List.map_cons,uBZ] at h
  split at h
  ·rename_i he; subst he; simp at h; exact ⟨e,by simp,rfl,h.symm⟩
  ·obtain ⟨e',h1,h2⟩:=uLB h
   exact ⟨e',by simp [h1],h2⟩
def ownO (T : List (Option TyI)) (rs : List ResultVar) (s : St) (os : OS) : Loc→Prop
 | .box=>∀ e ∈ os,s.own (.b (.o e.1) e.2.1)=some e.2.2
 | .res=>∃ b t r n cs ti,rs = .cell b t :: r∧r≠[]∧s.get b=some (true, .v (.ptr n 0))∧s.box n=some cs∧tyAt T t=some ti∧ti.agg=true∧Nat.beq cs.length ti.n=true ∧ ∀ e ∈ os,e.1=0∧s.own (.b n e.2.1)=some e.2.2∧e.2.1 < cs.length
theorem uNH {w : World} {G : Gh} : ∀ {ys : List Y} {us : List Value},All2 (YRep w G) ys us→XRep w G (uCI ys) (if h : us.toArray.size=1 then us.toArray[0] else .tuple us.toArray)
 | [],[],_=>⟨[],rfl,trivial⟩
 | [y],[u],h=>h.1
 | y :: y' :: r,u :: u' :: q,h=>by
  simp only [List.size_toArray,List.length_cons]
  rw [dif_neg (by omega)]
  exact ⟨_,rfl,h⟩
 | [],_ :: _,h=>h.elim
 | _ :: _,[],h=>h.elim
 | [_],_ :: _ :: _,h=>h.2.elim
 | _ :: _ :: _,[_],h=>h.2.elim
def retO (T : List (Option TyI)) (rs : List ResultVar) (res : X) (bs' : List (List C)) (os : OS) (loc : Loc) : Exit→St→Prop
 | .normal,s | .ret,s=>resX T s rs=some res∧(∀ (j : Nat) (cs : List C),bs'[j]? = some cs→s.box (.o j)=some cs)∧ownO T rs s os loc
 | _,_=>False
def plO (loc : Loc) (n : Nm) : Pl→Option Pl
 | .b m off=>match loc with
  | .box=>(match m with | .o j=>some (.b (.o j) off) | _=>none)
  | .res=>if Nm.beq m n=true then some (.b (.o 0) off) else none
 | .t _=>none
theorem uJ3 {E : Env} {G : Gh} {s : St} {a : Act} {w : World} (hr : Rel E G s a w) {b t : Nat} {n : Nm} {cs : List C} {ti : TyI} (hg : s.get b=some (true, .v (.ptr n 0))) (hb : s.box n=some cs) (ht : tyAt Z.T t=some ti) (hagg : ti.agg=true) (hln : cs.length=ti.n) :
  ∃ us : List Value,(uD4 a.tmps (.cell b t)).run Z.P w = .ok (.agg us.toArray) w∧us.length=cs.length ∧ ∀ j u,us[j]? = some u→w.cell? ⟨(G.A n).1,(G.A n).2 + j,none⟩=some u:=by
 obtain ⟨v,hv,h1,_⟩:=hr.tm b _ _ hg
 have h1' : v=_:=h1 rfl
 subst h1'
 have hbox:=hr.bx n cs hb
 obtain ⟨us,hul,hus⟩:=uEc (R:=fun j v=>w.cell? ⟨(G.A n).1,(G.A n).2 + 0 + j,none⟩=some v) ti.n fun j hj=>by
  have hj' : cs[j]? = some (cs[j]'(by omega)):=List.getElem?_eq_getElem (by omega)
  obtain ⟨_,_,v,hv,hcr⟩:=hbox _ _ hj'
  exact ⟨v,by simpa using hv⟩
 have hrun:=uDw (Z:=Z) (w:=w) ht hagg hul fun j v hv=>hus j v hv
 simp only [Instr.loadAt,Instr.sureAddr,Sem.run_bind,Sem.run_pure,Result.andThen_ok] at hrun
 refine ⟨us,?_,by omega,fun j u hj=>by simpa using hus j u hj⟩
 simp [uD4,Array.getD_eq_getD_getElem?,hv,asAddr]
 simpa using hrun
theorem uCg {f : FuncId} {fn : Func} {c : Code} {N : Nat} {rs : List ResultVar} {args : List X} {bs bs' : List (List C)} {os : OS} {res : X} {loc : Loc}
  (hf : Z.P.funcs[f]? = some fn) (hb : fn.body = some c) (hname : (fn.name == "runtime.NumGoroutine") = false) (hN : fn.ntmps = N) (hrs : fn.results = rs.toArray) (hlen' : Nat.ble args.length N = true) (hc : res.clean = true) (hz : Z.old = true)
  (h : AWP Z N c (retO Z.T rs res bs' os loc) (st0O args bs os)) : CtrO Z f args bs os res bs' loc:=by
 have hlen : args.length≤N:=Nat.le_of_ble_eq_true hlen'
 refine ⟨⟨fn,hf,by rw [hb]; rfl,hname⟩,?_⟩
 intro cc w G vs hcc hvs hwf hbx hbox hown hos hgl
 let E : Env:={ B:=w.heap.size,w0:=w,W0:=G.W,A0:=fun j=>G.A (.o j),nt:=N,D:=w.heap.size - cc }
 have hEC : E.C=cc:=by show w.heap.size - (w.heap.size - cc)=cc; omega
 let a : Act:={ tmps:=vs.toArray++Array.replicate (fn.ntmps - vs.toArray.size) undef,defers:=[] }
 have hal : args.length=vs.length:=hvs.len
 have hrel : Rel E G (st0O args bs os) a w:={
  df:=rfl
  tm:=by
   intro k g x hk
   obtain ⟨i,y,h1,h2,h3⟩:=uFY 0 args k (g,x) hk
   simp only [Prod.mk.injEq] at h3
   obtain ⟨rfl,rfl⟩:=h3
   obtain ⟨v,hv,hx⟩:=hvs.get i x h2
   have hi : i < vs.length:=(List.getElem?_eq_some_iff.1 hv).1
   refine ⟨v,?_,fun _=>hx,fun hg=>by simp at hg⟩
   show (vs.toArray++_)[k]? = _
   rw [h1,Nat.zero_add,Array.getElem?_append_left (by simpa using hi)]
   simpa using hv
  bx:=by
   intro n cs hn
   obtain ⟨i,h1,h2⟩:=uDD 0 bs n cs hn
   rw [h1,Nat.zero_add]
   exact hbx i cs h2
  ow:=by
   intro p sz hp
   obtain ⟨e,he,rfl,rfl⟩:=uLB hp
   obtain ⟨u,h1,h2,h3⟩:=hos e he
   exact ⟨u,⟨h1,h2⟩,by rw [hEC]; exact h3⟩
  wf:=hwf
  olB:=fun b o n _ hn=>.inl ⟨n,hn⟩
  olO:=fun b o p _ hn=>⟨p,hn⟩
  nt:=by
   show (vs.toArray++Array.replicate (fn.ntmps - vs.toArray.size) undef).size=N
   simp; omega
  oA:=fun _=>rfl
  im:=fun b o h=>h
  im':=fun b o _ h=>.inl h
  fr:=Fr.refl _ _ _
  hB:=Nat.le_refl _
  lo:=fun b o _=>⟨fun n hn=>by obtain ⟨j,_,_,e,_⟩:=hbox b o n hn; exact ⟨j,e⟩,fun hb p hp=>by
   rw [hEC] at hb
   have := hown b o p hp; omega⟩
  bd:=fun t k cs hn=>by
   obtain ⟨i,h1,_⟩:=uDD 0 bs _ cs hn
   simp at h1
  mp:=fun x hx=>by cases hx }
 refine calls_of_wp hf hb ?_
 have hwp:=h E G a w hrel ⟨rfl,fun q=>(by rw [hz] at q; simp at q),fun g hg=>⟨(hgl g hg).1,(hgl g hg).2.1,fun o hm=>by
  rcases hm with ⟨n,hn⟩ | ⟨p,hp⟩
  ·exact (hgl g hg).2.2.1 o n hn
  ·exact (hgl g hg).2.2.2 o p hp⟩⟩
 refine wp_mono hwp ?_
 rintro e a' w' ⟨G',s,hq,hr'⟩
 have key : (resX Z.T s rs=some res∧(∀ (j : Nat) (cs : List C),bs'[j]? = some cs→s.box (.o j)=some cs)∧ownO Z.T rs s os loc) →
   a'.defers=[] ∧ ∃ v,(results fn a'.tmps).run Z.P w' = .ok v w' ∧ ∃ u G',Ending.returned v = .returned u∧Fr (fun b o=>(∃ n,G.W b o = .box n) ∨ ∃ p,G.W b o = .own p) w.heap.size w w' ∧
    (∀ b o,G.W b o = .imm→G'.W b o = .imm)∧(∀ b o,b < w.heap.size→G'.W b o = .imm→G.W b o = .imm ∨ ∃ p,G.W b o = .own p)∧(∀ b o,G'.W b o ≠ .none→b < w'.heap.size)∧XRep w' G' res u ∧
    (∀ j,G'.A (.o j)=G.A (.o j))∧(∀ (j : Nat) (cs : List C),bs'[j]? = some cs→uDt w' G' (.o j) cs) ∧
    (∀ e ∈ os,∃ u',uOw loc w' G' u e.1 e.2.1 u'∧OwnAt cc w' G' (.b (.o e.1) e.2.1) e.2.2 u')∧(∀ b o q,b < w.heap.size→G'.W b o = .own q → ∃ p,G.W b o = .own p):=by
  rintro ⟨hres,hbs,hro⟩
  refine ⟨hr'.df,?_⟩
  unfold resX at hres
  have hys : ∃ ys,uEr Z.T s rs=some ys∧res=uCI ys:=by
   split at hres
   ·rename_i ys hy; simp only [Option.some.injEq] at hres; exact ⟨ys,hy,hres.symm⟩
   ·simp at hres
  obtain ⟨ys,hys,rfl⟩:=hys
  obtain ⟨us,hrun,hall,hone⟩:=uEt hr' hys
  have hr0 : (results fn a'.tmps).run Z.P w' = .ok (if h : us.toArray.size=1 then us.toArray[0] else .tuple us.toArray) w':=by
   rw [uGR,hrs,List.mapM_toArray]
   simp only [Sem.run_bind,Sem.run_map,hrun,Result.andThen_ok,Sem.run_pure]
  have hv2:=uNH hall
  refine ⟨_,hr0,?_⟩
  have hfr : Fr (fun b o=>(∃ n,G.W b o = .box n) ∨ ∃ p,G.W b o = .own p) w.heap.size w w':=hr'.fr
  obtain ⟨n0,hn0⟩ : ∃ n0 : Nm,match loc with
    | .box=>∀ e ∈ os,s.own (.b (.o e.1) e.2.1)=some e.2.2
    | .res=>(∀ e ∈ os,e.1=0∧s.own (.b n0 e.2.1)=some e.2.2) ∧ ∃ ws : List Value,∃ r',us = .agg ws.toArray :: r'∧r'≠[]∧(∀ j u,ws[j]? = some u→w'.cell? ⟨(G'.A n0).1,(G'.A n0).2 + j,none⟩=some u) ∧ ∀ e ∈ os,e.2.1 < ws.length:=by
   cases loc with
   | box=>exact ⟨.l 0,hro⟩
   | res =>
    obtain ⟨b,t,r,n,cs,ti,rfl,hne,hg,hbn,ht,hagg,hln,ho⟩:=hro
    obtain ⟨ws,q1,q2,q3⟩:=uJ3 (Z:=Z) hr' hg hbn ht hagg (Nat.eq_of_beq_eq_true hln)
    refine ⟨n,fun e he=>⟨(ho e he).1,(ho e he).2.1⟩,ws,?_⟩
    rw [List.mapM_cons,Sem.run_bind,q1] at hrun
    simp only [Result.andThen_ok,Sem.run_bind] at hrun
    cases hrr : (r.mapM (uD4 a'.tmps)).run Z.P w' with
    | ok vs2 w2 =>
     rw [hrr] at hrun
     simp only [Result.andThen_ok,Sem.run_pure,Result.ok.injEq] at hrun
     obtain ⟨e1,e2⟩:=hrun
     refine ⟨vs2,e1.symm,?_,q3,fun e he=>by have := (ho e he).2.2; omega⟩
     intro e0
     subst e0
     rw [← e1] at hall
     have hyl:=hall.len
     simp at hyl
     have : ∀ (rs : List ResultVar) ys,uEr Z.T s rs=some ys→ys.length=rs.length:=by
      intro rs
      induction rs with
      | nil=>intro ys h; simp [uEr] at h; subst h; rfl
      | cons x rs ih =>
       intro ys h
       simp only [uEr] at h
       split at h
       ·split at h
        ·rename_i ys' h2; simp only [Option.some.injEq] at h; subst h; simp [ih _ h2]
        ·simp at h
       ·simp at h
     have := this _ _ hys
     rw [hyl] at this
     simp at this
     exact hne this
    | _=>rw [hrr] at hrun; simp [Result.andThen] at hrun
  let G2 : Gh:={ A:=G'.A,W:=fun b o=>match G'.W b o with | .imm=>.imm | .box (.o j)=>.box (.o j) | .own p=>(match plO loc n0 p with | some q=>.own q | none=>.none) | _=>.none }
  have hS : ∀ b o,G'.S b o→G2.S b o:=fun b o hs=>by unfold Gh.S at *; simp [G2,hs]
  have hI : ∀ b o,G2.W b o = .imm→G'.W b o = .imm:=fun b o hi=>by
   simp only [G2] at hi
   split at hi
   ·assumption
   ·simp at hi
   ·split at hi <;> simp at hi
   ·simp at hi
  have hO : ∀ b o q,G2.W b o = .own q → ∃ p,G'.W b o = .own p∧plO loc n0 p=some q:=fun b o q hi=>by
   simp only [G2] at hi
   split at hi
   ·simp at hi
   ·simp at hi
   ·rename_i p hp
    split at hi
    ·rename_i r hr; simp only [Who.own.injEq] at hi; subst hi; exact ⟨p,hp,hr⟩
    ·simp at hi
   ·simp at hi
  refine ⟨_,G2,rfl,hfr,fun b o hi=>hS b o (hr'.im b o hi),fun b o hb hi=>hr'.im' b o hb (hI b o hi),fun b o hn=>?_,?_,fun j=>hr'.oA j,fun j cs hj=>?_,fun e he=>?_,fun b o q hb hi=>?_⟩
  ·refine hr'.wf b o ?_
   intro he; apply hn; simp [G2,he]
  ·exact hv2.mono hS (fun _ _ _=>rfl) (fun _ _=>rfl)
  ·intro i c hi
   obtain ⟨h1,h2,u,h3,h4⟩:=hr'.bx _ _ (hbs j cs hj) i c hi
   exact ⟨by simp only [G2]; rw [h1],h2,u,h3,h4.mono hS (fun _ _ _=>rfl)⟩
  ·have tr : ∀ (p q : Pl) (u : Value),plO loc n0 p=some q→(∀ t k o,q ≠ .b (.bd t k) o)→OwnAt E.C w' G' p e.2.2 u→OwnAt cc w' G2 q e.2.2 u:=by
    intro p q u hpq hqb ho
    rw [hEC] at ho
    rcases ho with ho | ⟨blk,len,cap,e',q1,q2,q3,q4⟩
    ·exact .inl ho
    ·refine .inr ⟨blk,len,cap,e',q1,⟨q2.1,q2.2.1,fun t k o hh=>absurd hh (hqb t k o)⟩,q3,fun o ho1 ho2=>?_⟩
     obtain ⟨q5,q6⟩:=q4 o ho1 ho2
     refine ⟨?_,q6⟩
     simp only [G2]; rw [q5]; simp only [hpq]
   cases loc with
   | box =>
    obtain ⟨u,hu,ho⟩:=hr'.ow _ _ (hn0 e he)
    exact ⟨u,hu.1,tr _ _ u rfl (by simp) ho⟩
   | res =>
    obtain ⟨h1,ws,r',h2,h3,h4,h5⟩:=hn0
    obtain ⟨e1,e2⟩:=h1 e he
    obtain ⟨u,hu,ho⟩:=hr'.ow _ _ e2
    have hlt:=h5 e he
    have hw:=h4 e.2.1 _ (List.getElem?_eq_getElem hlt)
    have hu1:=hu.1
    rw [hw] at hu1
    simp only [Option.some.injEq] at hu1
    subst hu1
    refine ⟨_,⟨us.toArray,ws.toArray,?_,?_,?_⟩,tr _ _ _ (by simp [plO,Nm.beq_self,e1]) (by simp) ho⟩
    ·rw [dif_neg]
     rw [h2]
     intro hs
     simp at hs
     exact h3 hs
    ·rw [h2]; rfl
    ·simp [hlt]
  ·obtain ⟨p,hp,_⟩:=hO b o q hi
   exact hr'.olO b o p hb hp
 cases e <;> first
  | exact key hq
  | exact hq.elim
end Go.Abs
namespace Go.Abs
variable {Z : Pg}
def pin (ps : List Pass) : OS→Pl→Option Pl
 | [],_=>none
 | e :: r,p=>match ps[e.1]? with
  | some q=>if Pl.beq p (.b q.n (q.off + e.2.1))=true then some (.b (.o e.1) e.2.1) else pin ps r p
  | none=>pin ps r p
def pout (ps : List Pass) : Pl→Option Pl
 | .b (.o j) off=>(ps[j]?).map fun q=>.b q.n (q.off + off)
 | _=>none
theorem uHL {ps : List Pass} : ∀ {os : OS} {p r : Pl},pin ps os p=some r → ∃ e ∈ os,r = .b (.o e.1) e.2.1 ∧ ∃ q,ps[e.1]? = some q∧p = .b q.n (q.off + e.2.1)
 | [],p,r,h=>by simp [pin] at h
 | e :: os,p,r,h=>by
  rw [pin] at h
  split at h
  ·rename_i q hq
   split at h
   ·rename_i hb
    simp only [Option.some.injEq] at h
    exact ⟨e,by simp,h.symm,q,hq,Pl.beq_iff.1 hb⟩
   ·obtain ⟨e',h1,h2⟩:=uHL h
    exact ⟨e',by simp [h1],h2⟩
  ·obtain ⟨e',h1,h2⟩:=uHL h
   exact ⟨e',by simp [h1],h2⟩
theorem uK8 {ps : List Pass} {st : St} (hnd : uCw st ps=true) : ∀ {os : OS} {e : Nat × Nat × Nat} {q : Pass},e ∈ os→ps[e.1]? = some q→pin ps os (.b q.n (q.off + e.2.1))=some (.b (.o e.1) e.2.1)
 | [],e,q,h,_=>by simp at h
 | x :: os,e,q,h,hq=>by
  rw [pin]
  split
  ·rename_i y hy
   split
   ·rename_i hb
    rw [Pl.beq_iff] at hb
    simp only [Pl.b.injEq] at hb
    have he:=uDk hnd _ _ _ _ hq hy hb.1
    rw [← he,hq] at hy
    simp only [Option.some.injEq] at hy
    subst hy
    rw [← he,show x.2.1=e.2.1 by omega]
   ·rename_i hb
    rcases List.mem_cons.1 h with rfl | h
    ·rw [hq] at hy
     simp only [Option.some.injEq] at hy
     subst hy
     exact absurd (Pl.beq_self _) hb
    ·exact uK8 hnd h hq
  ·rename_i hy
   rcases List.mem_cons.1 h with rfl | h
   ·rw [hq] at hy; simp at hy
   ·exact uK8 hnd h hq
def Gh.passedO (G : Gh) (ps : List Pass) (os : OS) : Gh where
 W:=fun b o=>match G.W b o with
  | .own p=>(match pin ps os p with | some r=>.own r | none=>.none)
  | _=>(G.passed ps).W b o
 A:=(G.passed ps).A
theorem Gh.passedO_imm (G : Gh) (ps : List Pass) (os : OS) (b o : Nat) : (G.passedO ps os).W b o = .imm ↔ G.W b o = .imm:=by
 unfold Gh.passedO
 dsimp only
 split
 ·rename_i p hp; split <;> simp [hp]
 ·exact G.passed_imm ps b o
theorem Gh.passedO_own {G : Gh} {ps : List Pass} {os : OS} {b o : Nat} {r : Pl} (h : (G.passedO ps os).W b o = .own r) : ∃ p,G.W b o = .own p∧pin ps os p=some r:=by
 unfold Gh.passedO at h
 dsimp only at h
 split at h
 ·rename_i p hp
  split at h
  ·rename_i x hx; simp only [Who.own.injEq] at h; subst h; exact ⟨p,hp,hx⟩
  ·simp at h
 ·exact absurd h (G.passed_own ps b o r)
theorem Gh.passedO_box {G : Gh} {ps : List Pass} {os : OS} {b o : Nat} {m : Nm} (h : (G.passedO ps os).W b o = .box m) : (G.passed ps).W b o = .box m:=by
 unfold Gh.passedO at h
 dsimp only at h
 split at h
 ·split at h <;> simp at h
 ·exact h
theorem Gh.passedO_of_box {G : Gh} {ps : List Pass} {os : OS} {b o : Nat} {m n : Nm} (h : (G.passed ps).W b o = .box m) (hn : G.W b o = .box n) : (G.passedO ps os).W b o = .box m:=by
 unfold Gh.passedO
 dsimp only
 rw [hn]
 exact h
def Gh.newW (ps : List Pass) : Who→Who
 | .imm=>.imm
 | .own q=>(match pout ps q with | some r=>.own r | none=>.none)
 | _=>.none
def Gh.gone (G : Gh) (ps : List Pass) (os : OS) (b o : Nat) : Bool:=match G.W b o with | .own p=>(pin ps os p).isSome | _=>false
def Gh.backO (G G' : Gh) (B : Nat) (ps : List Pass) (os : OS) : Gh :=
 {A:=G.A,W:=fun b o=>if b < B∧G.gone ps os b o=false then G.W b o else Gh.newW ps (G'.W b o) }
theorem Gh.gone_own {G : Gh} {ps : List Pass} {os : OS} {b o : Nat} (h : G.gone ps os b o=true) : ∃ p,G.W b o = .own p∧(pin ps os p).isSome=true:=by
 unfold Gh.gone at h
 split at h
 ·rename_i p hp; exact ⟨p,hp,h⟩
 ·simp at h
theorem Gh.newW_box {ps : List Pass} {x : Who} {n : Nm} : Gh.newW ps x ≠ .box n:=by
 unfold Gh.newW
 split
 ·simp
 ·split <;> simp
 ·simp
theorem uH6 {N : Nat} {E : Env} {G : Gh} {st : St} {a : Act} {w : World} (hr : Rel E G st a w) (hE : EOk Z N E) {ps : List Pass} {os : OS} {cxs : List X} {vs : List Value}
  (hav : All2 (XRep w G) (cxs.map (X.tr ps)) vs) (htrok : uE9 ps cxs=true) (hps : ∀ p ∈ ps,st.box p.n=some p.cs) (hnd : uCw st ps=true)
  (hos : ∀ e ∈ os,∃ q,ps[e.1]? = some q∧e.2.1 < q.ds.length∧st.own (.b q.n (q.off + e.2.1))=some e.2.2) :
  E.C≤w.heap.size∧All2 (XRep w (G.passedO ps os)) cxs vs∧(∀ b o,(G.passedO ps os).W b o ≠ .none→b < w.heap.size)∧(∀ (j : Nat) (cs : List C),(ps.map Pass.old)[j]? = some cs→uDt w (G.passedO ps os) (.o j) cs) ∧
  (∀ b o n,(G.passedO ps os).W b o = .box n → ∃ j cs k,n = .o j∧(ps.map Pass.old)[j]? = some cs∧k < cs.length∧b=((G.passedO ps os).A n).1∧o=((G.passedO ps os).A n).2 + k) ∧
  (∀ b o p,(G.passedO ps os).W b o = .own p→E.C≤b) ∧
  (∀ e ∈ os,∃ u,w.cell? ⟨((G.passedO ps os).A (.o e.1)).1,((G.passedO ps os).A (.o e.1)).2 + e.2.1,none⟩=some u∧(G.passedO ps os).W ((G.passedO ps os).A (.o e.1)).1 (((G.passedO ps os).A (.o e.1)).2 + e.2.1) = .box (.o e.1) ∧
   OwnAt E.C w (G.passedO ps os) (.b (.o e.1) e.2.1) e.2.2 u)∧GlOk Z w (G.passedO ps os):=by
 have hlen:=uEU hnd
 have hBs : E.B≤w.heap.size:=Nat.le_trans hr.hB hr.fr.size
 have hA : ∀ (j : Nat) (p : Pass),ps[j]? = some p→(G.passedO ps os).A (.o j)=((G.A p.n).1,(G.A p.n).2 + p.off):=fun j p hp=>by simp [Gh.passedO,Gh.passed,hp]
 have hbox : ∀ (j : Nat) (p : Pass),ps[j]? = some p→uDt w G p.n p.cs:=fun j p hj=>hr.bx p.n p.cs (hps p (List.mem_of_getElem? hj))
 refine ⟨Nat.le_trans E.C_le hBs,?_,?_,?_,?_,?_,?_,?_⟩
 ·refine All2.mem_mono (fun x v hx hxv=>?_) (All2.map_left hav)
  refine XRep.mono (G:=G.passed ps) (fun b o hs=>(G.passedO_imm ps os b o).2 ((G.passed_imm ps b o).1 hs)) (fun _ _ _=>rfl) (fun _ _=>rfl) (XRep.tr (List.all_eq_true.1 htrok x hx) hxv)
 ·intro b o hb
  refine hr.wf b o ?_
  intro e
  apply hb
  unfold Gh.passedO Gh.passed
  dsimp only
  rw [e]
 ·intro j cs hj k c hk
  rw [List.getElem?_map] at hj
  cases hp : ps[j]? with
  | none=>rw [hp] at hj; simp at hj
  | some p =>
   rw [hp] at hj
   simp only [Option.map_some,Option.some.injEq] at hj
   subst hj
   unfold Pass.old at hk
   rw [List.getElem?_take] at hk
   split at hk
   ·rename_i hkl
    rw [List.getElem?_drop] at hk
    obtain ⟨h1,h2,v,h3,h4⟩:=hbox j p hp _ c hk
    rw [hA j p hp]
    rw [← Nat.add_assoc] at h1 h2 h3
    exact ⟨Gh.passedO_of_box (Gh.passed_at hnd hp hkl h1) h1,h2,v,h3,h4.mono (fun b o' hs=>(G.passedO_imm ps os b o').2 hs) (fun _ _ _=>rfl)⟩
   ·simp at hk
 ·intro b o' n hn
  obtain ⟨j,p,rfl,hp,hw,h1,h2,h3⟩:=Gh.passed_box (Gh.passedO_box hn)
  have hpl:=hlen p (List.mem_of_getElem? hp)
  refine ⟨j,p.old,o' - ((G.A p.n).2 + p.off),rfl,by rw [List.getElem?_map,hp]; rfl,?_,?_,?_⟩
  ·simp only [Pass.old,List.length_take,List.length_drop]; omega
  ·rw [hA j p hp]; exact h1
  ·rw [hA j p hp]; dsimp only; omega
 ·intro b o r hb
  obtain ⟨p,hp,_⟩:=Gh.passedO_own hb
  rcases Nat.lt_or_ge b E.C with hlt | hge
  ·exact absurd hp ((hr.lo b o (Nat.lt_of_lt_of_le hlt E.C_le)).2 hlt p)
  ·exact hge
 ·intro e he
  obtain ⟨q,hq,hlt,ho⟩:=hos e he
  obtain ⟨u,hu,hown⟩:=hr.ow _ _ ho
  have hu1 : w.cell? ⟨(G.A q.n).1,(G.A q.n).2 + (q.off + e.2.1),none⟩=some u:=hu.1
  have hu2 : G.W (G.A q.n).1 ((G.A q.n).2 + (q.off + e.2.1)) = .box q.n:=hu.2
  rw [← Nat.add_assoc] at hu1 hu2
  rw [hA e.1 q hq]
  refine ⟨u,hu1,Gh.passedO_of_box (Gh.passed_at hnd hq hlt hu2) hu2,?_⟩
  rcases hown with hown | ⟨blk,len,cap,e',q1,q2,q3,q4⟩
  ·exact .inl hown
  ·refine .inr ⟨blk,len,cap,e',q1,⟨q2.1,q2.2.1,fun t k o hh=>by simp at hh⟩,q3,fun o ho1 ho2=>?_⟩
   obtain ⟨q5,q6⟩:=q4 o ho1 ho2
   refine ⟨?_,q6⟩
   unfold Gh.passedO
   dsimp only
   rw [q5]
   dsimp only
   rw [uK8 hnd he hq]
 ·intro g hg
  have hgl:=hE.at hr
  refine ⟨(hgl g hg).1,(hgl g hg).2.1,fun o n hn=>?_,fun o p hp=>?_⟩
  ·obtain ⟨j,p,_,_,q,_⟩:=Gh.passed_box (Gh.passedO_box hn)
   exact (hgl g hg).2.2.1 o _ q
  ·obtain ⟨q,hq,_⟩:=Gh.passedO_own hp
   exact (hgl g hg).2.2.2 o q hq
theorem uG7 {E : Env} {G G' : Gh} {st : St} {a : Act} {w w' : World} (hr : Rel E G st a w) {ps : List Pass} {os : OS} (hps : ∀ p ∈ ps,st.box p.n=some p.cs) (hnd : uCw st ps=true)
  (hos : ∀ e ∈ os,∃ q,ps[e.1]? = some q∧e.2.1 < q.ds.length∧st.own (.b q.n (q.off + e.2.1))=some e.2.2)
  (hfr : Fr (fun b o=>(∃ n,(G.passedO ps os).W b o = .box n) ∨ ∃ p,(G.passedO ps os).W b o = .own p) w.heap.size w w') (h1 : ∀ b o,(G.passedO ps os).W b o = .imm→G'.W b o = .imm)
  (h2 : ∀ b o,b < w.heap.size→G'.W b o = .imm→(G.passedO ps os).W b o = .imm ∨ ∃ p,(G.passedO ps os).W b o = .own p) (h3 : ∀ b o,G'.W b o ≠ .none→b < w'.heap.size)
  (h5 : ∀ j,G'.A (.o j)=(G.passedO ps os).A (.o j)) (h6 : ∀ (j : Nat) (cs : List C),(ps.map Pass.ds)[j]? = some cs→uDt w' G' (.o j) cs) (h8 : ∀ b o q,b < w.heap.size→G'.W b o = .own q → ∃ p,(G.passedO ps os).W b o = .own p) :
  Rel E (G.backO G' w.heap.size ps os) (st.stores ps) a w'∧(∀ b o,G'.S b o→(G.backO G' w.heap.size ps os).S b o) ∧
  (∀ (sz : Nat) (u : Value) (e : Nat × Nat × Nat) (q : Pass),ps[e.1]? = some q→q.n.isBd=false→OwnAt E.C w' G' (.b (.o e.1) e.2.1) sz u→OwnAt E.C w' (G.backO G' w.heap.size ps os) (.b q.n (q.off + e.2.1)) sz u) ∧
  (∀ b o n,G.W b o = .box n→(G.backO G' w.heap.size ps os).W b o = .box n):=by
 have hlen:=uEU hnd
 have hBs : E.B≤w.heap.size:=Nat.le_trans hr.hB hr.fr.size
 have hbox : ∀ (j : Nat) (p : Pass),ps[j]? = some p→uDt w G p.n p.cs:=fun j p hj=>hr.bx p.n p.cs (hps p (List.mem_of_getElem? hj))
 let G2:=G.backO G' w.heap.size ps os
 have hng : ∀ b o,(∀ p,G.W b o = .own p→pin ps os p=none)→G.gone ps os b o=false:=fun b o h=>by
  unfold Gh.gone
  split
  ·rename_i p hp; rw [h p hp]; rfl
  ·rfl
 have hW2 : ∀ b o,b < w.heap.size→(∀ p,G.W b o = .own p→pin ps os p=none)→G2.W b o=G.W b o:=fun b o hb h=>by
  show (if _ then _ else _)=_
  rw [if_pos ⟨hb,hng b o h⟩]
 have hW3 : ∀ b o,¬ (b < w.heap.size∧G.gone ps os b o=false)→G2.W b o=Gh.newW ps (G'.W b o):=fun b o h=>by
  show (if _ then _ else _)=_
  rw [if_neg h]
 have hM0 : ∀ b o,((∃ n,(G.passedO ps os).W b o = .box n) ∨ ∃ p,(G.passedO ps os).W b o = .own p)→(∃ p ∈ ps,G.W b o = .box p.n∧b=(G.A p.n).1∧(G.A p.n).2 + p.off≤o∧o < (G.A p.n).2 + p.off + p.ds.length) ∨ ∃ p,G.W b o = .own p∧(pin ps os p).isSome=true:=fun b o h=>by
  rcases h with ⟨n,hn⟩ | ⟨r,hr⟩
  ·obtain ⟨j,p,_,hp,hw,q⟩:=Gh.passed_box (Gh.passedO_box hn)
   exact .inl ⟨p,List.mem_of_getElem? hp,hw,q⟩
  ·obtain ⟨p,hp,hpr⟩:=Gh.passedO_own hr
   exact .inr ⟨p,hp,by rw [hpr]; rfl⟩
 have hnM : ∀ b o,(∀ n,G.W b o ≠ .box n)→(∀ p,G.W b o ≠ .own p) → ¬ ((∃ n,(G.passedO ps os).W b o = .box n) ∨ ∃ p,(G.passedO ps os).W b o = .own p):=fun b o hn ho h=>by
  rcases hM0 b o h with ⟨p,_,q,_⟩ | ⟨p,q,_⟩
  ·exact hn _ q
  ·exact ho _ q
 have hS0 : ∀ b o,G.S b o→G2.S b o:=fun b o hs=>by
  unfold Gh.S at *
  rw [hW2 b o (hr.wf b o (by rw [hs]; simp)) (fun p hp=>by rw [hs] at hp; simp at hp)]
  exact hs
 have hcS : ∀ b o,G.S b o→w'.cell? ⟨b,o,none⟩=w.cell? ⟨b,o,none⟩:=fun b o hs=>by
  unfold Gh.S at hs
  exact hfr.cell b o (hr.wf b o (by rw [hs]; simp)) (hnM b o (fun n=>by rw [hs]; simp) (fun n=>by rw [hs]; simp))
 have hS2 : ∀ b o,G'.S b o→G2.S b o:=fun b o hs=>by
  unfold Gh.S at *
  by_cases hq : b < w.heap.size∧G.gone ps os b o=false
  ·show (if _ then _ else _)=_
   rw [if_pos hq]
   rcases h2 b o hq.1 hs with q | ⟨p,q⟩
   ·exact (G.passedO_imm ps os b o).1 q
   ·obtain ⟨p',q1,q2⟩:=Gh.passedO_own q
    have := hq.2
    unfold Gh.gone at this
    rw [q1] at this
    dsimp only at this
    rw [q2] at this; simp at this
  ·rw [hW3 b o hq,hs]; rfl
 have hbx2 : ∀ b o n,G.W b o = .box n→G2.W b o = .box n:=fun b o n hn=>by
  rw [hW2 b o (hr.wf b o (by rw [hn]; simp)) (fun p hp=>by rw [hn] at hp; simp at hp)]
  exact hn
 refine ⟨?_,hS2,?_,hbx2⟩
 ·constructor
  ·exact hr.df
  ·intro k g x hk
   rw [uEb] at hk
   obtain ⟨v,hv,q1,q2⟩:=hr.tm k g x hk
   exact ⟨v,hv,fun hg=>(q1 hg).mono hS0 hcS (fun _ _=>rfl),q2⟩
  ·intro n cs hn
   by_cases hin : ∃ p ∈ ps,p.n=n
   ·obtain ⟨p,hp,rfl⟩:=hin
    rw [uFh ps st p hnd hp] at hn
    simp only [Option.some.injEq] at hn
    subst hn
    obtain ⟨j,hj⟩:=List.getElem?_of_mem hp
    have hpl:=hlen p hp
    intro k c hk
    rw [uEP p.cs p.ds p.off k hpl] at hk
    have hkl : k < p.cs.length:=by
     split at hk
     ·rename_i hh; omega
     ·exact (List.getElem?_eq_some_iff.1 hk).1
    obtain ⟨q1,q2,u,q3,q4⟩:=hbox j p hj k _ (List.getElem?_eq_getElem hkl)
    have hlt : (G.A p.n).1 < w.heap.size:=World.block_lt_of_cell? (a:=⟨(G.A p.n).1,(G.A p.n).2 + k,none⟩) w q3
    rw [show (G.backO G' w.heap.size ps os).A p.n=G.A p.n from rfl]
    refine ⟨hbx2 _ _ _ q1,by rw [hfr.frozen _ _ hlt]; exact q2,?_⟩
    split at hk
    ·rename_i hh
     have hb:=h6 j p.ds (by rw [List.getElem?_map,hj]; rfl) (k - p.off) c hk
     rw [h5 j] at hb
     have hA : (G.passedO ps os).A (.o j)=((G.A p.n).1,(G.A p.n).2 + p.off):=by simp [Gh.passedO,Gh.passed,hj]
     rw [hA] at hb
     obtain ⟨_,_,u',b3,b4⟩:=hb
     dsimp only at b3
     rw [show (G.A p.n).2 + p.off + (k - p.off)=(G.A p.n).2 + k by omega] at b3
     exact ⟨u',b3,b4.mono hS2 (fun _ _ _=>rfl)⟩
    ·rename_i hh
     rw [List.getElem?_eq_getElem hkl] at hk
     simp only [Option.some.injEq] at hk
     subst hk
     refine ⟨u,?_,q4.mono hS0 hcS⟩
     show w'.cell? ⟨(G.A p.n).1,(G.A p.n).2 + k,none⟩=_
     rw [hfr.cell _ _ hlt]
     ·exact q3
     ·intro hm
      rcases hM0 _ _ hm with ⟨q,hq,hw,r1,r2,r3⟩ | ⟨q,hq,_⟩
      ·rw [q1] at hw
       simp only [Who.box.injEq] at hw
       obtain ⟨i,hi⟩:=List.getElem?_of_mem hq
       have := uDk hnd i j q p hi hj hw.symm
       subst this
       rw [hj] at hi
       simp only [Option.some.injEq] at hi
       subst hi
       omega
      ·rw [q1] at hq; simp at hq
   ·rw [uBY ps st n (fun p hp e=>hin ⟨p,hp,e⟩)] at hn
    intro k c hk
    obtain ⟨q1,q2,u,q3,q4⟩:=hr.bx n cs hn k c hk
    have hlt : (G.A n).1 < w.heap.size:=World.block_lt_of_cell? (a:=⟨(G.A n).1,(G.A n).2 + k,none⟩) w q3
    rw [show (G.backO G' w.heap.size ps os).A n=G.A n from rfl]
    refine ⟨hbx2 _ _ _ q1,by rw [hfr.frozen _ _ hlt]; exact q2,u,?_,q4.mono hS0 hcS⟩
    show w'.cell? ⟨(G.A n).1,(G.A n).2 + k,none⟩=_
    rw [hfr.cell _ _ hlt]
    ·exact q3
    ·intro hm
     rcases hM0 _ _ hm with ⟨q,hq,hw,_⟩ | ⟨q,hq,_⟩
     ·rw [q1] at hw
      simp only [Who.box.injEq] at hw
      exact hin ⟨q,hq,hw.symm⟩
     ·rw [q1] at hq; simp at hq
  ·intro p sz hp
   obtain ⟨hp1,hp2⟩:=uFl ps st p sz hp
   have hpn : pin ps os p=none:=by
    cases hpi : pin ps os p with
    | none=>rfl
    | some r =>
     exfalso
     obtain ⟨e,he,_,q,hq,rfl⟩:=uHL hpi
     obtain ⟨q',hq',hlt,_⟩:=hos e he
     rw [hq] at hq'
     simp only [Option.some.injEq] at hq'
     subst hq'
     have := hp2 q (List.mem_of_getElem? hq)
     simp only [Pl.inCells,Nm.beq_self,Bool.true_and,Bool.and_eq_false_iff] at this
     rcases this with this | this
     ·have : ¬ q.off≤q.off + e.2.1:=fun hle=>by rw [Nat.ble_eq_true_of_le hle] at this; simp at this
      omega
     ·have : ¬ q.off + e.2.1 + 1≤q.off + q.ds.length:=fun hle=>by rw [Nat.ble_eq_true_of_le hle] at this; simp at this
      omega
   obtain ⟨v,hv,hov⟩:=hr.ow p sz hp1
   refine ⟨v,?_,?_⟩
   ·cases p with
    | t k=>exact hv
    | b n off =>
     have hlt:=ValAt.lt hr hp1 rfl
     refine ⟨?_,hbx2 _ _ _ hv.2⟩
     show w'.cell? ⟨(G.A n).1,(G.A n).2 + off,none⟩=_
     rw [hfr.cell _ _ hlt]
     ·exact hv.1
     ·intro hm
      have hv2:=hv.2
      rcases hM0 _ _ hm with ⟨q,hq,hw,r1,r2,r3⟩ | ⟨q,hq,_⟩
      ·rw [hv2] at hw
       simp only [Who.box.injEq] at hw
       subst hw
       have := hp2 q hq
       simp only [Pl.inCells,Nm.beq_self,Bool.true_and,Bool.and_eq_false_iff] at this
       rcases this with this | this
       ·have : ¬ q.off≤off:=fun hle=>by rw [Nat.ble_eq_true_of_le hle] at this; simp at this
        omega
       ·have : ¬ off + 1≤q.off + q.ds.length:=fun hle=>by rw [Nat.ble_eq_true_of_le hle] at this; simp at this
        omega
      ·rw [hv2] at hq; simp at hq
   ·rcases hov with hov | ⟨blk,len,cap,e,q1,q2,q3,q4⟩
    ·exact .inl hov
    ·have hlt : blk < w.heap.size:=by
      rcases Nat.lt_or_ge blk w.heap.size with hx | hx
      ·exact hx
      ·have q3:=q3.1; simp [World.shape?,Array.getElem?_eq_none hx] at q3
     refine .inr ⟨blk,len,cap,e,q1,q2,⟨by rw [hfr.shape blk hlt]; exact q3.1,by rw [hfr.mark blk hlt]; exact q3.2⟩,fun o ho1 ho2=>?_⟩
     obtain ⟨q5,q6⟩:=q4 o ho1 ho2
     refine ⟨?_,by rw [hfr.frozen blk o hlt]; exact q6⟩
     rw [hW2 blk o hlt (fun p' hp'=>by rw [q5] at hp'; simp only [Who.own.injEq] at hp'; subst hp'; exact hpn)]
     exact q5
  ·intro b o hb
   by_cases hq : b < w.heap.size∧G.gone ps os b o=false
   ·exact Nat.lt_of_lt_of_le hq.1 hfr.size
   ·rw [hW3 b o hq] at hb
    refine h3 b o ?_
    intro e; rw [e] at hb; exact hb rfl
  ·intro b o n hb hn
   by_cases hq : b < w.heap.size∧G.gone ps os b o=false
   ·have : G2.W b o=G.W b o:=by show (if _ then _ else _)=_; rw [if_pos hq]
    rw [this] at hn
    exact hr.olB b o n hb hn
   ·rw [hW3 b o hq] at hn
    exact absurd hn Gh.newW_box
  ·intro b o p hb hn
   by_cases hq : b < w.heap.size∧G.gone ps os b o=false
   ·have : G2.W b o=G.W b o:=by show (if _ then _ else _)=_; rw [if_pos hq]
    rw [this] at hn
    exact hr.olO b o p hb hn
   ·have hg : G.gone ps os b o=true:=by
     cases hgg : G.gone ps os b o with
     | true=>rfl
     | false=>exact absurd ⟨by omega,hgg⟩ hq
    obtain ⟨p',hp',_⟩:=Gh.gone_own hg
    exact hr.olO b o p' hb hp'
  ·exact hr.nt
  ·exact hr.oA
  ·intro b o hi
   exact hS0 b o (hr.im b o hi)
  ·intro b o hb hi
   by_cases hq : b < w.heap.size∧G.gone ps os b o=false
   ·have : G2.W b o=G.W b o:=by show (if _ then _ else _)=_; rw [if_pos hq]
    rw [this] at hi
    exact hr.im' b o hb hi
   ·have hg : G.gone ps os b o=true:=by
     cases hgg : G.gone ps os b o with
     | true=>rfl
     | false=>exact absurd ⟨by omega,hgg⟩ hq
    obtain ⟨p',hp',_⟩:=Gh.gone_own hg
    exact .inr (hr.olO b o p' hb hp')
  ·refine hr.fr.trans (hfr.mono hBs fun b o hb hm=>?_)
   rcases hM0 b o hm with ⟨q,hq,hw,_⟩ | ⟨q,hq,_⟩
   ·exact hr.olB b o _ hb hw
   ·exact .inr (hr.olO b o _ hb hq)
  ·exact hr.hB
  ·intro b o hb
   by_cases hq : b < w.heap.size∧G.gone ps os b o=false
   ·have : G2.W b o=G.W b o:=by show (if _ then _ else _)=_; rw [if_pos hq]
    show (∀ n,G2.W b o = .box n→_)∧(b < E.C → ∀ p,G2.W b o ≠ .own p)
    rw [this]
    exact hr.lo b o hb
   ·have hg : G.gone ps os b o=true:=by
     cases hgg : G.gone ps os b o with
     | true=>rfl
     | false=>exact absurd ⟨by omega,hgg⟩ hq
    obtain ⟨p',hp',_⟩:=Gh.gone_own hg
    refine ⟨fun n hn=>?_,fun hbc=>absurd hp' ((hr.lo b o hb).2 hbc p')⟩
    have hn2 : G2.W b o = .box n:=hn
    rw [hW3 b o hq] at hn2
    exact absurd hn2 Gh.newW_box
  ·intro t k cs hn hne
   have hnp : ∀ p ∈ ps,p.n ≠ .bd t k:=fun p hp e=>by
    have := uFG hnd p hp
    rw [e] at this; simp [Nm.isBd] at this
   rw [uBY ps st _ hnp] at hn
   obtain ⟨q1,q2,x,q3,q4⟩:=hr.bd t k cs hn hne
   have hlt : (G.A (.bd t k)).1 < w.heap.size:=World.block_lt_of_cell? (a:=⟨(G.A (.bd t k)).1,0,none⟩) w q3
   obtain ⟨c0,hc0⟩ : ∃ c0,cs[0]? = some c0:=by
    cases cs with
    | nil=>exact absurd rfl hne
    | cons c0 r=>exact ⟨c0,rfl⟩
   obtain ⟨r1,_⟩:=hr.bx _ cs hn 0 c0 hc0
   rw [q1] at r1
   show (G.A (.bd t k)).2=0∧w'.shape? (G.A (.bd t k)).1=_ ∧ ∃ x,w'.cell? ⟨(G.A (.bd t k)).1,0,none⟩=some (.pointer x)∧(x=none∨x=some ⟨(G.A (.bd t k)).1,0,none⟩)
   rw [hfr.shape _ hlt]
   refine ⟨q1,q2,x,?_,q4⟩
   rw [hfr.cell _ _ hlt]
   ·exact q3
   ·intro hm
    rcases hM0 _ _ hm with ⟨q,hq,hw,_⟩ | ⟨q,hq,_⟩
    ·rw [Nat.zero_add] at r1
     rw [r1] at hw
     simp only [Who.box.injEq] at hw
     exact hnp q hq hw.symm
    ·rw [Nat.zero_add] at r1
     rw [r1] at hq; simp at hq
  ·intro x hx
   rw [uFU] at hx
   obtain ⟨q1,q2,q3⟩:=hr.mp x hx
   have hlt:=q1.lt
   refine ⟨q1.of_same (hfr.block _ hlt fun o=>hnM _ o (q3 o).1 (q3 o).2),q2,fun o=>?_⟩
   show (∀ n,G2.W x.1 o ≠ .box n) ∧ ∀ p,G2.W x.1 o ≠ .own p
   rw [hW2 _ o hlt (fun p hp=>absurd hp ((q3 o).2 p))]
   exact q3 o
 ·intro sz u e q hq hbd ho
  rcases ho with ho | ⟨blk,len,cap,e',q1,q2,q3,q4⟩
  ·exact .inl ho
  ·refine .inr ⟨blk,len,cap,e',q1,⟨q2.1,q2.2.1,fun t k o hh=>?_⟩,q3,fun o ho1 ho2=>?_⟩
   ·simp only [Pl.b.injEq] at hh
    rw [hh.1] at hbd; simp [Nm.isBd] at hbd
   ·obtain ⟨q5,q6⟩:=q4 o ho1 ho2
    refine ⟨?_,q6⟩
    have hno : ¬ (blk < w.heap.size∧G.gone ps os blk o=false):=by
     rintro ⟨hlt,hg⟩
     obtain ⟨p,hp⟩:=h8 blk o _ hlt q5
     obtain ⟨p',r1,r2⟩:=Gh.passedO_own hp
     unfold Gh.gone at hg
     rw [r1] at hg
     dsimp only at hg
     rw [r2] at hg; simp at hg
    show G2.W blk o=_
    rw [hW3 blk o hno,q5]
    simp [Gh.newW,pout,hq]
theorem Rel.addOwns {E : Env} {G : Gh} {st : St} {a : Act} {w : World} (h : Rel E G st a w) {l : List (Pl × Nat)} (hl : ∀ x ∈ l,∃ v,ValAt a w G x.1 v∧OwnAt E.C w G x.1 x.2 v) : Rel E G { st with ow:=l++st.ow } a w where
 df:=h.df
 tm:=h.tm
 bx:=h.bx
 ow:=by
  intro p sz hp
  have hp2 : getO (l++st.ow) p=some sz:=hp
  clear hp
  induction l with
  | nil=>exact h.ow p sz hp2
  | cons x r ih =>
   rw [List.cons_append,uBZ] at hp2
   split at hp2
   ·rename_i he
    simp only [Option.some.injEq] at hp2
    subst he; subst hp2
    exact hl x (by simp)
   ·exact ih (fun y hy=>hl y (by simp [hy])) hp2
 wf:=h.wf
 olB:=h.olB
 olO:=h.olO
 nt:=h.nt
 oA:=h.oA
 im:=h.im
 im':=h.im'
 fr:=h.fr
 hB:=h.hB
 lo:=h.lo
 bd:=h.bd
 mp:=h.mp
def osPl (ps : List Pass) (os : OS) : List (Pl × Nat):=os.filterMap fun e=>(ps[e.1]?).map fun q=>(.b q.n (q.off + e.2.1),e.2.2)
def osB (ps : List Pass) (os : OS) (st : St) : Bool:=os.all fun e=>match ps[e.1]? with
 | some q=>Nat.ble (e.2.1 + 1) q.ds.length && (match st.own (.b q.n (q.off + e.2.1)) with | some s=>Nat.beq s e.2.2 | none=>false)
 | none=>false
theorem uM2 {ps : List Pass} {os : OS} {st : St} (h : osB ps os st=true) : ∀ e ∈ os,∃ q,ps[e.1]? = some q∧e.2.1 < q.ds.length∧st.own (.b q.n (q.off + e.2.1))=some e.2.2:=by
 intro e he
 have := List.all_eq_true.1 h e he
 split at this
 ·rename_i q hq
  rw [Bool.and_eq_true] at this
  obtain ⟨h1,h2⟩:=this
  split at h2
  ·rename_i s hs
   exact ⟨q,hq,Nat.le_of_ble_eq_true h1,by rw [hs,Nat.eq_of_beq_eq_true h2]⟩
  ·simp at h2
 ·simp at this
theorem uMt {N : Nat} {ops : Array Oper} {st : St} {o : Oper} {d : Nat} {fo : Operand} {args : Array Operand} {ts : Array TypeId} {f : FuncId} {xs cxs : List X} {res : X} {ps : List Pass} {os : OS}
  (ho : o.op = .call { callee:=.value fo,args:=args,argTypes:=ts }) (hg : uBg ops st o=some true)
  (hf : lk Z.T st 0 fo=some (true, .fn f [])) (ha : uCo Z.T st ts.toList args.toList=some (true,xs)) (htr : cxs.map (X.tr ps)=xs) (htrok : uE9 ps cxs=true)
  (hps : ∀ p ∈ ps,st.box p.n=some p.cs) (hnd : uCw st ps=true) (hosb : osB ps os st=true)
  (hs : CtrO Z f cxs (ps.map Pass.old) os res (ps.map Pass.ds) .box) (hc : res.clean=true) (hd : o.dst=some d) (hN : Nat.ble (d + 1) N=true) :
  Op1 Z N ops o st (({ st.stores ps with ow:=osPl ps os++(st.stores ps).ow } : St).put d (true,res)):=by
 intro E G a w hr hE K' Q' hK
 rw [uBW hr hg]
 simp only [if_true]
 obtain ⟨cvs,hfv,hcv⟩:=uA7 hr hf rfl
 have hcv0 : cvs=[]:=by cases cvs with
  | nil=>rfl
  | cons _ _=>exact hcv.elim
 subst hcv0
 have hav:=uDa hr ha rfl
 obtain ⟨hen,hsp⟩:=hs
 unfold Oper.wp
 rw [uD2 ho hfv hen,Oper.upon_enter]
 rw [← htr] at hav
 have hos:=uM2 hosb
 obtain ⟨p1,p2,p3,p4,p5,p6,p7,p8⟩:=uH6 hr hE hav htrok hps hnd hos
 rw [List.append_nil]
 refine (hsp E.C w _ _ p1 p2 p3 p4 p5 p6 p7 p8).mono ?_
 rintro e w' ⟨v,G',rfl,hfr,h1,h2,h3,h4,h5,h6,h7,h8⟩
 dsimp only
 obtain ⟨hrel,hS2,hown,hbx⟩:=uG7 hr hps hnd hos hfr h1 h2 h3 h5 h6 h8
 have hX : XRep w' (G.backO G' w.heap.size ps os) res v:=h4.mono hS2 (fun _ _ _=>rfl) (fun n hn=>by rw [X.clean_has hc n] at hn; simp at hn)
 rw [hd] at hK ⊢
 have hdN : d < E.nt:=by rw [hE.nt]; exact Nat.le_of_ble_eq_true hN
 refine hK _ v w' ((hrel.addOwns (l:=osPl ps os) ?_).put hdN (g:=true) (fun _=>hX) (fun hf=>by simp at hf))
 intro x hx
 obtain ⟨e,he,hex⟩:=List.mem_filterMap.1 hx
 obtain ⟨q,hq,hlt,hqo⟩:=hos e he
 rw [hq] at hex
 simp only [Option.map_some,Option.some.injEq] at hex
 subst hex
 obtain ⟨u,hu,huo⟩:=h7 e he
 have hA : (G.passedO ps os).A (.o e.1)=((G.A q.n).1,(G.A q.n).2 + q.off):=by simp [Gh.passedO,Gh.passed,hq]
 have hu2 : w'.cell? ⟨(G'.A (.o e.1)).1,(G'.A (.o e.1)).2 + e.2.1,none⟩=some u:=hu
 rw [h5,hA] at hu2
 dsimp only at hu2
 rw [Nat.add_assoc] at hu2
 obtain ⟨u0,hu0,_⟩:=hr.ow _ _ hqo
 exact ⟨u,⟨hu2,hbx _ _ _ hu0.2⟩,hown _ u e q hq (uFG hnd q (List.mem_of_getElem? hq)) huo⟩
theorem uDH {N : Nat} {ops : Array Oper} {rest : List Oper} {K : St→Prop} {st : St} {o : Oper} {d : Nat} {fo : Operand} {args : Array Operand} {ts : Array TypeId} {f : FuncId} {xs cxs : List X} {res : X} (ps : List Pass) (os : OS)
  (ho : o.op = .call { callee:=.value fo,args:=args,argTypes:=ts }) (hg : uBg ops st o=some true)
  (hf : lk Z.T st 0 fo=some (true, .fn f [])) (ha : uCo Z.T st ts.toList args.toList=some (true,xs)) (htr : cxs.map (X.tr ps)=xs) (htrok : uE9 ps cxs=true)
  (hps : ∀ p ∈ ps,st.box p.n=some p.cs) (hnd : uCw st ps=true) (hosb : osB ps os st=true)
  (hs : CtrO Z f cxs (ps.map Pass.old) os res (ps.map Pass.ds) .box) (hc : res.clean=true) (hd : o.dst=some d) (hN : Nat.ble (d + 1) N=true)
  (h : AL Z N ops rest K (({ st.stores ps with ow:=osPl ps os++(st.stores ps).ow } : St).put d (true,res))) : AL Z N ops (o :: rest) K st :=
 uDW (uMt ho hg hf ha htr htrok hps hnd hosb hs hc hd hN) h
end Go.Abs
namespace Go.Abs
variable {Z : Pg}
theorem Rel.reBox {E : Env} {G : Gh} {st : St} {a : Act} {w : World} (h : Rel E G st a w) {n : Nm} {cs : List C} {i : Nat} {c c' : C} (hb : st.box n=some cs) (hc : cs[i]? = some c) (hx : ∀ v,w.cell? ⟨(G.A n).1,(G.A n).2 + i,none⟩=some v→CRep w G.S c v→CRep w G.S c' v) :
  Rel E G { st with bx:=(n,cs.set i c') :: st.bx } a w where
 df:=h.df
 tm:=h.tm
 bx:=by
  intro m ds hm
  have hm2 : getB ((n,cs.set i c') :: st.bx) m=some ds:=hm
  rw [uBb] at hm2
  split at hm2
  ·rename_i he
   subst he
   simp only [Option.some.injEq] at hm2
   subst hm2
   intro j d hj
   rw [List.getElem?_set] at hj
   split at hj
   ·rename_i hij
    subst hij
    obtain ⟨q1,q2,v,q3,q4⟩:=h.bx n cs hb i c hc
    split at hj
    ·simp only [Option.some.injEq] at hj
     subst hj
     exact ⟨q1,q2,v,q3,hx v q3 q4⟩
    ·simp at hj
   ·exact h.bx n cs hb j d hj
  ·exact h.bx m ds hm2
 ow:=h.ow
 wf:=h.wf
 olB:=h.olB
 olO:=h.olO
 nt:=h.nt
 oA:=h.oA
 im:=h.im
 im':=h.im'
 fr:=h.fr
 hB:=h.hB
 lo:=h.lo
 bd:=by
  intro t k ds hm hne
  have hm2 : getB ((n,cs.set i c') :: st.bx) (.bd t k)=some ds:=hm
  rw [uBb] at hm2
  split at hm2
  ·rename_i he
   subst he
   refine h.bd t k cs hb ?_
   intro e; subst e; simp at hc
  ·exact h.bd t k ds hm2 hne
 mp:=h.mp
theorem Rel.name {E : Env} {G : Gh} {st : St} {a : Act} {w : World} (h : Rel E G st a w) {n : Nm} {cs : List C} {i sz : Nat} {es : List (List C)} (hb : st.box n=some cs) (hc : cs[i]? = some (.sl sz es)) :
  ∃ u,Rel E G { st with bx:=(n,cs.set i (.so u sz es)) :: st.bx } a w:=by
 obtain ⟨_,_,v,q3,q4⟩:=h.bx n cs hb i _ hc
 refine ⟨v,h.reBox hb hc fun v' hv' hr=>?_⟩
 rw [q3] at hv'
 simp only [Option.some.injEq] at hv'
 subst hv'
 exact .so _ _ _ hr
theorem uEx {N : Nat} {c : Code} {Q : Exit→St→Prop} {st : St} (n : Nm) (i : Nat) {cs : List C} {sz : Nat} {es : List (List C)} (hb : st.box n=some cs) (hc : cs[i]? = some (.sl sz es))
  (h : ∀ u,AWP Z N c Q { st with bx:=(n,cs.set i (.so u sz es)) :: st.bx }) : AWP Z N c Q st:=fun E G a w hr hE=>by
 obtain ⟨u,hu⟩:=hr.name hb hc
 exact h u E G a w hu hE
theorem Rel.twin {E : Env} {G : Gh} {st : St} {a : Act} {w : World} (h : Rel E G st a w) {n m : Nm} {cs ds : List C} {i k sz : Nat} {es : List (List C)} {u : Value} (hb : st.box n=some cs) (hc : cs[i]? = some (.so u sz es)) (hbm : st.box m=some ds) (hcm : ds[k]? = some (.so u sz es))
  (ho : st.own (.b m k)=some sz) (hnb : n.isBd=false) (hne : Pl.beq (.b m k) (.b n i)=false) :
  ∃ G',Rel E G' ((({ st with bx:=(n,cs.set i (.sl sz es)) :: st.bx } : St).unown (.b m k)).addOwn (.b n i) sz) a w:=by
 have h0 : ∀ v,w.cell? ⟨(G.A n).1,(G.A n).2 + i,none⟩=some v→CRep w G.S (.so u sz es) v→CRep w G.S (.sl sz es) v:=fun v _ hr=>by cases hr; assumption
 have h1:=h.reBox hb hc h0
 obtain ⟨x,hx,hxo⟩:=h1.ow (.b m k) sz ho
 have hxu : x=u:=by
  obtain ⟨_,_,v,q3,q4⟩:=h.bx m ds hbm k _ hcm
  rw [hx.1] at q3
  simp only [Option.some.injEq] at q3
  subst q3
  cases q4; rfl
 subst hxu
 have h2 : Rel E G (({ st with bx:=(n,cs.set i (.sl sz es)) :: st.bx } : St).unown (.b n i)) a w:=Rel.sub (st:=({ st with bx:=(n,cs.set i (.sl sz es)) :: st.bx } : St)) ⟨fun _ _ q=>q,fun _ _ q=>q,fun p s hp=>by
  rw [St.unown_own] at hp
  split at hp
  ·simp at hp
  ·exact hp, .inr rfl⟩ h1
 obtain ⟨q1,_,v,q3,q4⟩:=h.bx n cs hb i _ hc
 have hvu : v=x:=by cases q4; rfl
 subst hvu
 have h3:=h2.relabel (p:=.b m k) (q:=.b n i) hxo (by rw [St.unown_own,if_pos rfl]) ⟨q3,q1⟩ (by intro t k' o hh; simp only [Pl.b.injEq] at hh; rw [hh.1] at hnb; simp [Nm.isBd] at hnb)
 refine ⟨_,Rel.sub (st:=(((({ st with bx:=(n,cs.set i (.sl sz es)) :: st.bx } : St).unown (.b n i)).unown (.b m k)).addOwn (.b n i) sz)) ⟨fun _ _ q=>q,fun _ _ q=>q,fun p s hp=>?_, .inr rfl⟩ h3⟩
 rw [St.addOwn_own] at hp ⊢
 split
 ·rename_i he; rw [if_pos he] at hp; exact hp
 ·rename_i he
  rw [if_neg he] at hp
  rw [St.unown_own] at hp ⊢
  split at hp
  ·simp at hp
  ·rename_i hpm
   rw [if_neg hpm,St.unown_own,if_neg (fun q=>he q.symm)]
   exact hp
theorem uEp {N : Nat} {c : Code} {Q : Exit→St→Prop} {st : St} (n : Nm) (i : Nat) (m : Nm) (k : Nat) {cs ds : List C} {sz : Nat} {es : List (List C)} {u : Value} (hb : st.box n=some cs) (hc : cs[i]? = some (.so u sz es)) (hbm : st.box m=some ds) (hcm : ds[k]? = some (.so u sz es))
  (ho : st.own (.b m k)=some sz) (hnb : n.isBd=false) (hne : Pl.beq (.b m k) (.b n i)=false)
  (h : AWP Z N c Q ((({ st with bx:=(n,cs.set i (.sl sz es)) :: st.bx } : St).unown (.b m k)).addOwn (.b n i) sz)) : AWP Z N c Q st:=fun E G a w hr hE=>by
 obtain ⟨G',hr'⟩:=hr.twin hb hc hbm hcm ho hnb hne
 exact h E G' a w hr' hE
theorem uEq (b : Nat) : ∀ (vs : List Value) (o : Nat) (w : World) (x : Nat),(w.setCells b o vs).shape? x=w.shape? x
 | [],_,_,_=>rfl
 | v :: vs,o,w,x=>by rw [World.setCells,uEq b vs]; exact uBV _ _ _ _
theorem uE4 (b : Nat) : ∀ (vs : List Value) (o : Nat) (w : World) (x : Nat),uBF (w.setCells b o vs) x=uBF w x
 | [],_,_,_=>rfl
 | v :: vs,o,w,x=>by rw [World.setCells,uE4 b vs]; exact uC4 _ _ _ _
theorem OwnAt.setCells {B : Nat} {w : World} {G : Gh} {p : Pl} {sz : Nat} {v : Value} (h : OwnAt B w G p sz v) (b o : Nat) (vs : List Value) : OwnAt B (w.setCells b o vs) G p sz v:=by
 rcases h with h | ⟨blk,len,cap,e,q1,q2,q3,q4⟩
 ·exact .inl h
 ·exact .inr ⟨blk,len,cap,e,q1,q2,⟨by rw [uEq]; exact q3.1,by rw [uE4]; exact q3.2⟩,fun o' h1 h2=>⟨(q4 o' h1 h2).1,by rw [World.frozen?_setCells]; exact (q4 o' h1 h2).2⟩⟩
theorem uBs {a : Act} {d k : Nat} {v : Value} (hk : k < a.tmps.size) : (a.put (some d) v).eval (.tmp k)=if k=d then v else a.eval (.tmp k):=by
 have h1:=uBH (a:=a) (d:=d) (v:=v) hk
 show (a.put (some d) v).tmps.getD k undef=if k=d then v else a.tmps.getD k undef
 rw [Array.getD_eq_getD_getElem?,h1,Array.getD_eq_getD_getElem?]
 split <;> rfl
theorem uDu (a : Act) (d : Nat) (v : Value) : (a.put (some d) v).tmps.size=a.tmps.size:=by simp [Act.put]
theorem uI6 {ops : Array Oper} {rest : List Oper} {o : Oper} {a : Act} {w : World} {Q : Exit→Act→World→Prop} {d : Nat} {v : Value} (hg : o.guard=none) (hd : o.dst=some d) (hrun : (execOp a.eval o).run Z.P w = .ok (.value v) w)
  (h : wpList Z.P ops Q rest (a.put (some d) v) w) : wpList Z.P ops Q (o :: rest) a w:=by
 unfold wpList
 rw [if_pos (by simp [Region.wanted,hg])]
 refine .inl ?_
 unfold Oper.wp
 rw [hrun,Oper.upon_value,hd]
 exact h
theorem uJ1 {ops : Array Oper} {rest : List Oper} {o : Oper} {a : Act} {w w' : World} {Q : Exit→Act→World→Prop} (hg : o.guard=none) (hd : o.dst=none) (hrun : (execOp a.eval o).run Z.P w = .ok .skip w')
  (h : wpList Z.P ops Q rest a w') : wpList Z.P ops Q (o :: rest) a w:=by
 unfold wpList
 rw [if_pos (by simp [Region.wanted,hg])]
 refine .inl ?_
 unfold Oper.wp
 rw [hrun,Oper.upon_skip,hd]
 exact h
theorem uDF {N : Nat} {ops : Array Oper} {rest : List Oper} {K : St→Prop} {st : St} {o1 o2 o3 o4 o5 o6 : Oper} {d1 d2 d3 d4 p1 p2 : Nat} {T1 T2 : TypeId} {fo : Operand} {args : Array Operand} {ts : Array TypeId} {f : FuncId} {xs cxs : List X} {ti1 ti2 : TyI}
  (n1 n2 : Nm) {cs cs2 ds1 ds2 : List C} (os : OS)
  (ho1 : o1.op = .call { callee:=.value fo,args:=args,argTypes:=ts }) (ho2 : o2.op = .move (.tmp d1)) (ho3 : o3.op = .extract (.tmp d2) 0) (ho4 : o4.op = .extract (.tmp d2) 1) (ho5 : o5.op = .store T1 (.tmp p1) (.tmp d3)) (ho6 : o6.op = .store T2 (.tmp p2) (.tmp d4))
  (hd : o1.dst=some d1∧o2.dst=some d2∧o3.dst=some d3∧o4.dst=some d4∧o5.dst=none∧o6.dst=none) (hg : o1.guard=none∧o2.guard=none∧o3.guard=none∧o4.guard=none∧o5.guard=none∧o6.guard=none)
  (hf : lk Z.T st 0 fo=some (true, .fn f [])) (ha : uCo Z.T st ts.toList args.toList=some (true,xs)) (htr : cxs.map (X.tr [⟨n1,0,cs,cs⟩])=xs) (htrok : uE9 [⟨n1,0,cs,cs⟩] cxs=true)
  (hp1 : st.get p1=some (true, .v (.ptr n1 0))) (hp2 : st.get p2=some (true, .v (.ptr n2 0))) (hb1 : st.box n1=some cs) (hb2 : st.box n2=some cs2) (hn : Nm.beq n1 n2=false) (hnb : n1.isBd=false∧n2.isBd=false)
  (hosb : osB [⟨n1,0,cs,cs⟩] os st=true) (hs : CtrO Z f cxs [cs] os (.tup [.agg ds1, .agg ds2]) [cs] .res) (hl1 : ds1.length=cs.length) (hl2 : ds2.length=cs2.length)
  (ht1 : tyAt Z.T T1=some ti1) (hti1 : ds1.length=ti1.n) (ht2 : tyAt Z.T T2=some ti2) (hti2 : ds2.length=ti2.n)
  (hN : (Nat.ble (d1 + 1) N && Nat.ble (d2 + 1) N && Nat.ble (d3 + 1) N && Nat.ble (d4 + 1) N)=true)
  (hdis : (!Nat.beq p1 d1 && !Nat.beq p1 d2 && !Nat.beq p1 d3 && !Nat.beq p1 d4 && !Nat.beq p2 d1 && !Nat.beq p2 d2 && !Nat.beq p2 d3 && !Nat.beq p2 d4 && !Nat.beq d3 d4 && !Nat.beq d2 d3)=true)
  (h : AL Z N ops rest K ((((({ (st.store n1 ds1 0 ds1.length).store n2 ds2 0 ds2.length with ow:=osPl [⟨n1,0,cs,cs⟩] os++((st.store n1 ds1 0 ds1.length).store n2 ds2 0 ds2.length).ow } : St).put d1 (true, .tup [.agg ds1, .agg ds2])).put d2 (true, .tup [.agg ds1, .agg ds2])).put d3 (true, .v (.agg ds1))).put d4 (true, .v (.agg ds2)))) :
  AL Z N ops (o1 :: o2 :: o3 :: o4 :: o5 :: o6 :: rest) K st:=by
 intro E G a w hr hE K' hK
 obtain ⟨cvs,hfv,hcv⟩:=uA7 hr hf rfl
 have hcv0 : cvs=[]:=by cases cvs with
  | nil=>rfl
  | cons _ _=>exact hcv.elim
 subst hcv0
 have hav:=uDa hr ha rfl
 obtain ⟨hen,hsp⟩:=hs
 rw [← htr] at hav
 have hps : ∀ p ∈ ([⟨n1,0,cs,cs⟩] : List Pass),st.box p.n=some p.cs:=by intro p hp; simp at hp; subst hp; exact hb1
 have hnd : uCw st [⟨n1,0,cs,cs⟩]=true:=by simp [uCw,hnb.1]
 have hos:=uM2 hosb
 obtain ⟨q1,q2,q3,q4,q5,q6,q7,q8⟩:=uH6 hr hE hav htrok hps hnd hos
 have hold : ([⟨n1,0,cs,cs⟩] : List Pass).map Pass.old=[cs]:=by simp [Pass.old]
 rw [hold] at q4 q5
 unfold wpList
 rw [if_pos (by simp [Region.wanted,hg.1])]
 refine .inl ?_
 unfold Oper.wp
 rw [uD2 ho1 hfv hen,Oper.upon_enter,List.append_nil]
 refine (hsp E.C w _ _ q1 q2 q3 q4 q5 q6 q7 q8).mono ?_
 rintro e w' ⟨v,G',rfl,hfr,h1,h2,h3,h4,h5,h6,h7,h8⟩
 dsimp only
 obtain ⟨hrel,hS2,hown,hbx⟩:=uG7 hr hps hnd hos hfr h1 h2 h3 h5 (by
  intro j cs' hj
  exact h6 j cs' (by simpa using hj)) h8
 generalize hG2 : G.backO G' w.heap.size [⟨n1,0,cs,cs⟩] os=G2 at hrel hS2 hown hbx
 have hA2 : G2.A=G.A:=by rw [← hG2]; rfl
 have hX : XRep w' G2 (.tup [.agg ds1, .agg ds2]) v:=h4.mono hS2 (fun _ _ _=>rfl) (fun n hn=>by simp [X.has,Y.has] at hn)
 obtain ⟨vs,hv,hvs⟩:=hX
 subst hv
 match vs,hvs with
 | [v0,v1],⟨hx0,hx1,_⟩ =>
 obtain ⟨us0,rfl,hu0⟩:=hx0
 obtain ⟨us1,rfl,hu1⟩:=hx1
 obtain ⟨hd1,hd2,hd3,hd4,hd5,hd6⟩:=hd
 obtain ⟨_,hg2,hg3,hg4,hg5,hg6⟩:=hg
 simp only [Bool.and_eq_true,Bool.not_eq_true'] at hdis hN
 have nb : ∀ {x y : Nat},Nat.beq x y=false → ¬ x=y:=fun hb he=>by subst he; simp at hb
 obtain ⟨⟨⟨⟨⟨⟨⟨⟨⟨a1,a2⟩,a3⟩,a4⟩,b1⟩,b2⟩,b3⟩,b4⟩,c1⟩,c2⟩:=hdis
 obtain ⟨⟨⟨l1,l2⟩,l3⟩,l4⟩:=hN
 have l1:=Nat.le_of_ble_eq_true l1
 have l2:=Nat.le_of_ble_eq_true l2
 have l3:=Nat.le_of_ble_eq_true l3
 have l4:=Nat.le_of_ble_eq_true l4
 have hnt : a.tmps.size=N:=by rw [hr.nt,hE.nt]
 obtain ⟨x1,hx1,hx1r,_⟩:=hr.tm _ _ _ hp1
 obtain ⟨x2,hx2,hx2r,_⟩:=hr.tm _ _ _ hp2
 have lp1 : p1 < a.tmps.size:=uB2 hx1
 have lp2 : p2 < a.tmps.size:=uB2 hx2
 have ep1 : a.eval (.tmp p1) = .pointer (some ⟨(G2.A n1).1,(G2.A n1).2 + 0,none⟩):=by
  have : x1=_:=hx1r rfl
  rw [hA2,← this]; simp [Act.eval,Array.getD_eq_getD_getElem?,hx1]
 have ep2 : a.eval (.tmp p2) = .pointer (some ⟨(G2.A n2).1,(G2.A n2).2 + 0,none⟩):=by
  have : x2=_:=hx2r rfl
  rw [hA2,← this]; simp [Act.eval,Array.getD_eq_getD_getElem?,hx2]
 rw [hd1]
 let A1:=a.put (some d1) (.tuple #[.agg us0.toArray, .agg us1.toArray])
 let A2:=A1.put (some d2) (.tuple #[.agg us0.toArray, .agg us1.toArray])
 let A3:=A2.put (some d3) (.agg us0.toArray)
 let A4:=A3.put (some d4) (.agg us1.toArray)
 have z1 : A1.tmps.size=N:=by rw [uDu,hnt]
 have z2 : A2.tmps.size=N:=by rw [uDu,z1]
 have z3 : A3.tmps.size=N:=by rw [uDu,z2]
 have z4 : A4.tmps.size=N:=by rw [uDu,z3]
 have e1 : A1.eval (.tmp d1) = .tuple #[.agg us0.toArray, .agg us1.toArray]:=by rw [uBs (by omega),if_pos rfl]
 have e2 : A2.eval (.tmp d2) = .tuple #[.agg us0.toArray, .agg us1.toArray]:=by rw [uBs (by omega),if_pos rfl]
 have e3 : A3.eval (.tmp d2) = .tuple #[.agg us0.toArray, .agg us1.toArray]:=by rw [uBs (by omega),if_neg (nb c2),e2]
 have e4 : A4.eval (.tmp d3) = .agg us0.toArray:=by rw [uBs (by omega),if_neg (nb c1),uBs (by omega),if_pos rfl]
 have e5 : A4.eval (.tmp d4) = .agg us1.toArray:=by rw [uBs (by omega),if_pos rfl]
 have e6 : A4.eval (.tmp p1) = .pointer (some ⟨(G2.A n1).1,(G2.A n1).2 + 0,none⟩):=by
  rw [uBs (by omega),if_neg (nb a4),uBs (by omega),if_neg (nb a3),uBs (by omega),if_neg (nb a2),uBs (by omega),if_neg (nb a1),ep1]
 have e7 : A4.eval (.tmp p2) = .pointer (some ⟨(G2.A n2).1,(G2.A n2).2 + 0,none⟩):=by
  rw [uBs (by omega),if_neg (nb b4),uBs (by omega),if_neg (nb b3),uBs (by omega),if_neg (nb b2),uBs (by omega),if_neg (nb b1),ep2]
 refine uI6 (v:=.tuple #[.agg us0.toArray, .agg us1.toArray]) hg2 hd2 (by simp [execOp,ho2]; exact e1) ?_;refine uI6 (v:=.agg us0.toArray) hg3 hd3 (by
  have : (A2.eval (.tmp d2))=_:=e2
  simp only [execOp,ho3]
  rw [e2]; simp [Instr.extract]) ?_
 refine uI6 (v:=.agg us1.toArray) hg4 hd4 (by
  simp only [execOp,ho4]
  rw [e3]; simp [Instr.extract]) ?_
 have hbn : (st.stores [⟨n1,0,cs,cs⟩]).box n1=some (uBG cs 0 cs):=by
  rw [St.stores,St.stores,St.store_box,if_pos rfl]
 have hlen0:=hu0.len
 have hlen1:=hu1.len
 have hR1:=hrel.storeAll ds1 us0 (n:=n1) (off:=0) hbn (by rw [uB4]; omega) hu0 (fun hb=>by rw [hnb.1] at hb; simp at hb)
 have hrun1:=uCO hrel (n:=n1) (off:=0) (ds:=ds1) (v:=.agg us0.toArray) hbn (by rw [uB4]; omega) ht1 hti1 (by simpa [Value.cells] using hu0)
 have hn12 : ¬ n1=n2:=fun he=>by subst he; rw [Nm.beq_self] at hn; simp at hn
 have hbn2 : ((st.stores [⟨n1,0,cs,cs⟩]).store n1 (uBG (uBG cs 0 cs) 0 ds1) 0 ds1.length).box n2=some cs2:=by
  rw [St.store_box,if_neg hn12,St.stores,St.stores,St.store_box,if_neg hn12]; exact hb2
 have hSc : ∀ (b o : Nat),G2.S b o→(w'.setCells (G2.A n1).1 ((G2.A n1).2 + 0) us0).cell? ⟨b,o,none⟩=w'.cell? ⟨b,o,none⟩:=fun b o hso=>by
  refine World.cell?_setCells_out _ _ _ _ _ (fun hb _=>?_)
  dsimp only at hb ⊢
  rcases Nat.lt_or_ge o ((G2.A n1).2 + 0) with hq | hq
  ·exact .inl hq
  rcases Nat.lt_or_ge o ((G2.A n1).2 + 0 + us0.length) with hq2 | hq2
  ·exfalso
   have hbb:=hrel.bx n1 _ hbn (o - (G2.A n1).2) _ (List.getElem?_eq_getElem (by rw [uB4]; omega))
   have hl:=hbb.1
   rw [show (G2.A n1).2 + (o - (G2.A n1).2)=o by omega,← hb] at hl
   unfold Gh.S at hso
   rw [hso] at hl; simp at hl
  ·exact .inr hq2
 have hu1' : All2 (CRep (w'.setCells (G2.A n1).1 ((G2.A n1).2 + 0) us0) G2.S) ds2 us1:=hu1.mono fun _ _ hc=>hc.mono (fun _ _ q=>q) hSc
 have hR2:=hR1.storeAll ds2 us1 (n:=n2) (off:=0) hbn2 (by omega) hu1' (fun hb=>by rw [hnb.2] at hb; simp at hb)
 have hrun2:=uCO hR1 (n:=n2) (off:=0) (ds:=ds2) (v:=.agg us1.toArray) hbn2 (by omega) ht2 hti2 (by simpa [Value.cells] using hu1')
 refine uJ1 (w':=w'.setCells (G2.A n1).1 ((G2.A n1).2 + 0) us0) hg5 hd5 (by
  have e4' : Act.eval (((a.put (some d1) (.tuple #[.agg us0.toArray, .agg us1.toArray])).put (some d2) (.tuple #[.agg us0.toArray, .agg us1.toArray])).put (some d3) (.agg us0.toArray) |>.put (some d4) (.agg us1.toArray)) (.tmp d3)=_:=e4
  have e6' : Act.eval (((a.put (some d1) (.tuple #[.agg us0.toArray, .agg us1.toArray])).put (some d2) (.tuple #[.agg us0.toArray, .agg us1.toArray])).put (some d3) (.agg us0.toArray) |>.put (some d4) (.agg us1.toArray)) (.tmp p1)=_:=e6
  simp only [execOp,ho5]
  rw [e4',e6']
  simp only [Value.cells,Nat.add_zero] at hrun1
  simp [hrun1]) ?_
 refine uJ1 (w':=(w'.setCells (G2.A n1).1 ((G2.A n1).2 + 0) us0).setCells (G2.A n2).1 ((G2.A n2).2 + 0) us1) hg6 hd6 (by
  have e4' : Act.eval (((a.put (some d1) (.tuple #[.agg us0.toArray, .agg us1.toArray])).put (some d2) (.tuple #[.agg us0.toArray, .agg us1.toArray])).put (some d3) (.agg us0.toArray) |>.put (some d4) (.agg us1.toArray)) (.tmp d4)=_:=e5
  have e6' : Act.eval (((a.put (some d1) (.tuple #[.agg us0.toArray, .agg us1.toArray])).put (some d2) (.tuple #[.agg us0.toArray, .agg us1.toArray])).put (some d3) (.agg us0.toArray) |>.put (some d4) (.agg us1.toArray)) (.tmp p2)=_:=e7
  simp only [execOp,ho6]
  rw [e4',e6']
  simp only [Value.cells,Nat.add_zero] at hrun2
  simp [hrun2]) ?_
 generalize hwf : (w'.setCells (G2.A n1).1 ((G2.A n1).2 + 0) us0).setCells (G2.A n2).1 ((G2.A n2).2 + 0) us1=wf at hR2 ⊢
 have hcf : ∀ (b o : Nat),G2.S b o→wf.cell? ⟨b,o,none⟩=w'.cell? ⟨b,o,none⟩:=fun b o hso=>by
  rw [← hwf,← hSc b o hso]
  refine World.cell?_setCells_out _ _ _ _ _ (fun hb _=>?_)
  dsimp only at hb ⊢
  rcases Nat.lt_or_ge o ((G2.A n2).2 + 0) with hq | hq
  ·exact .inl hq
  rcases Nat.lt_or_ge o ((G2.A n2).2 + 0 + us1.length) with hq2 | hq2
  ·exfalso
   have hbb:=hR1.bx n2 _ hbn2 (o - (G2.A n2).2) _ (List.getElem?_eq_getElem (by omega))
   have hl:=hbb.1
   rw [show (G2.A n2).2 + (o - (G2.A n2).2)=o by omega,← hb] at hl
   unfold Gh.S at hso
   rw [hso] at hl; simp at hl
  ·exact .inr hq2
 have r0 : All2 (CRep wf G2.S) ds1 us0:=hu0.mono fun _ _ hc=>hc.mono (fun _ _ q=>q) hcf
 have r1 : All2 (CRep wf G2.S) ds2 us1:=hu1.mono fun _ _ hc=>hc.mono (fun _ _ q=>q) hcf
 have hR3 : Rel E G2 ((st.store n1 ds1 0 ds1.length).store n2 ds2 0 ds2.length) a wf:=by
  refine hR2.sub ⟨fun k e hk=>?_,fun m ds hm=>?_,fun p s hp=>?_, .inr ?_⟩
  ·exact hk
  ·rw [St.store_box] at hm ⊢
   split
   ·rename_i he; rw [if_pos he] at hm
    rw [uDo hl2]; exact hm
   ·rename_i he; rw [if_neg he] at hm
    rw [St.store_box] at hm ⊢
    split
    ·rename_i he2; rw [if_pos he2] at hm
     rw [uDo rfl,uDo hl1]; exact hm
    ·rename_i he2; rw [if_neg he2] at hm
     rw [St.stores,St.stores,St.store_box,if_neg he2]; exact hm
  ·rw [St.store_own] at hp ⊢
   split at hp
   ·simp at hp
   ·rename_i c1
    rw [if_neg c1]
    rw [St.store_own] at hp ⊢
    split at hp
    ·simp at hp
    ·rename_i c2
     rw [if_neg c2,St.stores,St.stores,St.store_own,if_neg]
     ·exact hp
     ·rw [← hl1]; exact c2
  ·rfl
 have hR4:=hR3.addOwns (l:=osPl [⟨n1,0,cs,cs⟩] os) (by
  intro x hx
  obtain ⟨e,he,hex⟩:=List.mem_filterMap.1 hx
  obtain ⟨q,hq,hlt,hqo⟩:=hos e he
  rw [hq] at hex
  simp only [Option.map_some,Option.some.injEq] at hex
  subst hex
  obtain ⟨u,⟨us,ws,hu,hus,hws⟩,huo⟩:=h7 e he
  simp only [Value.tuple.injEq] at hu
  subst hu
  have hws0 : ws=us0.toArray:=by simpa using hus.symm
  subst hws0
  have hqn : q=⟨n1,0,cs,cs⟩:=by
   have := List.mem_of_getElem? hq
   simpa using this
  subst hqn
  have hbl : e.2.1 < us0.length:=by
   have hlt' : e.2.1 < cs.length:=hlt
   omega
  have hw1 : us0[e.2.1]? = some u:=by simpa using hws
  refine ⟨u,⟨?_,?_⟩,?_⟩
  ·show wf.cell? ⟨(G2.A n1).1,(G2.A n1).2 + (0 + e.2.1),none⟩=some u
   obtain ⟨c,hc⟩ : ∃ c,ds1[e.2.1]? = some c:=⟨_,List.getElem?_eq_getElem (by omega)⟩
   have hbox1:=hR3.bx n1 ds1 (by rw [St.store_box,if_neg (fun q=>hn12 q.symm),St.store_box,if_pos rfl])
   have hsome : ∀ j,j < us0.length→(w'.cell? ⟨(G2.A n1).1,(G2.A n1).2 + 0 + j,none⟩).isSome=true:=fun j hj=>by
    obtain ⟨_,_,y,hy,_⟩:=hrel.bx n1 _ hbn j _ (List.getElem?_eq_getElem (by rw [uB4]; omega))
    rw [Nat.add_zero,hy]; rfl
   have hin:=World.cell?_setCells_in (G2.A n1).1 us0 ((G2.A n1).2 + 0) w' hsome e.2.1 hbl
   rw [← hwf,World.cell?_setCells_out]
   ·rw [Nat.zero_add]
    rw [Nat.add_zero] at hin ⊢
    rw [hin,← hw1,List.getElem?_eq_getElem hbl]
   ·intro hb _
    dsimp only at hb ⊢
    rcases Nat.lt_or_ge ((G2.A n1).2 + (0 + e.2.1)) ((G2.A n2).2 + 0) with hq | hq
    ·exact .inl hq
    rcases Nat.lt_or_ge ((G2.A n1).2 + (0 + e.2.1)) ((G2.A n2).2 + 0 + us1.length) with hq2 | hq2
    ·exfalso
     have t1:=(hR1.bx n2 _ hbn2 ((G2.A n1).2 + (0 + e.2.1) - (G2.A n2).2) _ (List.getElem?_eq_getElem (by omega))).1
     have t2:=(hrel.bx n1 _ hbn e.2.1 _ (List.getElem?_eq_getElem (by rw [uB4]; exact hlt))).1
     rw [show (G2.A n2).2 + ((G2.A n1).2 + (0 + e.2.1) - (G2.A n2).2)=(G2.A n1).2 + e.2.1 by omega,← hb,t2] at t1
     simp only [Who.box.injEq] at t1
     exact hn12 t1
    ·exact .inr hq2
  ·show G2.W (G2.A n1).1 ((G2.A n1).2 + (0 + e.2.1)) = .box n1
   have := (hrel.bx n1 _ hbn e.2.1 _ (List.getElem?_eq_getElem (by rw [uB4]; exact hlt))).1
   rw [Nat.zero_add]; exact this
  ·rw [← hwf]
   exact ((hown _ u e _ hq hnb.1 huo).setCells _ _ _).setCells _ _ _)
 have hR5:=hR4.put (d:=d1) (by rw [hE.nt]; exact l1) (g:=true) (x:=.tup [.agg ds1, .agg ds2]) (v:=.tuple #[.agg us0.toArray, .agg us1.toArray]) (fun _=>⟨[_,_],rfl,⟨_,rfl,r0⟩,⟨_,rfl,r1⟩,trivial⟩) (fun hf=>by simp at hf)
 have hR6:=hR5.put (d:=d2) (by rw [hE.nt]; exact l2) (g:=true) (x:=.tup [.agg ds1, .agg ds2]) (v:=.tuple #[.agg us0.toArray, .agg us1.toArray]) (fun _=>⟨[_,_],rfl,⟨_,rfl,r0⟩,⟨_,rfl,r1⟩,trivial⟩) (fun hf=>by simp at hf)
 have hR7:=hR6.put (d:=d3) (by rw [hE.nt]; exact l3) (g:=true) (x:=.v (.agg ds1)) (v:=.agg us0.toArray) (fun _=>⟨_,rfl,r0⟩) (fun hf=>by simp at hf)
 have hR8:=hR7.put (d:=d4) (by rw [hE.nt]; exact l4) (g:=true) (x:=.v (.agg ds2)) (v:=.agg us1.toArray) (fun _=>⟨_,rfl,r1⟩) (fun hf=>by simp at hf)
 exact h E G2 _ wf hR8 hE K' hK
end Go.Abs
namespace Go.Abs
variable {Z : Pg}
theorem uHp {f : FuncId} {l : List UInt8} {rest : List X} {bs bs' : List (List C)} {res : X} {ro : Option Nat} (hen : Enters Z f) (h : l.length≤9223372036854775807→Ctr Z f (.v (.c (.s l)) :: rest) bs res ro bs') : Ctr Z f (.v (.c (.s l)) :: rest) bs res ro bs':=by
 refine ⟨hen,fun w G vs hvs=>?_⟩
 match vs,hvs with
 | v :: vs,hvs =>
  have h1 : CRep w G.S (.s l) v:=hvs.1
  exact (h h1.strMax).2 w G (v :: vs) hvs
theorem uG4 {f : FuncId} {args : List X} {bs bs' : List (List C)} {res : X} {ro : Option Nat} (h : Ctr Z f args bs res ro bs') : Enters Z f:=h.1
end Go.Abs
namespace Go.Proofs.YtnjjdbapadkomaaGreatDoor
open Go Go.Abs
def tab : List (Option TyI):=[none,
 none,
 some { n:=1,agg:=false,offs:=[],el:=none,z:=[.i .i64 0] },
 some { n:=1,agg:=false,offs:=[],el:=none,z:=[.i .i64 0] },
 some { n:=1,agg:=false,offs:=[],el:=none,z:=[.b false] },
 some { n:=1,agg:=false,offs:=[],el:=none,z:=[.i .u8 0] },
 some { n:=1,agg:=false,offs:=[],el:=none,z:=[.i .u8 0] },
 some { n:=4,agg:=true,offs:=[0,1,2,3],el:=none,z:=[.i .i64 0, .i .i64 0, .b false, .i .u8 0] },
 some { n:=4,agg:=true,offs:=[0,1,2,3],el:=none,z:=[.i .i64 0, .i .i64 0, .b false, .i .u8 0] },
 some { n:=1,agg:=false,offs:=[],el:=none,z:=[.s []] },
 some { n:=1,agg:=false,offs:=[],el:=none,z:=[.s []] },
 some { n:=1,agg:=false,offs:=[],el:=none,z:=[.s []] },
 some { n:=1,agg:=false,offs:=[],el:=none,z:=[.i .u64 0] },
 some { n:=2,agg:=true,offs:=[0,1],el:=none,z:=[.s [], .i .u64 0] },
 some { n:=2,agg:=true,offs:=[0,1],el:=none,z:=[.s [], .i .u64 0] },
 some { n:=1,agg:=false,offs:=[],el:=none,z:=[.o (.pointer none)] },
 some { n:=1,agg:=false,offs:=[],el:=none,z:=[.o (.pointer none)] },
 some { n:=1,agg:=false,offs:=[],el:=none,z:=[.o (.pointer none)] },
 some { n:=1,agg:=true,offs:=[0],el:=none,z:=[.o (.pointer none)] },
 some { n:=1,agg:=true,offs:=[0],el:=none,z:=[.o (.pointer none)] },
 none,
 some { n:=1,agg:=false,offs:=[],el:=none,z:=[.i .i32 0] },
 some { n:=1,agg:=false,offs:=[],el:=some (9,1,16),z:=[.sl 1 []] },
 some { n:=1,agg:=false,offs:=[],el:=some (73,3,40),z:=[.sl 3 []] },
 some { n:=1,agg:=false,offs:=[],el:=some (67,7,96),z:=[.sl 7 []] },
 some { n:=1,agg:=false,offs:=[],el:=some (70,5,72),z:=[.sl 5 []] },
 some { n:=6,agg:=true,offs:=[0,1,2,3,4,5],el:=none,z:=[.s [], .sl 1 [], .sl 3 [], .sl 1 [], .sl 7 [], .sl 5 []] },
 some { n:=6,agg:=true,offs:=[0,1,2,3,4,5],el:=none,z:=[.s [], .sl 1 [], .sl 3 [], .sl 1 [], .sl 7 [], .sl 5 []] },
 none,
 none,
 some { n:=1,agg:=false,offs:=[],el:=none,z:=[.i .i64 0] },
 none,
 none,
 none,
 none,
 none,
 none,
 some { n:=1,agg:=false,offs:=[],el:=some (39,4,56),z:=[.sl 4 []] },
 some { n:=4,agg:=true,offs:=[0,1,2,3],el:=none,z:=[.i .i64 0, .s [], .i .i64 0, .sl 4 []] },
 some { n:=4,agg:=true,offs:=[0,1,2,3],el:=none,z:=[.i .i64 0, .s [], .i .i64 0, .sl 4 []] },
 none,
 none,
 none,
 none,
 none,
 some { n:=1,agg:=false,offs:=[],el:=some (5,1,1),z:=[.sl 1 []] },
 some { n:=1,agg:=false,offs:=[],el:=some (50,5,56),z:=[.sl 5 []] },
 none,
 none,
 some { n:=5,agg:=true,offs:=[0,1,2,3,4],el:=none,z:=[.i .i64 0, .s [], .i .i64 0, .s [], .i .i64 0] },
 some { n:=5,agg:=true,offs:=[0,1,2,3,4],el:=none,z:=[.i .i64 0, .s [], .i .i64 0, .s [], .i .i64 0] },
 none,
 none,
 none,
 none,
 none,
 none,
 some { n:=1,agg:=false,offs:=[],el:=some (3,1,8),z:=[.sl 1 []] },
 none,
 none,
 none,
 none,
 none,
 none,
 none,
 none,
 some { n:=7,agg:=true,offs:=[0,1,2,6],el:=none,z:=[.s [], .s [], .i .i64 0, .s [], .i .i64 0, .sl 4 [], .i .i64 0] },
 some { n:=7,agg:=true,offs:=[0,1,2,6],el:=none,z:=[.s [], .s [], .i .i64 0, .s [], .i .i64 0, .sl 4 [], .i .i64 0] },
 none,
 some { n:=5,agg:=true,offs:=[0,1,2,3,4],el:=none,z:=[.i .i64 0, .s [], .s [], .sl 4 [], .i .i64 0] },
 some { n:=5,agg:=true,offs:=[0,1,2,3,4],el:=none,z:=[.i .i64 0, .s [], .s [], .sl 4 [], .i .i64 0] },
 none,
 some { n:=3,agg:=true,offs:=[0,1,2],el:=none,z:=[.s [], .s [], .i .i64 0] },
 some { n:=3,agg:=true,offs:=[0,1,2],el:=none,z:=[.s [], .s [], .i .i64 0] },
 none,
 some { n:=1,agg:=false,offs:=[],el:=none,z:=[.o (.pointer none)] },
 none,
 none,
 none,
 none,
 none,
 none,
 none,
 none,
 some { n:=1,agg:=false,offs:=[],el:=none,z:=[.o (.pointer none)] },
 some { n:=3,agg:=true,offs:=[0,1,2],el:=none,z:=[.sl 5 [], .i .i64 0, .b false] },
 some { n:=3,agg:=true,offs:=[0,1,2],el:=none,z:=[.sl 5 [], .i .i64 0, .b false] },
 none,
 none,
 none,
 some { n:=1,agg:=false,offs:=[],el:=none,z:=[.o (.pointer none)] },
 none,
 none,
 none,
 none,
 some { n:=3,agg:=true,offs:=[0,1,2],el:=none,z:=[.sl 5 [], .i .i64 0, .b false] },
 some { n:=3,agg:=true,offs:=[0,1,2],el:=none,z:=[.sl 5 [], .i .i64 0, .b false] },
 none,
 none,
 none,
 none,
 none,
 none,
 none,
 none,
 none,
 none,
 none,
 none,
 none,
 none,
 none,
 none,
 none,
 none,
 none,
 none,
 none,
 none,
 some { n:=1,agg:=false,offs:=[],el:=none,z:=[.o (.pointer none)] },
 some { n:=2,agg:=true,offs:=[0,1],el:=none,z:=[.o (.pointer none), .sl 1 []] },
 some { n:=2,agg:=true,offs:=[0,1],el:=none,z:=[.o (.pointer none), .sl 1 []] },
 none,
 none,
 none,
 none,
 none,
 none,
 none,
 none,
 none,
 none,
 none,
 none,
 none,
 none,
 none,
 none,
 none,
 none,
 none,
 none,
 none,
 none,
 none,
 none,
 none,
 none,
 none,
 none,
 some { n:=1,agg:=false,offs:=[],el:=none,z:=[.o (.pointer none)] },
 none,
 none,
 none,
 none,
 none,
 none,
 none,
 none,
 none,
 none,
 none,
 some { n:=1,agg:=false,offs:=[],el:=none,z:=[.o (.pointer none)] },
 none,
 none,
 none,
 none,
 none,
 some { n:=1,agg:=false,offs:=[],el:=none,z:=[.o (.pointer none)] },
 none,
 none,
 none,
 none,
 none,
 none,
 none,
 none,
 none,
 none,
 none,
 none,
 none,
 none,
 none,
 none,
 some { n:=1,agg:=false,offs:=[],el:=none,z:=[.i .u64 0] },
 none,
 some { n:=2,agg:=true,offs:=[0,1],el:=none,z:=[.i .u8 0, .i .u8 0] },
 some { n:=2,agg:=true,offs:=[0,1],el:=none,z:=[.i .u8 0, .i .u8 0] },
 none,
 none,
 some { n:=1,agg:=false,offs:=[],el:=none,z:=[.i .u32 0] },
 none,
 none,
 some { n:=4,agg:=true,offs:=[0,1,2,3],el:=none,z:=[.o (.pointer none), .o (.pointer none), .o (.pointer none), .s []] },
 some { n:=4,agg:=true,offs:=[0,1,2,3],el:=none,z:=[.o (.pointer none), .o (.pointer none), .o (.pointer none), .s []] },
 none,
 none,
 none,
 some { n:=1,agg:=false,offs:=[],el:=none,z:=[.i .u8 0] },
 some { n:=1,agg:=false,offs:=[],el:=none,z:=[.i .u8 0] },
 none,
 some { n:=1,agg:=false,offs:=[],el:=none,z:=[.i .i32 0] },
 some { n:=1,agg:=false,offs:=[],el:=none,z:=[.i .i32 0] },
 some { n:=11,agg:=true,offs:=[0,1,2,3,4,5,6,7,8,9,10],el:=none,z:=[.i .u64 0, .i .u64 0, .i .u32 0, .i .u8 0, .i .u8 0, .i .u8 0, .i .u8 0, .o .nilFunc, .o (.pointer none), .i .i32 0, .i .i32 0] },
 some { n:=11,agg:=true,offs:=[0,1,2,3,4,5,6,7,8,9,10],el:=none,z:=[.i .u64 0, .i .u64 0, .i .u32 0, .i .u8 0, .i .u8 0, .i .u8 0, .i .u8 0, .o .nilFunc, .o (.pointer none), .i .i32 0, .i .i32 0] }]
theorem uNI : uEg Tryz.prog 0 tab=true:=by kernel_rfl
theorem uNc : Tryz.prog.follows .mixedOrders=true:=by kernel_rfl
noncomputable def sys : Pg:={ P:=Tryz.prog,T:=tab,ok:=uNI,mix:=uNc,gv:=[(0,intAt)] }
theorem nn : (∀ a b : Bool,((a && b)=true)=(a=true∧b=true))∧(∀ a b : Bool,((a || b)=true)=(a=true∨b=true))∧(∀ b : Bool,((!b)=true)=(b=false))∧(∀ b : Bool,((!b)=false)=(b=true)) ∧
  (∀ x y : Bool,(x || y)=false ↔ x=false∧y=false)∧(∀ x y : Bool,(x && y)=false ↔ x=false∨y=false)∧(∀ (p : Prop) [Decidable p],(decide p=true)=p)∧(∀ (p : Prop) (x : Decidable p),decide p=false ↔ ¬p) ∧
  (∀ (α : Type) [BEq α] [LawfulBEq α] (a b : α),(a == b)=true ↔ a=b)∧(∀ (α : Type) [BEq α] [LawfulBEq α] (a b : α),(a == b)=false ↔ a≠b)∧(∀ (α : Type) [BEq α] [LawfulBEq α] (a b : α),(a != b)=true ↔ a≠b) ∧
  (∀ (α : Type) [BEq α] [LawfulBEq α] (a b : α),(a != b)=false ↔ a=b)∧(∀ (α : Type) (a b : α),(a≠b) = ¬a=b)∧(∀ (p : Prop) [Decidable p],¬¬p ↔ p)∧((!true)=false)∧(!false)=true :=
 ⟨Bool.and_eq_true,Bool.or_eq_true,Bool.not_eq_true',Bool.not_eq_false',fun _ _=>Bool.or_eq_false_iff,fun _ _=>Bool.and_eq_false_iff,fun _ _=>decide_eq_true_eq,fun _ _=>decide_eq_false_iff_not,fun _ _ _ _ _=>beq_iff_eq,fun _ _ _ _ _=>beq_eq_false_iff_ne,
  fun _ _ _ _ _=>bne_iff_ne,fun _ _ _ _ _=>bne_eq_false_iff_eq,fun _ a b=>ne_eq a b,fun _ _=>Decidable.not_not,rfl,rfl⟩
abbrev xi (n : Int) : X:=.v (.c (.i .i64 n))
abbrev xb (b : Bool) : X:=.v (.c (.b b))
abbrev xs (l : List UInt8) : X:=.v (.c (.s l))
theorem uBj {a b : Int} (h : a=b) : xi a=xi b:=by rw [h]
theorem tx {x y : X} (h : x=y) : (true,x)=(true,y):=by rw [h]
theorem uCG {a b : Bool} (h : a=b) : xb a=xb b:=by rw [h]
end Go.Proofs.YtnjjdbapadkomaaGreatDoor
