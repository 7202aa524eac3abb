/- Our abstract program logic and contracts of this seat's functions, part 6: no statement of its own (long names of ours are shortened by a program). -/
import Derived.Test.YteidahabkfgfjaaGreatM5
import Derived.KernelRfl
import Derived.SizedLaws
import Derived.Test.YteidahabkfgfjaaGreatChecked
import Derived.Handed
import Derived.Test.YteidahabkfgfjaaGreatRows
import Derived.Deep.DeepHandedRow
import Derived.Stop.Joined
set_option linter.unusedVariables false
set_option linter.unusedSimpArgs false
namespace Go.Abs
variable {Z : Pg}
theorem CtrE.ofN {f : FuncId} {args : List X} {L : Nat} {cs : List C} (h : CtrN Z f args L cs) (hL : 0 < L) (m : Nat) : CtrE Z f args [] (fun u : Value=>.kn true [.o u] [(0, .l m,L)]) [] [(m,cs)]:=by
 obtain ⟨h1,h2⟩:=h
 refine ⟨h1,fun w G vs hvs hwf _ hbox hown _ hgl=>?_⟩
 have hnb : ∀ b o n,G.W b o ≠ .box n:=fun b o n hn=>by obtain ⟨j,cs,k,_,hj,_⟩:=hbox b o n hn; simp at hj
 refine (h2 w G vs hvs hwf hnb hown hgl).mono ?_
 rintro e w' ⟨v,G',b,o0,cap,rfl,hfr,i1,i2,i3,hv,hcap,hb1,hb2,hcells⟩
 let G2 : Gh:={ A:=fun n=>if n = .l m then (b,o0) else G.A n,W:=fun b' o'=>if b'=b∧o0≤o'∧o' < o0 + cs.length then .box (.l m) else match G'.W b' o' with | .imm=>.imm | _=>.none }
 have hin : ∀ b' o',b'=b∧o0≤o'∧o' < o0 + cs.length→G'.W b' o' ≠ .imm:=fun b' o' q=>by
  obtain ⟨q1,q2,q3⟩:=q
  subst q1
  obtain ⟨k,rfl⟩ : ∃ k,o'=o0 + k:=⟨o' - o0,by omega⟩
  exact (hcells k _ (List.getElem?_eq_getElem (by omega))).1
 have hS : ∀ b' o',G'.S b' o'→G2.S b' o':=fun b' o' hs=>by
  unfold Gh.S at *
  simp only [G2]
  rw[if_neg (fun q=>hin b' o' q hs),hs]
 have hI : ∀ b' o',G2.W b' o' = .imm→G'.W b' o' = .imm:=fun b' o' hi=>by
  simp only [G2] at hi
  split at hi
  ·cases hi
  ·split at hi
   ·assumption
   ·cases hi
 have hA : G2.A (.l m)=(b,o0):=by simp only [G2]; rw[if_pos O]
 refine ⟨v,G2,v,rfl,hfr.mono (Nat.le_refl _) fun _ _ _ q=>q.elim,fun b' o' hi=>hS b' o' (i1 b' o' hi),fun b' o' hb hi=>i2 b' o' hb (hI b' o' hi),fun b' o' hn=>?_,?_,fun j=>?_,fun j ds hj=>by simp at hj,fun e he=>?_,fun b' o' k hk=>?_,fun b' o' p hp=>?_⟩
 ·simp only [G2] at hn
  split at hn
  ·rename_i q; rw[q.1]; exact hb2
  ·refine i3 b' o' fun q=>?_
   rw[q] at hn; exact hn J
 ·refine ⟨[v],fun _=>rfl,(fun q=>by cases q),⟨.o v (by rw[hv]; rfl),O⟩,fun x hx=>?_⟩
  rw[List.mem_singleton.1 hx]
  refine ⟨v,rfl, .inr ⟨hL,cap,hcap,?_⟩⟩
  show v = .slice (some ⟨(G2.A (.l m)).1,(G2.A (.l m)).2,none⟩) L cap
  rw[hA]; exact hv
 ·simp only [G2]; rw[if_neg (by simp)]
 ·rw[List.mem_singleton.1 he]
  intro k c hk
  obtain ⟨q1,q2,u,q3,q4⟩:=hcells k c hk
  have hkl : k < cs.length:=(List.getElem?_eq_some_iff.1 hk).1
  show G2.W (G2.A (.l m)).1 ((G2.A (.l m)).2 + k)=_∧w'.frozen? ⟨(G2.A (.l m)).1,(G2.A (.l m)).2 + k,none⟩=false ∧ ∃ u,w'.cell? ⟨(G2.A (.l m)).1,(G2.A (.l m)).2 + k,none⟩=some u∧_
  rw[hA]
  refine ⟨?_,q2,u,q3,q4.mono hS fun _ _ _=>rfl⟩
  simp only [G2]
  rw[if_pos ⟨O,by omega,by omega⟩]
 ·simp only [G2] at hk
  split at hk
  ·rename_i q; rw[q.1]; exact hb1
  ·split at hk <;> cases hk
 ·simp only [G2] at hp
  split at hp
  ·cases hp
  ·split at hp <;> cases hp
theorem CtrE.ofNil {f : FuncId} {args : List X} {sz : Nat} {ro : Option Nat} (h : Ctr Z f args [] (.v (.c (.sl sz []))) ro []) (m : Nat) : CtrE Z f args [] (fun u : Value=>.kn true [.o u] [(0, .l m,0)]) [] [(m,[])]:=by
 obtain ⟨h1,h2⟩:=h
 refine ⟨h1,fun w G vs hvs hwf hbx hbox hown _ hgl=>?_⟩;refine (h2 w G vs hvs hwf hbx hbox hown hgl).mono ?_
 rintro e w' ⟨v,G',rfl,hfr,i1,i2,i3,i4,i5,_⟩
 let G2 : Gh:={ A:=G'.A,W:=fun b' o'=>match G'.W b' o' with | .imm=>.imm | _=>.none }
 have hS : ∀ b' o',G'.S b' o'→G2.S b' o':=fun b' o' hs=>by
  unfold Gh.S at *
  simp only [G2]; rw[hs]
 have hI : ∀ b' o',G2.W b' o' = .imm∨G2.W b' o' = .none:=fun b' o'=>by
  simp only [G2]
  split
  ·exact .inl J
  ·exact .inr J
 have hI2 : ∀ b' o',G2.W b' o' = .imm→G'.W b' o' = .imm:=fun b' o' hi=>by
  simp only [G2] at hi
  split at hi
  ·assumption
  ·cases hi
 refine ⟨v,G2,v,rfl,hfr,fun b' o' hi=>hS b' o' (i1 b' o' hi),fun b' o' hb hi=>i2 b' o' hb (hI2 b' o' hi),fun b' o' hn=>?_,?_,i5,fun j ds hj=>by simp at hj,fun e he=>?_,fun b' o' k hk=>?_,fun b' o' p hp=>?_⟩
 ·rcases hI b' o' with q | q
  ·exact i3 b' o' (by rw[hI2 b' o' q]; simp)
  ·exact absurd q hn
 ·have hr : CRep w' G'.S (.sl sz []) v:=i4
  refine ⟨[v],fun _=>rfl,(fun q=>by cases q),⟨.o v hr.one,O⟩,fun x hx=>?_⟩
  rw[List.mem_singleton.1 hx]
  refine ⟨v,rfl, .inl ⟨rfl,?_⟩⟩
  cases hr with
  | emp=>exact .inl ⟨_,rfl⟩
  | sl _ _ blk off len cap vals hl=>simp at hl; subst hl; exact .inr ⟨_,_,_,rfl⟩
 ·rw[List.mem_singleton.1 he]
  intro k c hk; simp at hk
 ·rcases hI b' o' with q | q <;> rw[q] at hk <;> cases hk
 ·rcases hI b' o' with q | q <;> rw[q] at hp <;> cases hp
theorem uCG {w : World} {G : Gh} {one : Bool} {cs : List C} {ms : List (Nat × Nm × Nat)} {v u : Value} {i j L : Nat} {n : Nm} (h : XRep w G (.kn one cs ms) v) (hi : cs[i]? = some (.o u)) (hm : ms[j]? = some (i,n,L)) : SlAt (G.A n) L u:=by
 obtain ⟨vs,_,_,h3,h4⟩:=h
 obtain ⟨u',h5,h6⟩:=h4 _ (List.mem_of_getElem? hm)
 obtain ⟨u2,h7,h8⟩:=h3.get i _ hi
 rw[h7] at h5
 have e : u2=u:=by cases h8; rfl
 subst e
 simp only [Option.some.injEq] at h5
 subst h5
 exact h6
theorem Mx {E : Env} {G : Gh} {st : St} {a : Act} {w : World} (hr : Rel E G st a w) {k i j L : Nat} {one : Bool} {cs : List C} {ms : List (Nat × Nm × Nat)} {u : Value} {n : Nm} (hk : st.get k=some (true, .kn one cs ms)) (hi : cs[i]? = some (.o u)) (hm : ms[j]? = some (i,n,L)) : SlAt (G.A n) L u:=by
 obtain ⟨v,_,h1,_⟩:=hr.tm k true _ hk
 exact uCG (h1 J) hi hm
theorem uAE {w : World} {G : Gh} {one : Bool} {cs : List C} {ms : List (Nat × Nm × Nat)} {v : Value} (h : XRep w G (.kn one cs ms) v) : All2 (CRep w G.S) cs v.cells.toList:=by
 obtain ⟨vs,h1,h2,h3,_⟩:=h
 cases one with
 | false =>
  rw[h2 J]
  simpa [Value.cells] using h3
 | true =>
  rw[h1 J] at h3
  match cs,h3 with
  | [c],⟨q,_⟩ =>
   rw[Cj (CRep.one q)]
   exact ⟨q,O⟩
section
variable {st : St} {ty : TypeId} {gate : Bool}
theorem S7 (k i j : Nat) {x : Operand} {t : TypeId} {g one : Bool} {n : Nm} {L : Nat} {u : Value} {cs : List C} {ms : List (Nat × Nm × Nat)} {ti : TyI} {el : Nat × Nat × Nat} (h : lk Z.T st ty x=some (g, .v (.c (.o u)))) (hg : gate=true→g=true)
  (hk : st.get k=some (true, .kn one cs ms)) (hi : cs[i]? = some (.o u)) (hm : ms[j]? = some (i,n,L)) (ht : tyAt Z.T t=some ti) (hel : ti.el=some el) : PureOk Z st (.call { callee:=.builtin .len,args:=#[x],argTypes:=#[t] }) ty gate (.v (.c (.i .i64 (L : Int)))):=by
 intro o E G a w ho _ hr hgt
 obtain ⟨e,s,by'⟩:=el
 have hu:=((Z.tyOk ht).sl e s by' hel).1
 have hx : CRep w G.S (.o u) (a.eval x):=F0 hr h (hg hgt)
 have hev : a.eval x=u:=by generalize a.eval x=v at hx; cases hx; rfl
 refine ⟨.int .i64 L,CRep.i _ _,?_⟩
 rcases Mx hr hk hi hm with ⟨rfl,⟨a0,h2⟩ | ⟨b,o0,c,h2⟩⟩ | ⟨_,cap,_,h2⟩
 ·rw[h2] at hev; simp [execOp,ho,hev,Go.resolve,invoke,builtin,Builtin.len_,underlying,hu,goInt]
 ·rw[h2] at hev; simp [execOp,ho,hev,Go.resolve,invoke,builtin,Builtin.len_,underlying,hu,goInt]
 ·rw[h2] at hev; simp [execOp,ho,hev,Go.resolve,invoke,builtin,Builtin.len_,underlying,hu,goInt]
theorem M6 (k i j sz : Nat) {t : TypeId} {x : Operand} {g one : Bool} {n m : Nm} {off L : Nat} {ti : TyI} {ds cs : List C} {ms : List (Nat × Nm × Nat)} {u : Value} (h : lk Z.T st ty x=some (g, .v (.ptr n off))) (hg : gate=true→g=true)
  (ht : tyAt Z.T t=some ti) (hagg : ti.agg=false) (hb : st.box n=some ds) (hc : ds[off]? = some (.o u)) (hk : st.get k=some (true, .kn one cs ms)) (hi : cs[i]? = some (.o u)) (hm : ms[j]? = some (i,m,L)) (hL : 0 < L) : PureOk Z st (.load t x) ty gate (.v (.ms m sz 0 L)):=by
 intro o E G a w ho hn hr hgt
 obtain ⟨v,hv,hrun⟩:=B2 h hg ht hagg hb hc o E G a w ho hn hr hgt
 refine ⟨v,?_,hrun⟩
 have e : v=u:=by cases hv; rfl
 subst e
 rcases Mx hr hk hi hm with ⟨h0,_⟩ | ⟨_,cap,h3,h4⟩
 ·omega
 ·exact .inr ⟨cap,h3,h4⟩
theorem P6 (k : Nat) {t : TypeId} {x : Operand} {g : Bool} {n : Nm} {off : Nat} {ti : TyI} {ds : List C} {f : FuncId} {caps : List Y} {u : Value} (h : lk Z.T st ty x=some (g, .v (.ptr n off))) (hg : gate=true→g=true)
  (ht : tyAt Z.T t=some ti) (hagg : ti.agg=false) (hb : st.box n=some ds) (hc : ds[off]? = some (.o u)) (hk : st.get k=some (true, .fnv f caps u)) : PureOk Z st (.load t x) ty gate (.fn f caps):=by
 intro o E G a w ho hn hr hgt
 obtain ⟨v,hv,hrun⟩:=B2 h hg ht hagg hb hc o E G a w ho hn hr hgt
 refine ⟨v,?_,hrun⟩
 have e : v=u:=by cases hv; rfl
 subst e
 obtain ⟨v',_,h1,_⟩:=hr.tm k true _ hk
 obtain ⟨e1,h2⟩:=h1 rfl
 rw[e1] at h2
 exact h2
theorem Q8 {N : Nat} {t : TypeId} {x v : Operand} {n : Nm} {off : Nat} {one : Bool} {ms : List (Nat × Nm × Nat)} {cs ds : List C} {ti : TyI} (hx : lk Z.T st t x=some (true, .v (.ptr n off))) (hv : lk Z.T st t v=some (true, .kn one ds ms))
  (hb : st.box n=some cs) (ht : tyAt Z.T t=some ti) (hn : ds.length=ti.n) (hl : Nat.ble (off + ds.length) cs.length=true) (hnb : (!n.isBd || !Nat.beq off 0)=true:=by rfl) :
  Does Z N st none (.store t x v) ty (st.store n (H3 cs off ds) off ds.length):=by
 intro o E G a w hd ho _ hr hE K Q hK
 have h1 : a.eval x=_:=F0 hr hx J
 have h2:=uAE (F0 hr hv J)
 have hl':=Nat.le_of_ble_eq_true hl
 have hrun:=O6 hr hb hl' ht hn h2
 unfold Oper.wp
 have : (execOp a.eval o).run Z.P w = .ok .skip (w.setCells (G.A n).1 ((G.A n).2 + off) (a.eval v).cells.toList):=by
  simp [execOp,ho,h1,hrun]
 rw[this,Oper.upon_skip,hd]
 exact hK G undef _ (hr.storeAll ds _ hb hl' h2 (nbOf hnb))
theorem Rf {N : Nat} {t : TypeId} {x v : Operand} {n : Nm} {off : Nat} {f : FuncId} {caps : List Y} {u : Value} {cs : List C} {ti : TyI} (hx : lk Z.T st t x=some (true, .v (.ptr n off))) (hv : lk Z.T st t v=some (true, .fnv f caps u))
  (hb : st.box n=some cs) (ht : tyAt Z.T t=some ti) (hn : ti.n=1) (hl : Nat.ble (off + 1) cs.length=true) (hnb : (!n.isBd || !Nat.beq off 0)=true:=by rfl) :
  Does Z N st none (.store t x v) ty (st.store n (H3 cs off [.o u]) off 1):=by
 intro o E G a w hd ho _ hr hE K Q hK
 have h1 : a.eval x=_:=F0 hr hx J
 obtain ⟨e1,vs,e2,_⟩:=F0 hr hv rfl
 have h2 : All2 (CRep w G.S) [.o u] (a.eval v).cells.toList:=by
  rw[← e1,e2]
  exact ⟨.o _ J,O⟩
 have hl':=Nat.le_of_ble_eq_true hl
 have hrun:=O6 (ds:=[.o u]) hr hb hl' ht hn.symm h2
 unfold Oper.wp
 have : (execOp a.eval o).run Z.P w = .ok .skip (w.setCells (G.A n).1 ((G.A n).2 + off) (a.eval v).cells.toList):=by
  simp [execOp,ho,h1,hrun]
 rw[this,Oper.upon_skip,hd]
 exact hK G undef _ (hr.storeAll [.o u] _ hb hl' h2 (nbOf hnb))
end
theorem Rel.slot {E : Env} {G : Gh} {st : St} {a : Act} {w : World} (h : Rel E G st a w) {k : Nat} {x : X} {v : Value} (hv : a.tmps[k]? = some v) (hx : XRep w G x v) : Rel E G { st with t:=(k,true,x) :: st.t } a w:=by
 refine { df:=h.df,tm:=?_,bx:=h.bx,ow:=h.ow,wf:=h.wf,olB:=h.olB,olO:=h.olO,nt:=h.nt,oA:=h.oA,im:=h.im,im':=h.im',fr:=h.fr,hB:=h.hB,lo:=h.lo,bd:=h.bd,mp:=h.mp }
 intro j g y hj
 have hj2 : getT ((k,true,x) :: st.t) j=some (g,y):=hj
 rw[N1] at hj2
 split at hj2
 ·rename_i he; subst he
  simp only [Option.some.injEq,Prod.mk.injEq] at hj2
  obtain ⟨rfl,rfl⟩:=hj2
  exact ⟨v,hv,fun _=>hx,fun q=>by cases q⟩
 ·exact h.tm _ _ _ hj2
section
variable {N : Nat} {ops : Array Oper} {rest : List Oper} {K : St→Prop} {st : St}
theorem uAJ (k : Nat) {f : FuncId} {caps : List Y} (hk : st.get k=some (true, .fn f caps)) (h : ∀ u,AL Z N ops rest K { st with t:=(k,true, .fnv f caps u) :: st.t }) : AL Z N ops rest K st:=fun E G a w hr hE=>by
 obtain ⟨v,hv,h1,_⟩:=hr.tm k true _ hk
 exact h v E G a w (hr.slot hv ⟨rfl,h1 J⟩) hE
theorem Pd (j k i i2 sz : Nat) {one : Bool} {n : Nm} {L : Nat} {cs : List C} {ms : List (Nat × Nm × Nat)} {u : Value} (hj : st.get j=some (true, .v (.c (.o u)))) (hk : st.get k=some (true, .kn one cs ms)) (hi : cs[i]? = some (.o u)) (hm : ms[i2]? = some (i,n,L)) (hL : 0 < L)
  (h : AL Z N ops rest K (st.same j n sz 0 L)) : AL Z N ops rest K st:=fun E G a w hr hE=>by
 obtain ⟨v,hv,h1,_⟩:=hr.tm j true _ hj
 have e : v=u:=by
  have : CRep w G.S (.o u) v:=h1 J
  cases this; rfl
 subst e
 refine h E G a w (hr.slot (x:=.v (.ms n sz 0 L)) hv ?_) hE
 rcases Mx hr hk hi hm with ⟨h0,_⟩ | ⟨_,cap,h3,h4⟩
 ·omega
 ·exact .inr ⟨cap,h3,h4⟩
def KEx (fv : Value) (f : FuncId) (i j : Nat) : (Nat→Nat × Nat)→Prop:=fun A=>fv = .func (.func f) #[] #[.pointer (some ⟨(A i).1,(A i).2 + 0,none⟩), .pointer (some ⟨(A j).1,(A j).2 + 0,none⟩)]
theorem Nc (k : Nat) {f : FuncId} {i j : Nat} {fv : Value} (hex : Z.ex=KEx fv f i j) (hk : st.get k=some (true, .v (.c (.o fv)))) (h : AL Z N ops rest K { st with t:=(k,true, .fn f [.ptr (.o i) 0, .ptr (.o j) 0]) :: st.t }) : AL Z N ops rest K st:=fun E G a w hr hE=>by
 obtain ⟨v,hv,h1,_⟩:=hr.tm k true _ hk
 have e : v=fv:=by
  have : CRep w G.S (.o fv) v:=h1 J
  cases this; rfl
 subst e
 have hx:=hE.ex
 rw[hex] at hx
 refine h E G a w (hr.slot hv ⟨_,hx,?_,?_,O⟩) hE
 ·show _=_
  rw[hr.oA i]
 ·show _=_
  rw[hr.oA j]
end
theorem Cd {G : Gh} {ps : List Pass} {i : Nat} {p : Pass} (hp : ps[i]? = some p) : (G.passedO ps []).A (.o i)=((G.A p.n).1,(G.A p.n).2 + p.off):=by simp [Gh.passedO,Gh.passed,hp]
theorem Ej {N : Nat} {ps : List Pass} {fv : Value} {f : FuncId} {i j i' j' : Nat} {p q : Pass} (hex : Z.ex=KEx fv f i j) (hp : ps[i']? = some p) (hpn : p.n = .o i) (hp0 : p.off=0) (hq : ps[j']? = some q) (hqn : q.n = .o j) (hq0 : q.off=0)
  {st : St} (E : Env) (G : Gh) (a : Act) (w : World) (hr : Rel E G st a w) (hE : EOk Z N E) : KEx fv f i' j' fun j=>(G.passedO ps []).A (.o j):=by
 have hx:=hE.ex
 rw[hex] at hx
 unfold KEx at hx ⊢
 dsimp only
 rw[hx,Cd hp,Cd hq,hpn,hqn,hp0,hq0,hr.oA i,hr.oA j]
 rfl
theorem uBr {N : Nat} {ps : List Pass} {fv : Value} {f : FuncId} {i' j' k : Nat} {n1 n2 : Nm} {p q : Pass} {st : St} (hk : st.get k=some (true, .fnv f [.ptr n1 0, .ptr n2 0] fv)) (hp : ps[i']? = some p) (hpn : p.n=n1) (hp0 : p.off=0) (hq : ps[j']? = some q) (hqn : q.n=n2) (hq0 : q.off=0)
  (E : Env) (G : Gh) (a : Act) (w : World) (hr : Rel E G st a w) (hE : EOk Z N E) : KEx fv f i' j' fun j=>(G.passedO ps []).A (.o j):=by
 obtain ⟨v,_,h1,_⟩:=hr.tm k true _ hk
 obtain ⟨e,vs,h2,h3⟩:=h1 rfl
 subst e
 match vs,h3 with
 | [a1,a2],⟨q1,q2,_⟩ =>
  have q1 : a1 = .pointer (some ⟨(G.A n1).1,(G.A n1).2 + 0,none⟩):=q1
  have q2 : a2 = .pointer (some ⟨(G.A n2).1,(G.A n2).2 + 0,none⟩):=q2
  subst q1 q2
  unfold KEx
  dsimp only
  rw[h2,Cd hp,Cd hq,hpn,hqn,hp0,hq0]
  rfl
theorem Bb {N : Nat} {c : Code} {Q : Exit→St→Prop} {st : St} (k i j m : Nat) (n : Nm) (off : Nat) {sz L : Nat} {one : Bool} {u : Value} {cs ds : List C} {ms : List (Nat × Nm × Nat)} (es : List (List C)) (hk : st.get k=some (true, .kn one cs ms)) (hi : cs[i]? = some (.o u)) (hj : ms[j]? = some (i, .l m,L))
  (hb : st.box (.l m)=some es.flatten) (hL : es.length=L) (hm : L≤9223372036854775807) (hrow : ∀ (i : Nat) (row : List C),es[i]? = some row→row.length=sz) (hfo : st.freshO (.l m,false)=true) (hn : st.box n=some ds) (hnm : Nm.beq (.l m) n=false) (hc : ds[off]? = some (.o u)) (hnb : n.isBd=false)
  (h : AWP Z N c Q { st with bx:=(n,H3 ds off [.sl sz es]) :: (.l m,[]) :: st.bx }) : AWP Z N c Q st:=fun E G a w hr hE=>by
 have h0:=hr.frzB (St.freshO_ok hfo)
 have hsl:=Mx hr hk hi hj
 have hrep : CRep w (G.frz (.l m)).S (.sl sz es) u:=by
  rcases hsl with ⟨e0,⟨a0,h2⟩ | ⟨b,o0,c0,h2⟩⟩ | ⟨_,cap,h3,h4⟩
  ·rw[h2,List.eq_nil_of_length_eq_zero (hL.trans e0)]; exact .emp sz a0
  ·rw[h2,List.eq_nil_of_length_eq_zero (hL.trans e0)]
   exact CRep.mk_sl J (Nat.zero_le _) (Nat.zero_le _) fun i row hi=>by simp at hi
  ·rw[h4]; exact hr.frzC hb hL hm hrow h3
 refine h E (G.frz (.l m)) a w (h0.setBox ?_ hnb) hE
 have hbn : St.box { st with bx:=(.l m,[]) :: st.bx } n=some ds:=by
  have e : St.box { st with bx:=(.l m,[]) :: st.bx } n=if (Nm.l m)=n then some [] else st.box n:=F9 _ _ _ _
  rw[e,if_neg]
  ·exact hn
  ·intro q; rw[q,Nm.beq_self] at hnm; cases hnm
 have hold:=h0.bx n ds hbn
 have hoff : off < ds.length:=(List.getElem?_eq_some_iff.1 hc).1
 intro j c hj
 by_cases q : j=off
 ·subst q
  obtain ⟨p1,p2,v3,p3,p4⟩:=hold j _ hc
  have e3 : v3=u:=by cases p4; rfl
  subst e3
  have ec : c = .sl sz es:=by
   have : (H3 ds j [C.sl sz es])[j]? = some (.sl sz es):=by
    rw[Kh]; simp [hoff]
   rw[this] at hj; exact (Option.some.inj hj).symm
  subst ec
  exact ⟨p1,p2,v3,p3,hrep⟩
 ·have : (H3 ds off [C.sl sz es])[j]? = ds[j]? := by
   rw[Kh,List.getElem?_set,if_neg (fun e=>q e.symm)]
  rw[this] at hj
  exact hold j c hj
theorem Fx : ∀ (ps : List Pass) (st : St) (q : Pl),(∀ p ∈ ps,Pl.inCells p.n p.off p.ds.length q=false)→(st.stores ps).own q=st.own q
 | [],_,_,_=>rfl
 | p :: r,st,q,h=>by
  rw[St.stores,Fx r _ q fun x hx=>h x (by simp [hx]),St.store_own,if_neg (by rw[h p (by simp)]; simp)]
theorem Kc : ∀ (l : List Pass) (s s' : St),J9 s l=J9 s' l
 | [],_,_=>rfl
 | x :: l,s,s'=>by simp only [J9,Kc l s s']
section
variable {N : Nat} {st s0 : St} {ops : Array Oper} {B : List Nat} {k : Nat} {rest : List Oper} {acc : List Lnk} {o : Oper} {Q : St→Prop} {d : Nat} {gate : Bool}
theorem K3 (j : Nat) {x : X} {n : Nm} {off t : Nat} {y : Operand} {g0 : Bool} (hk : ops[k]? = some o) (ho : o.op = .load t y) (h0 : lk Z.T st o.type y=some (g0, .v (.ptr n off))) (hg : G6 ops (rs (uAw ops o n j) st) o=some gate) (hd : o.dst=some d) (hN : Nat.ble (d + 1) N=true) (hp : PureOk Z (rs (uAw ops o n j) st) o.op o.type gate x)
  (hr : Draw Z N s0 ops B (k + 1) rest (acc++[(k,{ d:=some (d,gate,x),drop:=[.t d] },uAw ops o n j)]) (ap { d:=some (d,gate,x),drop:=[.t d] } st) Q) : Draw Z N s0 ops B k (o :: rest) acc st Q :=
 let _:=h0; let _:=ho; T5 hk (Hb hg hd hN hp) hr
theorem uAs {Z' : Pg} {fo : Operand} {args : Array Operand} {ts : Array TypeId} {f : FuncId} {caps : List Y} {xs cxs : List X} {res : X} {p0 : Pass} {pr : List Pass} {R : Foot}
  (hP : Z'.P=Z.P) (hgv : Z'.gv=Z.gv)
  (ho : o.op = .call { callee:=.value fo,args:=args,argTypes:=ts }) (hg : G6 ops (rs R st) o=some true) (hf : lk Z.T (rs R st) 0 fo=some (true, .fn f caps))
  (ha : L5 Z.T (rs R st) ts.toList args.toList=some (true,xs)) (htr : cxs.map (X.tr (p0 :: pr))=xs++caps.map X.v) (htrok : Z6 (p0 :: pr) cxs=true)
  (hps : ∀ p ∈ p0 :: pr,(rs R st).box p.n=some p.cs) (hnd : J9 (rs R st) (p0 :: pr)=true) (hs : CtrE Z' f cxs ((p0 :: pr).map Pass.old) (fun _ : Unit=>res) ((p0 :: pr).map Pass.ds) []) (hc : res.clean=true) (hd : o.dst=some d) (hN : Nat.ble (d + 1) N=true)
  (hex : ∀ (s2 : St) (E : Env) (G : Gh) (a : Act) (w : World),Rel E G s2 a w→EOk Z N E→Z'.ex fun j=>(G.passedO (p0 :: pr) []).A (.o j)) (hsame : ∀ p ∈ pr,H3 p.cs p.off p.ds=p.cs) :
  LS Z N ops o { d:=some (d,true,res),b:=some (p0.n,H3 p0.cs p0.off p0.ds),drop:=.t d :: (p0 :: pr).flatMap fun p=>P9 p.n p.off p.ds.length } R st:=by
 intro s2 hag _
 have hps2 : ∀ p ∈ p0 :: pr,s2.box p.n=some p.cs:=fun q hq=>hag.sub.bx _ _ (hps q hq)
 have hnd2 : J9 s2 (p0 :: pr)=true:=by rw[Kc _ s2 (rs R st)]; exact hnd
 refine (Lb (Z':=Z') (st:=s2) hP hgv ho (Q3 hag.sub hg) (Da hag.sub hf) (Ey hag.sub ha) htr htrok hps2 hnd2 hs hc hd hN (hex s2)).sub ⟨?_,?_,?_, .inr (show s2.mp=(s2.stores (p0 :: pr)).mp from (Cc _ _).symm)⟩
 ·intro j e hj
  rw[R8] at hj
  rw[St.put_get,Ak]
  simp only [Eff.gt] at hj
  by_cases h : d=j
  ·subst h; simpa using hj
  ·have h' : ¬ j=d:=fun e=>h e.symm
   simpa [h,h'] using hj
 ·intro m ds hm
  rw[S5] at hm
  show (s2.stores (p0 :: pr)).box m=_
  simp only [Eff.gb] at hm
  by_cases h0 : p0.n=m
  ·subst h0
   rw[X5 _ s2 p0 hnd2 (by simp)]
   simpa using hm
  ·have hm2 : s2.box m=some ds:=by simpa [h0] using hm
   by_cases h1 : ∃ p ∈ pr,p.n=m
   ·obtain ⟨p,hp,rfl⟩:=h1
    rw[X5 _ s2 p hnd2 (by simp [hp]),hsame p hp,← hps2 p (by simp [hp])]
    exact hm2
   ·rw[K5 _ s2 m fun p hp e=>?_]
    ·exact hm2
    ·rcases List.mem_cons.1 hp with rfl | hp
     ·exact h0 e
     ·exact h1 ⟨p,hp,e⟩
 ·intro q s hq
  rw[Q6] at hq
  rw[St.put_own]
  simp only [Eff.go,List.mem_cons] at hq
  split
  ·rename_i he; rw[if_pos (.inl he)] at hq; exact hq
  ·rename_i he
   show (s2.stores (p0 :: pr)).own q=_
   by_cases hin : ∃ p ∈ p0 :: pr,Pl.inCells p.n p.off p.ds.length q=true
   ·obtain ⟨p,hp,hpq⟩:=hin
    rw[if_pos (.inr (List.mem_flatMap.2 ⟨p,hp,mem_cellPls.2 hpq⟩))] at hq
    cases hq
   ·rw[Fx _ s2 q fun p hp=>by
     cases hb : Pl.inCells p.n p.off p.ds.length q with
     | false=>rfl
     | true=>exact absurd ⟨p,hp,hb⟩ hin]
    rw[if_neg (by
     rintro (h | h)
     ·exact he h
     ·obtain ⟨p,hp,hpq⟩:=List.mem_flatMap.1 h
      exact hin ⟨p,hp,mem_cellPls.1 hpq⟩)] at hq
    exact hq
end
theorem S2 {N : Nat} {st s0 : St} {ops : Array Oper} {B : List Nat} {k : Nat} {rest : List Oper} {acc : List Lnk} {o : Oper} {Q : St→Prop} {d : Nat} {Z' : Pg} {fo : Operand} {args : Array Operand} {ts : Array TypeId} {f : FuncId} {caps : List Y} {xs cxs : List X} {res : X} (p0 : Pass) (pr : List Pass)
  (hk : ops[k]? = some o) (hP : Z'.P=Z.P) (hgv : Z'.gv=Z.gv)
  (ho : o.op = .call { callee:=.value fo,args:=args,argTypes:=ts }) (hg : G6 ops (rs (foot ops o ((p0 :: pr).map Pass.n) []) st) o=some true) (hf : lk Z.T (rs (foot ops o ((p0 :: pr).map Pass.n) []) st) 0 fo=some (true, .fn f caps))
  (ha : L5 Z.T (rs (foot ops o ((p0 :: pr).map Pass.n) []) st) ts.toList args.toList=some (true,xs)) (htr : cxs.map (X.tr (p0 :: pr))=xs++caps.map X.v) (htrok : Z6 (p0 :: pr) cxs=true)
  (hps : ∀ p ∈ p0 :: pr,(rs (foot ops o ((p0 :: pr).map Pass.n) []) st).box p.n=some p.cs) (hnd : J9 (rs (foot ops o ((p0 :: pr).map Pass.n) []) st) (p0 :: pr)=true) (hs : CtrE Z' f cxs ((p0 :: pr).map Pass.old) (fun _ : Unit=>res) ((p0 :: pr).map Pass.ds) []) (hc : res.clean=true) (hd : o.dst=some d) (hN : Nat.ble (d + 1) N=true)
  (hex : ∀ (s2 : St) (E : Env) (G : Gh) (a : Act) (w : World),Rel E G s2 a w→EOk Z N E→Z'.ex fun j=>(G.passedO (p0 :: pr) []).A (.o j)) (hsame : ∀ p ∈ pr,H3 p.cs p.off p.ds=p.cs)
  (hr : Draw Z N s0 ops B (k + 1) rest (acc++[(k,{ d:=some (d,true,res),b:=some (p0.n,H3 p0.cs p0.off p0.ds),drop:=.t d :: (p0 :: pr).flatMap fun p=>P9 p.n p.off p.ds.length },foot ops o ((p0 :: pr).map Pass.n) [])])
   (ap { d:=some (d,true,res),b:=some (p0.n,H3 p0.cs p0.off p0.ds),drop:=.t d :: (p0 :: pr).flatMap fun p=>P9 p.n p.off p.ds.length } st) Q) : Draw Z N s0 ops B k (o :: rest) acc st Q :=
 T5 hk (uAs hP hgv ho hg hf ha htr htrok hps hnd hs hc hd hN hex hsame) hr
theorem Y8 {st : St} {p : Pass} {r : List Pass} (h1 : Nat.ble (p.off + p.ds.length) p.cs.length=true) (h2 : ((!p.n.isBd && r.all fun q=>!Nm.beq p.n q.n) && J9 st r)=true) : J9 st (p :: r)=true:=by
 rw[J9,h1]
 simpa [Bool.and_assoc] using h2
theorem Dw {a b : Pass} (ha : H3 a.cs a.off a.ds=a.cs) (hb : H3 b.cs b.off b.ds=b.cs) : ∀ p ∈ [a,b],H3 p.cs p.off p.ds=p.cs:=by
 intro p hp
 simp only [List.mem_cons,List.not_mem_nil,or_false] at hp
 rcases hp with rfl | rfl <;> assumption
section
variable {α : Type} {T : List (Option TyI)} {rs : List ResultVar} {res : α→X} {bs' : List (List C)} {s : St}
theorem Mz (a : α) {x : X} (h : resX T s rs=some x) (hx : x=res a) (hb : subB s (Q2 0 bs')) : retE T rs res bs' [] .ret s:=by
 have h1 : retS T rs (res a) none bs' .ret s:=C5 h hx hb
 exact ⟨a, .inl h1.1,h1.2.2,fun e he=>by cases he⟩
theorem Ah (a : α) {x : X} (h : resX T s rs=some x) (hx : x=res a) (hb : subB s (Q2 0 bs')) : retE T rs res bs' [] .normal s:=Mz a h hx hb
def uAA (s : St) (cs : List C) : List (Nat × Nm × Nat)→Prop
 | []=>True
 | m :: r=>(∃ k u,cs[m.1]? = some (.o u)∧s.get k=some (true, .kn true [.o u] [(0,m.2.1,m.2.2)]))∧uAA s cs r
theorem Ka {cs : List C} : ∀ {ms : List (Nat × Nm × Nat)},uAA s cs ms → ∀ m ∈ ms,∃ k u,cs[m.1]? = some (.o u)∧s.get k=some (true, .kn true [.o u] [(0,m.2.1,m.2.2)])
 | [],_,m,hm=>by cases hm
 | x :: r,h,m,hm=>by
  rcases List.mem_cons.1 hm with rfl | hm
  ·exact h.1
  ·exact Ka h.2 m hm
def uAe (s : St) : List (Nat × List C)→Prop
 | []=>True
 | e :: r=>s.box (.l e.1)=some e.2∧uAe s r
theorem Lj : ∀ {nb : List (Nat × List C)},uAe s nb → ∀ e ∈ nb,s.box (.l e.1)=some e.2
 | [],_,e,he=>by cases he
 | x :: r,h,e,he=>by
  rcases List.mem_cons.1 he with rfl | he
  ·exact h.1
  ·exact Lj h.2 e he
theorem uBv (a : α) {cs : List C} {ms : List (Nat × Nm × Nat)} {nb : List (Nat × List C)} (hr : res a = .kn false cs ms) (h : resX T s rs=some (.v (.agg cs))) (hm : uAA s cs ms) (hb : subB s (Q2 0 bs')) (hn : uAe s nb) : retE T rs res bs' nb .ret s:=by
 have h1 : retS T rs (.v (.agg cs)) none bs' .ret s:=C5 h J hb
 exact ⟨a, .inr ⟨cs,ms,hr,h,Ka hm⟩,h1.2.2,Lj hn⟩
end
theorem ps3 {st : St} {a b c : Pass} (ha : st.box a.n=some a.cs) (hb : st.box b.n=some b.cs) (hc : st.box c.n=some c.cs) : ∀ p ∈ [a,b,c],st.box p.n=some p.cs:=by
 intro p hp
 simp only [List.mem_cons,List.not_mem_nil,or_false] at hp
 rcases hp with rfl | rfl | rfl <;> assumption
theorem ps4 {st : St} {a b c d : Pass} (ha : st.box a.n=some a.cs) (hb : st.box b.n=some b.cs) (hc : st.box c.n=some c.cs) (hd : st.box d.n=some d.cs) : ∀ p ∈ [a,b,c,d],st.box p.n=some p.cs:=by
 intro p hp
 simp only [List.mem_cons,List.not_mem_nil,or_false] at hp
 rcases hp with rfl | rfl | rfl | rfl <;> assumption
end Go.Abs
namespace Go.Proofs.YteidahabkfgfjaaGreat
open Go Go.Abs
theorem Ti (l : List (List UInt8)) (h : l.length≤100000) (h0 : l≠[]) : CtrN sys 90 [.v (.c (.sl 1 (strR l)))] l.length (strR l).flatten:=by
 have hr : (strR l).length=l.length:=B4 l
 have hp : 0 < l.length:=List.length_pos_iff.2 h0
 have hf : (strR l).flatten≠[]:=by
  cases l with
  | nil=>exact absurd J h0
  | cons x r=>intro q; have := congrArg List.length q; simp [strR] at this
 refine U5 1 (hp) (hf) Tryz.func90 J J J J J ?_;refine A8 (A6 ?_);refine C3 J (H9 (.inr J) J J) ?_;refine B0 ?_;refine A8 ?_;refine A8 (A6 ?_);refine A5 J J J (A7 J gU) ?_;refine U3 J J J J J J J J (fun b hb=>?_);refine B0 ?_;refine B8 J (fun hc=>?_) (fun hc=>?_)
 ·exfalso
  have := congrArg List.length (hb hc)
  rw[hr] at this; simp at this; exact h0 this
 ·refine C0 ?_
  refine A8 (A6 ?_);refine E8 (xs:=[]) J J J J J J J J J gU J ?_;refine A5 J J J (A7 J gU) ?_;refine Dt 5 5 J J J ?_;refine V2 7 J J J J J J J J J J J J J (by simp) (by omega) (by simp; omega) (by omega) ?_
  rw[Nat.zero_add,hr]
  refine C3 J (F6 (.inr J) J J J) ?_;refine B0 ?_;refine C1 ?_
  repeat(first|refine tR ?_|refine bR ?_)
  refine ⟨7,rfl,?_⟩
  rfl
theorem Ty (l : List Fs) (h : l.length≤100000) (h0 : l≠[]) : CtrN sys 91 [.v (.c (.sl 3 (Fs.rows l)))] l.length (Fs.rows l).flatten:=by
 have hr : (Fs.rows l).length=l.length:=Fs.rows_len l
 have hp : 0 < l.length:=List.length_pos_iff.2 h0
 have hf : (Fs.rows l).flatten≠[]:=by
  cases l with
  | nil=>exact absurd J h0
  | cons x r=>intro q; have := congrArg List.length q; simp [Fs.rows,Fs.cells] at this
 refine U5 3 (hp) (hf) Tryz.func91 J J J J J ?_;refine A8 (A6 ?_);refine C3 J (H9 (.inr J) J J) ?_;refine B0 ?_;refine A8 ?_;refine A8 (A6 ?_);refine A5 J J J (A7 J gU) ?_;refine U3 J J J J J J J J (fun b hb=>?_);refine B0 ?_;refine B8 J (fun hc=>?_) (fun hc=>?_)
 ·exfalso
  have := congrArg List.length (hb hc)
  rw[hr] at this; simp at this; exact h0 this
 ·refine C0 ?_
  refine A8 (A6 ?_);refine E8 (xs:=[]) J J J J J J J J J gU J ?_;refine A5 J J J (A7 J gU) ?_;refine Dt 5 5 J J J ?_;refine V2 7 J J J J J J J J J J J J J (by simp) (by omega) (by simp; omega) (by omega) ?_
  rw[Nat.zero_add,hr]
  refine C3 J (F6 (.inr J) J J J) ?_;refine B0 ?_;refine C1 ?_
  repeat(first|refine tR ?_|refine bR ?_)
  refine ⟨7,rfl,?_⟩
  rfl
theorem Qj (l : List (List UInt8)) (h : l.length≤100000) (m : Nat) : CtrE sys 90 [.v (.c (.sl 1 (strR l)))] [] (fun u : Value=>.kn true [.o u] [(0, .l m,l.length)]) [] [(m,(strR l).flatten)]:=by
 cases l with
 | nil=>exact CtrE.ofNil (Ou [] (by simp)) m
 | cons x r=>exact CtrE.ofN (Ti _ h (by simp)) (by simp) m
theorem Za (l : List Fs) (h : l.length≤100000) (m : Nat) : CtrE sys 91 [.v (.c (.sl 3 (Fs.rows l)))] [] (fun u : Value=>.kn true [.o u] [(0, .l m,l.length)]) [] [(m,(Fs.rows l).flatten)]:=by
 cases l with
 | nil=>exact CtrE.ofNil (Qv [] (by simp)) m
 | cons x r=>exact CtrE.ofN (Ty _ h (by simp)) (by simp) m
theorem Xa (l : List Sp) (h : l.length≤100000) (h0 : l≠[]) (m : Nat) : CtrE sys 92 [.v (.c (.sl 7 (Sp.rows l)))] [] (fun u : Value=>.kn true [.o u] [(0, .l m,l.length)]) [] [(m,(Sp.rows l).flatten)] :=
 CtrE.ofN (Qg _ h h0) (List.length_pos_iff.2 h0) m
theorem Vw (l : List Gl) (h : l.length≤100000) (m : Nat) : CtrE sys 93 [.v (.c (.sl 5 (Gl.rows l)))] [] (fun u : Value=>.kn true [.o u] [(0, .l m,l.length)]) [] [(m,(Gl.rows l).flatten)]:=by
 cases l with
 | nil=>exact CtrE.ofNil Mf m
 | cons x r=>exact CtrE.ofN (Oy _ h (by simp)) (by simp) m
def swp (fr tn s : List UInt8) : List UInt8:=if s=fr then tn else s
abbrev swG (fr tn : List UInt8) : ChG:=fun nm so=>(swp fr tn nm,so)
noncomputable def zK (fv : Value) (i j : Nat) : Pg:={ sysO with ex:=KEx fv 66 i j }
theorem Bd (s fr tn : List UInt8) : CtrE sysO 66 [.v (.ptr (.o 0) 0), .v (.ptr (.o 1) 0), .v (.ptr (.o 2) 0)] [[.s s],[.s fr],[.s tn]] (fun _ : Unit=>.tup []) [[.s (swp fr tn s)],[.s fr],[.s tn]] []:=by
 refine Y5 Tryz.func66 J J J J J ?_;refine A8 ?_;refine awp_drawn' (by kernel_rfl) ?_;refine B9 J J J J (A7 J gU) ?_;refine B9 J J J J (K7 J gU) ?_;refine L9 J J J J J J J gU J J J J ?_;refine L9 J J J J J J J gU J J J J ?_;refine B9 J J J J (H1 J J gU gU J) ?_;refine F8 (by kernel_rfl) ?_;refine B5 (s:=⟨[(0,_,_),(2,_,_),(8,_,_)],[(.o 0,_),(.o 1,_),(.o 2,_)],[],[]⟩) (B3 (⟨U J,U J,U J,O⟩) (⟨U J,U J,U J,O⟩) O) ?_;refine B8 J (fun hc=>?_) (fun hc=>?_)
 ·try simp only [nn,B4,nq] at hc
  have e : swp fr tn s=tn:=by rw[swp,if_pos hc]
  rw[e]
  refine A6 ?_;refine A5 J J J (A7 J gU) ?_;refine A5 J J J (B2 J gU J J J J) ?_;refine A5 J J J (K7 J gU) ?_;refine C3 J (C9 J J J J J J J) ?_;refine B0 ?_;refine Ah () J ?_ (⟨⟨_,rfl,?_⟩,⟨⟨_,rfl,?_⟩,⟨⟨_,rfl,?_⟩,O⟩⟩⟩)
  all_goals rfl
 ·try simp only [nn,B4,nq] at hc
  have e : swp fr tn s=s:=by rw[swp,if_neg hc]
  rw[e]
  refine C0 ?_;refine Ah () J ?_ (⟨⟨_,rfl,?_⟩,⟨⟨_,rfl,?_⟩,⟨⟨_,rfl,?_⟩,O⟩⟩⟩)
  all_goals rfl
theorem uBI (fv : Value) (t : T) (fr tn : List UInt8) : CtrE (zK fv 2 3) 67 [.v (.ptr (.o 0) 0), .v (.ptr (.o 1) 0)] [t.cells,[.o fv],[.s fr],[.s tn]] (fun _ : Unit=>.tup []) [(⟨t.kind,swp fr tn t.name,t.sort,t.kids⟩ : T).cells,[.o fv],[.s fr],[.s tn]] []:=by
 refine Y5 Tryz.func67 J J J J J ?_;refine uAv ?_;refine E6 0 [1] (by kernel_rfl) ⟨⟨_,rfl,?_⟩,⟨_,rfl,?_⟩,O⟩
 ·refine A5 J J J (B2 J gU J J J J) (Nc 3 J J (B0 ?_))
  refine E6 1 [] (by kernel_rfl) ⟨⟨_,rfl,?_⟩,O⟩;refine A5 J J J (A7 J gU) (B0 ?_);refine E6 2 [] (by kernel_rfl) ⟨⟨_,rfl,?_⟩,O⟩;refine A5 J J J (K7 J gU) (B0 ?_);refine E6 3 [] (by kernel_rfl) ⟨⟨_,rfl,?_⟩,O⟩;refine A5 J J J (B1 J gU J J) (B0 ?_);refine E6 4 [] (by kernel_rfl) ⟨⟨_,rfl,?_⟩,O⟩;refine X1 (Z':=sysO) [⟨.o 0,1,t.cells,[.s (swp fr tn t.name)]⟩,⟨.o 2,0,[.s fr],[.s fr]⟩,⟨.o 3,0,[.s tn],[.s tn]⟩] J J J J J J J J (ps3 J J J) J (Bd t.name fr tn) J J J (fun _ _ _ _ _ _=>O) (B0 ?_);exact Cp (by kernel_rfl) (Ah () J J ⟨⟨_,rfl,rfl⟩,⟨_,rfl,rfl⟩,⟨_,rfl,rfl⟩,⟨_,rfl,rfl⟩,O⟩)
 ·refine A5 J J J (A7 J gU) (B0 ?_)
  refine E6 0 [2] (by kernel_rfl) ⟨⟨_,rfl,?_⟩,⟨_,rfl,?_⟩,O⟩
  ·refine A5 J J J (B2 J gU J J J J) (Nc 3 J J (B0 ?_))
   refine E6 2 [] (by kernel_rfl) ⟨⟨_,rfl,?_⟩,O⟩;refine A5 J J J (K7 J gU) (B0 ?_);refine E6 3 [] (by kernel_rfl) ⟨⟨_,rfl,?_⟩,O⟩;refine A5 J J J (B1 J gU J J) (B0 ?_);refine E6 4 [] (by kernel_rfl) ⟨⟨_,rfl,?_⟩,O⟩;refine X1 (Z':=sysO) [⟨.o 0,1,t.cells,[.s (swp fr tn t.name)]⟩,⟨.o 2,0,[.s fr],[.s fr]⟩,⟨.o 3,0,[.s tn],[.s tn]⟩] J J J J J J J J (ps3 J J J) J (Bd t.name fr tn) J J J (fun _ _ _ _ _ _=>O) (B0 ?_);exact Cp (by kernel_rfl) (Ah () J J ⟨⟨_,rfl,rfl⟩,⟨_,rfl,rfl⟩,⟨_,rfl,rfl⟩,⟨_,rfl,rfl⟩,O⟩)
  ·refine A5 J J J (K7 J gU) (B0 ?_)
   refine E6 0 [3] (by kernel_rfl) ⟨⟨_,rfl,?_⟩,⟨_,rfl,?_⟩,O⟩
   ·refine A5 J J J (B2 J gU J J J J) (Nc 3 J J (B0 ?_))
    refine E6 3 [] (by kernel_rfl) ⟨⟨_,rfl,?_⟩,O⟩;refine A5 J J J (B1 J gU J J) (B0 ?_);refine E6 4 [] (by kernel_rfl) ⟨⟨_,rfl,?_⟩,O⟩;refine X1 (Z':=sysO) [⟨.o 0,1,t.cells,[.s (swp fr tn t.name)]⟩,⟨.o 2,0,[.s fr],[.s fr]⟩,⟨.o 3,0,[.s tn],[.s tn]⟩] J J J J J J J J (ps3 J J J) J (Bd t.name fr tn) J J J (fun _ _ _ _ _ _=>O) (B0 ?_);exact Cp (by kernel_rfl) (Ah () J J ⟨⟨_,rfl,rfl⟩,⟨_,rfl,rfl⟩,⟨_,rfl,rfl⟩,⟨_,rfl,rfl⟩,O⟩)
   ·refine A5 J J J (B1 J gU J J) (B0 ?_)
    refine E6 0 [] (by kernel_rfl) ⟨⟨_,rfl,?_⟩,O⟩;refine A5 J J J (B2 J gU J J J J) (Nc 3 J J (B0 ?_));refine E6 4 [] (by kernel_rfl) ⟨⟨_,rfl,?_⟩,O⟩;refine X1 (Z':=sysO) [⟨.o 0,1,t.cells,[.s (swp fr tn t.name)]⟩,⟨.o 2,0,[.s fr],[.s fr]⟩,⟨.o 3,0,[.s tn],[.s tn]⟩] J J J J J J J J (ps3 J J J) J (Bd t.name fr tn) J J J (fun _ _ _ _ _ _=>O) (B0 ?_);exact Cp (by kernel_rfl) (Ah () J J ⟨⟨_,rfl,rfl⟩,⟨_,rfl,rfl⟩,⟨_,rfl,rfl⟩,⟨_,rfl,rfl⟩,O⟩)
set_option maxHeartbeats 4000000 in
theorem Re (fv : Value) (fr tn : List UInt8) : ∀ (m : Nat) (t : T),t.size≤m→m≤900000→gdB t=true→CtrE (zK fv 1 2) 94 [xm t, .fn 67 [.ptr (.o 0) 0]] [[.o fv],[.s fr],[.s tn]] (fun _ : Unit=>xm (chT (swG fr tn) t)) [[.o fv],[.s fr],[.s tn]] []:=by
 intro m
 induction m with
 | zero=>intro t h; have := t.size_pos; omega
 | succ m ih =>
  intro t ht hm hgd
  have hr:=T.rows_len t.kids
  have hls:=T.len_sizes t.kids
  have hse:=t.size_eq
  have hgk:=Ce hgd
  refine Y5 Tryz.func94 J J J J J ?_;refine A8 (A6 ?_);refine C3 J (E2 J J J J) ?_;refine C3 J (D7 J J J) ?_;refine B0 ?_;refine A8 ?_;refine A8 (A6 ?_);refine A5 J J J (B1 J gU J J) ?_;refine A5 J J J (B2 J gU J J J J) ?_;refine A5 J J J (B6 J J gU gU J) ?_;refine B0 ?_;refine B5 (s:=⟨[(1,_,_),(2,_,_),(4,_,_),(10,_,_)],[(.l 2,_),(.l 4,_),(.o 0,_),(.o 1,_),(.o 2,_)],[],[]⟩) (B3 (⟨U J,U J,U J,U J,O⟩) (⟨U J,U J,U J,U J,U J,O⟩) O) ?_;refine B8 J (fun hc=>?_) (fun hc=>?_)
  ·try simp only [nn,B4,nq] at hc
   have hk : t.kids=[]:=(Zr hgd (by omega)).2
   have hE : chT (swG fr tn) t=⟨t.kind,swp fr tn t.name,t.sort,t.kids⟩:=by rw[Sz,if_pos hc,if_pos hc,hk]; rfl
   refine A8 (A6 ?_);refine A5 J J J (A7 J gU) ?_;refine X1 (Z':=zK fv 2 3) [⟨.l 2,0,t.cells,(⟨t.kind,swp fr tn t.name,t.sort,t.kids⟩ : T).cells⟩,⟨.o 0,0,[.o fv],[.o fv]⟩,⟨.o 1,0,[.s fr],[.s fr]⟩,⟨.o 2,0,[.s tn],[.s tn]⟩] J J J J J J J J (ps4 J J J J) J (uBI fv t fr tn) J J J (fun E G a w hr hE=>Ej (i:=1) (j:=2) (i':=2) (j':=3) J J J J J J J E G a w hr hE) ?_
   rw[hE]
   refine B0 ?_;refine A8 (A6 ?_);refine A5 J J J (B7 J gU J J J J J) ?_;refine C3 J (C9 J J J J J J J) ?_;refine B0 ?_;refine C1 ?_
   repeat(first|refine tR ?_|refine bR ?_)
   refine Mz () J ?_ (⟨⟨_,rfl,?_⟩,⟨⟨_,rfl,?_⟩,⟨⟨_,rfl,?_⟩,O⟩⟩⟩)
   all_goals rfl
  ·try simp only [nn,B4,nq] at hc
   have hE : chT (swG fr tn) t=⟨t.kind,t.name,t.sort,t.kids.map (chT (swG fr tn))⟩:=by rw[Sz,if_neg hc,if_neg hc]
   rw[hE]
   refine C0 ?_;refine A8 (A6 ?_);refine A5 J J J (B1 J gU J J) ?_;refine A5 J J J (B2 J gU J J J J) ?_;refine E0 J J J J J gU J J ?_ (fun hh=>by simp at hh); intro hlen;refine C3 J (Rg (n:=t.kids.length) J J J J J J J (by omega) (by omega) (by omega)) ?_;refine A5 J J J (A9 J gU) ?_;refine B0 ?_;refine B5 (s:=⟨[(1,_,_),(2,_,_),(4,_,_),(5,_,_)],[(.l 17,_),(.l 2,_),(.l 4,_),(.o 0,_),(.o 1,_),(.o 2,_)],[],[]⟩) (B3 (⟨U J,U J,U J,U J,O⟩) (⟨U J,U J,U J,U J,U J,U J,O⟩) O) ?_;refine A8 ?_;refine A8 (A6 ?_);refine A5 J J J (B1 J gU J J) ?_;refine A5 J J J (B2 J gU J J J J) ?_;refine E0 J J J J J gU J J ?_ (fun hh=>by simp at hh); intro hlen;refine A5 J J J (A7 J gU) ?_;refine B0 ?_;refine C4 ?_;refine F5 (ι:=Nat) { t:=[(1,_,_),(2,_,_),(4,_,_),(5,_,_),(19,_,_),(20,_,_)],bx:=[(.l 2,_),(.l 4,_),(.o 0,_),(.o 1,_),(.o 2,_)],ow:=[] } (fun k=>[(21,true,xi (k : Int))]) (fun k=>[((.l 17),(T.rows (padT ((t.kids.take k).map (chT (swG fr tn))) t.kids.length)).flatten)]) (fun k=>k≤t.kids.length) (fun k=>t.kids.length - k) (0) (by simp) (B3 (⟨U J,U J,U J,U J,U J,U J,U J,O⟩) (⟨⟨_,rfl,uAQ _⟩,⟨U J,U J,U J,U J,U J,O⟩⟩) O) ?_
   intro k hok
   dsimp only [List.cons_append,List.nil_append]
   have hpl : ((t.kids.take k).map (chT (swG fr tn))).length=k:=by rw[List.length_map,List.length_take]; omega
   have hpn:=uAS (l:=(t.kids.take k).map (chT (swG fr tn))) (n:=t.kids.length) (by omega)
   refine A8 (A6 ?_);refine A5 J J J (B6 J J gU gU J) ?_;refine B0 ?_;refine A8 ?_;refine B8 J (fun hc2=>?_) (fun hc2=>?_)
   ·try simp only [nn,B4,nq] at hc2
    have hlt : k < t.kids.length:=by omega
    have hmm:=S1 (d:=default) hlt
    have hks:=O1 hmm
    have hT:=M2 (l:=t.kids) (d:=default) hlt
    have hset : H3 (T.rows (padT ((t.kids.take k).map (chT (swG fr tn))) t.kids.length)).flatten (k * 4) (chT (swG fr tn) (t.kids.getD k default)).cells=(T.rows (padT ((t.kids.take (k + 1)).map (chT (swG fr tn))) t.kids.length)).flatten:=by
     have h1:=Yj (l:=(t.kids.take k).map (chT (swG fr tn))) (n:=t.kids.length) (by omega) (chT (swG fr tn) (t.kids.getD k default))
     rw[hpl] at h1
     rw[Je _ _ _ (by omega),h1,hT,List.map_append]; rfl
    refine C0 ?_;refine A8 ?_;refine C4 ?_;refine A8 (A6 ?_);refine A5 J J J (A7 J gU) ?_;refine A5 J J J (C7 J J gU gU J J J (fun hh=>T.rows_at (by first|omega|(simp at hh ⊢; omega)))) ?_;refine A5 J J J (D6 J gU J J J J) ?_;refine C3 J (D7 J J J) ?_;refine A5 J J J (A9 J gU) ?_;refine C3 J (C9 J J J J J J J) ?_;refine B0 ?_;refine B5 (s:=⟨[(1,_,_),(2,_,_),(4,_,_),(5,_,_),(6,_,_),(7,_,_),(19,_,_),(20,_,_),(21,_,_)],[(.l 17,_),(.l 2,_),(.l 4,_),(.l 7,_),(.o 0,_),(.o 1,_),(.o 2,_)],[],[]⟩) (B3 (⟨U J,U J,U J,U J,U J,U J,U J,U J,U J,O⟩) (⟨U J,U J,U J,U J,U J,U J,U J,O⟩) O) ?_;refine A6 ?_;refine A5 J J J (A7 J gU) ?_;refine A5 J J J (A7 J gU) ?_;refine A5 J J J (B7 J gU J J J J J) ?_;refine A5 J J J (A7 J gU) ?_;refine X1 (Z':=zK fv 1 2) [⟨.o 0,0,[.o fv],[.o fv]⟩,⟨.o 1,0,[.s fr],[.s fr]⟩,⟨.o 2,0,[.s tn],[.s tn]⟩] J J J J J J J J (ps3 J J J) J (ih (t.kids.getD k default) (by omega) (by omega) (hgk _ hmm)) J J J (fun E G a w hr hE=>Ej (i:=1) (j:=2) (i':=1) (j':=2) J J J J J J J E G a w hr hE) ?_
    refine A5 J J J (I1 J J gU gU J J J (fun _=>by omega)) ?_;refine C3 J (C9 J J J J J J (uAy _ _ _ (by omega))) ?_;refine B0 ?_;refine B5 (s:=⟨[(1,_,_),(2,_,_),(4,_,_),(5,_,_),(19,_,_),(20,_,_),(21,_,_)],[(.l 17,_),(.l 2,_),(.l 4,_),(.o 0,_),(.o 1,_),(.o 2,_)],[],[]⟩) (B3 (⟨U J,U J,U J,U J,U J,U J,U J,O⟩) (⟨U J,U J,U J,U J,U J,U J,O⟩) O) ?_;refine A6 ?_;refine A5 J J J (D0 J J gU gU J (IntWalk.i64_in _ (by omega))) ?_;refine A5 J J J (A7 J gU) ?_;refine B0 ?_;refine ⟨k + 1,?_,?_,B3 (⟨⟨_,rfl,?_⟩,⟨U J,U J,U J,U J,U J,U J,O⟩⟩) (⟨⟨_,rfl,?_⟩,⟨U J,U J,U J,U J,U J,O⟩⟩) O⟩
    all_goals (first|rfl|omega|(rw[Nat.zero_add,hset]; done))
   ·try simp only [nn,B4,nq] at hc2
    have hke : k=t.kids.length:=by omega
    subst hke
    rw[List.take_length,Wx (by rw[List.length_map])]
    refine E1 ?_
    repeat(first|refine D3 ?_|refine D4 ?_|refine D2 J ?_)
    refine A8 (A6 ?_);refine Kt 5 17 (T.rows (t.kids.map (chT (swG fr tn)))) J J (by rw[T.rows_len,List.length_map]) (by omega) (Um _) J ?_;refine A5 J J J (A7 J gU) ?_;refine A5 J J J (B1 J gU J J) ?_;refine C3 J (C9 J J J J J J J) ?_;refine B0 ?_;refine A8 (A6 ?_);refine A5 J J J (B7 J gU J J J J J) ?_;refine C3 J (C9 J J J J J J J) ?_;refine B0 ?_;refine C1 ?_
    repeat(first|refine tR ?_|refine bR ?_)
    refine Mz () J ?_ (⟨⟨_,rfl,?_⟩,⟨⟨_,rfl,?_⟩,⟨⟨_,rfl,?_⟩,O⟩⟩⟩)
    all_goals rfl
def rnF (fr tn : List UInt8) (f : Fs) : Fs:=⟨swp fr tn f.role,swp fr tn f.name,f.sort⟩
def rnS0 (fr tn : List UInt8) (s : Sp) : Sp:=⟨swp fr tn s.frm,swp fr tn s.dst,s.msg,s.line⟩
def rnS (fr tn : List UInt8) (s : Sp) : Sp:=⟨swp fr tn s.frm,swp fr tn s.dst,chT (swG fr tn) s.msg,s.line⟩
def rnL0 (fr tn : List UInt8) (g : Gl) : Gl:=⟨g.kind,swp fr tn g.role,swp fr tn g.wth,g.data,g.line⟩
def rnL (fr tn : List UInt8) (g : Gl) : Gl:=⟨g.kind,swp fr tn g.role,swp fr tn g.wth,g.data.map (chT (swG fr tn)),g.line⟩
def rnN (fr tn : List UInt8) (n : Nar) : Nar:=⟨n.name,n.roles.map (swp fr tn),n.fresh.map (rnF fr tn),n.tags.map (swp fr tn),n.steps.map (rnS fr tn),n.goals.map (rnL fr tn)⟩
def rnE (n : Nar) (fr tn : List UInt8) : Nar × Int:=if (chkE D8 n).2≠0 then (nar0,(chkE D8 n).2) else if (K6 n).contains fr=false then (nar0,4) else if (K6 n).contains tn=true then (nar0,5)
 else if (chkE D8 (rnN fr tn n)).2≠0 then (nar0,(chkE D8 (rnN fr tn n)).2) else (rnN fr tn n,0)
abbrev xne (r : Nar × Int) : X:=.tup [.agg r.1.cells, .c (.i .i64 r.2)]
theorem uBG (fr tn : List UInt8) (l : List Sp) : (l.map (chS (swG fr tn))).map (rnS0 fr tn)=l.map (rnS fr tn):=by rw[List.map_map]; rfl
theorem uBD (fr tn : List UInt8) (l : List Gl) : (l.map (chL (swG fr tn))).map (rnL0 fr tn)=l.map (rnL fr tn):=by rw[List.map_map]; rfl
theorem Pu {n : Nar} (fr tn : List UInt8) (hs : ∀ s ∈ n.steps,s.msg.size≤900000) (hg : ∀ g ∈ n.goals,T.sizes g.data≤900000) : (∀ s ∈ (rnN fr tn n).steps,s.msg.size≤900000) ∧ ∀ g ∈ (rnN fr tn n).goals,T.sizes g.data≤900000:=by
 refine ⟨fun x hx=>?_,fun x hx=>?_⟩
 ·obtain ⟨y,hy,rfl⟩:=List.mem_map.1 (show x ∈ n.steps.map (rnS fr tn) from hx)
  show (chT (swG fr tn) y.msg).size≤900000
  rw[Pk]; exact hs y hy
 ·obtain ⟨y,hy,rfl⟩:=List.mem_map.1 (show x ∈ n.goals.map (rnL fr tn) from hx)
  show T.sizes (y.data.map (chT (swG fr tn)))≤900000
  rw[← Ji,Fi]; exact hg y hy
theorem Kr (l : List (List UInt8)) : ∀ (i : Nat) (row : List C),(strR l)[i]? = some row→row.length=1:=by
 intro i row h
 rw[strR,List.getElem?_map] at h
 cases hx : l[i]? with
 | none=>rw[hx] at h; cases h
 | some t=>rw[hx] at h; cases h; rfl
theorem Lg (l : List Fs) : ∀ (i : Nat) (row : List C),(Fs.rows l)[i]? = some row→row.length=3:=by
 intro i row h
 rw[Fs.rows,List.getElem?_map] at h
 cases hx : l[i]? with
 | none=>rw[hx] at h; cases h
 | some t=>rw[hx] at h; cases h; rfl
theorem P2 {sz : Nat} : ∀ {xs : List (List C)},(∀ (i : Nat) (row : List C),xs[i]? = some row→row.length=sz)→xs.flatten.length=xs.length * sz
 | [],_=>by simp
 | x :: xs,h=>by
  rw[List.flatten_cons,List.length_append,P2 (xs:=xs) fun i row hi=>h (i + 1) row (by simpa using hi),h 0 x J,List.length_cons,Nat.add_mul]; omega
theorem S9 {sz : Nat} {xs : List (List C)} {k j : Nat} {row : List C} {c : C} (h : ∀ (i : Nat) (row : List C),xs[i]? = some row→row.length=sz) (hi : xs[k]? = some row) (hj : row[j]? = some c) : (xs.flatten.drop (0 + k * sz + j)).take 1=[c]:=by
 have hl:=(List.getElem?_eq_some_iff.1 hj).1
 have hr:=h k row hi
 rw[Nat.zero_add,Ns h hi (by omega),List.drop_eq_getElem_cons hl]
 rw[(List.getElem?_eq_some_iff.1 hj).2]
 rfl
theorem Q5 {sz : Nat} {xs : List (List C)} {k j : Nat} {row : List C} (c : C) (h : ∀ (i : Nat) (row : List C),xs[i]? = some row→row.length=sz) (hi : xs[k]? = some row) (hj : j + 1≤sz) : H3 xs.flatten (0 + k * sz + j) [c]=(xs.set k (row.set j c)).flatten:=by
 rw[Nat.zero_add,Nb h hi hj]; rfl
theorem Vj {l : List (List UInt8)} {k : Nat} {s : List UInt8} (h : l[k]? = some s) : (strR l)[k]? = some [.s s]:=by rw[strR,List.getElem?_map,h]; rfl
theorem Ng {l : List Fs} {k : Nat} {s : Fs} (h : l[k]? = some s) : (Fs.rows l)[k]? = some s.cells:=by rw[Fs.rows,List.getElem?_map,h]; rfl
theorem Mp {l : List Sp} {k : Nat} {s : Sp} (h : l[k]? = some s) : (Sp.rows l)[k]? = some s.cells:=by rw[Sp.rows,List.getElem?_map,h]; rfl
theorem Mt {l : List Gl} {k : Nat} {s : Gl} (h : l[k]? = some s) : (Gl.rows l)[k]? = some s.cells:=by rw[Gl.rows,List.getElem?_map,h]; rfl
theorem uBS {l : List (List UInt8)} {k : Nat} {s : List UInt8} (h : l[k]? = some s) : ((strR l).flatten.drop (0 + k * 1)).take 1=[.s s]:=S9 (j:=0) (Kr l) (Vj h) J
theorem uBY {l : List (List UInt8)} {k : Nat} {s : List UInt8} (h : l[k]? = some s) (x : List UInt8) : H3 (strR l).flatten (0 + k * 1) [.s x]=(strR (l.set k x)).flatten:=by
 rw[show 0 + k * 1=0 + k * 1 + 0 from J,Q5 (.s x) (Kr l) (Vj h) (Nat.le_refl _),strR,strR,List.map_set]; rfl
theorem uCC {l : List Fs} {k : Nat} {s : Fs} (h : l[k]? = some s) (x : List UInt8) : H3 (Fs.rows l).flatten (0 + k * 3 + 0) [.s x]=(Fs.rows (l.set k ⟨x,s.name,s.sort⟩)).flatten:=by
 rw[Q5 (.s x) (Lg l) (Ng h) (by omega),Fs.rows,Fs.rows,List.map_set]; rfl
theorem uCw {l : List Fs} {k : Nat} {s : Fs} (h : l[k]? = some s) (x : List UInt8) : H3 (Fs.rows l).flatten (0 + k * 3 + 1) [.s x]=(Fs.rows (l.set k ⟨s.role,x,s.sort⟩)).flatten:=by
 rw[Q5 (.s x) (Lg l) (Ng h) (by omega),Fs.rows,Fs.rows,List.map_set]; rfl
theorem uCF {l : List Sp} {k : Nat} {s : Sp} (h : l[k]? = some s) (x : List UInt8) : H3 (Sp.rows l).flatten (0 + k * 7 + 0) [.s x]=(Sp.rows (l.set k ⟨x,s.dst,s.msg,s.line⟩)).flatten:=by
 rw[Q5 (.s x) (Fz l) (Mp h) (by omega),Sp.rows,Sp.rows,List.map_set]; rfl
theorem uCA {l : List Sp} {k : Nat} {s : Sp} (h : l[k]? = some s) (x : List UInt8) : H3 (Sp.rows l).flatten (0 + k * 7 + 1) [.s x]=(Sp.rows (l.set k ⟨s.frm,x,s.msg,s.line⟩)).flatten:=by
 rw[Q5 (.s x) (Fz l) (Mp h) (by omega),Sp.rows,Sp.rows,List.map_set]; rfl
theorem uCH {l : List Gl} {k : Nat} {s : Gl} (h : l[k]? = some s) (x : List UInt8) : H3 (Gl.rows l).flatten (0 + k * 5 + 1) [.s x]=(Gl.rows (l.set k ⟨s.kind,x,s.wth,s.data,s.line⟩)).flatten:=by
 rw[Q5 (.s x) (Fy l) (Mt h) (by omega),Gl.rows,Gl.rows,List.map_set]; rfl
theorem uCz {l : List Gl} {k : Nat} {s : Gl} (h : l[k]? = some s) (x : List UInt8) : H3 (Gl.rows l).flatten (0 + k * 5 + 2) [.s x]=(Gl.rows (l.set k ⟨s.kind,s.role,x,s.data,s.line⟩)).flatten:=by
 rw[Q5 (.s x) (Fy l) (Mt h) (by omega),Gl.rows,Gl.rows,List.map_set]; rfl
theorem Ts {α : Type} {l : List α} {k : Nat} {a b : α} (h : l[k]? = some a) : (l.set k b)[k]? = some b:=by
 have := (List.getElem?_eq_some_iff.1 h).1
 rw[List.getElem?_set_self this]
theorem Bn {old : List C} {s fr tn : List UInt8} (h : old=[.s s]) : CtrE sysO 66 [.v (.ptr (.o 0) 0), .v (.ptr (.o 1) 0), .v (.ptr (.o 2) 0)] [old,[.s fr],[.s tn]] (fun _ : Unit=>.tup []) [[.s (swp fr tn s)],[.s fr],[.s tn]] []:=by
 rw[h]; exact Bd s fr tn
def exP : List UInt8:=[112,114,111,116,111,99,111,108,32,112,32,123,32,114,111,108,101,32,65,44,32,66,59,32,102,114,101,115,104,32,65,58,32,110,32,110,111,110,99,101,59,32,109,101,115,115,97,103,101,32,65,32,45,62,32,66,58,32]
def exQ : List UInt8:=[59,32,125]
def exW0 : List UInt8:=[97,101,110,99,40,60,110,44,32,65,62,44,32,112,107,40,115,107,40,66,41,41,41]
def exN0 : Nar:=⟨[112],[[65],[66]],[⟨[65],[110],2⟩],[],[⟨[65],[66],⟨3,[97,101,110,99],0,[⟨3,[112,97,105,114],0,[⟨2,[110],0,[]⟩,⟨2,[65],0,[]⟩]⟩,⟨3,[112,107],0,[⟨3,[115,107],0,[⟨2,[66],0,[]⟩]⟩]⟩]⟩,1⟩],[]⟩
set_option maxRecDepth 100000 in
theorem exR0 : Z8 (exP++exW0++exQ)=(exN0,0,0):=by kernel_rfl
def exW1 : List UInt8:=[101,110,99,40,110,44,32,107,41]
def exN1 : Nar:=⟨[112],[[65],[66]],[⟨[65],[110],2⟩],[],[⟨[65],[66],⟨3,[101,110,99],0,[⟨2,[110],0,[]⟩,⟨2,[107],0,[]⟩]⟩,1⟩],[]⟩
set_option maxRecDepth 100000 in
theorem exR1 : Z8 (exP++exW1++exQ)=(exN1,0,0):=by kernel_rfl
def exW2 : List UInt8:=[115,105,103,110,40,110,44,32,110,41]
def exN2 : Nar:=⟨[112],[[65],[66]],[⟨[65],[110],2⟩],[],[⟨[65],[66],⟨3,[115,105,103,110],0,[⟨2,[110],0,[]⟩,⟨2,[110],0,[]⟩]⟩,1⟩],[]⟩
set_option maxRecDepth 100000 in
theorem exR2 : Z8 (exP++exW2++exQ)=(exN2,0,0):=by kernel_rfl
def exW3 : List UInt8:=[115,107,40,66,41]
def exN3 : Nar:=⟨[112],[[65],[66]],[⟨[65],[110],2⟩],[],[⟨[65],[66],⟨3,[115,107],0,[⟨2,[66],0,[]⟩]⟩,1⟩],[]⟩
set_option maxRecDepth 100000 in
theorem exR3 : Z8 (exP++exW3++exQ)=(exN3,0,0):=by kernel_rfl
set_option maxRecDepth 100000 in
theorem exC0 : chkE D8 exN0=(0,0):=by decide +kernel
set_option maxRecDepth 100000 in
theorem exC1 : chkE D8 exN1=(1,13):=by decide +kernel
set_option maxRecDepth 100000 in
theorem exC2 : chkE D8 exN2=(1,10):=by decide +kernel
set_option maxRecDepth 100000 in
theorem exC3 : chkE D8 exN3=(1,10):=by decide +kernel
set_option maxRecDepth 100000 in
theorem exS1 : Eu exN0 [110]=(2,0):=by decide +kernel
set_option maxRecDepth 100000 in
theorem exS2 : Eu exN0 [65]=(1,0):=by decide +kernel
set_option maxRecDepth 100000 in
theorem exU : Gj exN0 [110]=[0]:=by decide +kernel
theorem W3 (s : List UInt8) (h : s.length≤1000) : Ctr sys 35 [xs s] [] (xn (Z8 (exP++s++exQ)).1) none []:=by
 refine D1 Tryz.func35 J J J J J J ?_;refine A8 (A6 ?_);refine C3 J (D7 J J J) ?_;refine B0 ?_;refine A8 (A6 ?_);refine A5 J J J (A7 J gU) ?_;refine A5 J J J (By J J gU gU (by simp; omega)) ?_;refine A5 J J J (By J J gU gU (by simp; omega)) ?_;refine C8 J J J J J J gU gU (Nz (exP++s++exQ) (by have e1 : exP.length=58:=rfl; have e2 : exQ.length=3:=rfl; rw[List.length_append,List.length_append]; omega)) J ?_;refine A5 J J J (A7 J gU) ?_;refine A5 J J J (C2 J gU J) ?_;refine A5 J J J (C2 J gU J) ?_;refine A5 J J J (C2 J gU J) ?_;refine C3 J (D7 J J J) ?_;refine C3 J (C9 J J J J J J J) ?_;refine A5 J J J (A9 J gU) ?_;refine A5 J J J (A9 J gU) ?_;refine B0 ?_;refine B5 (s:=⟨[(2,_,_),(3,_,_)],[(.l 2,_),(.l 3,_)],[],[]⟩) (B3 (⟨U J,U J,O⟩) (⟨U J,U J,O⟩) O) ?_;refine A8 (A6 ?_);refine A5 J J J (B7 J gU J J J J J) ?_;refine C3 J (C9 J J J J J J J) ?_;refine B0 ?_;refine C1 ?_
 repeat(first|refine tR ?_|refine bR ?_)
 refine C5 J ?_ O
 rfl
theorem Hh : Ctr sys 11 [] [] (xb true) none []:=by
 have a0:=W3 exW0 (by decide)
 rw[exR0] at a0
 have c0:=N6 exN0 (by decide) (by decide)
 rw[exC0] at c0
 have a1:=W3 exW1 (by decide)
 rw[exR1] at a1
 have c1:=N6 exN1 (by decide) (by decide)
 rw[exC1] at c1
 have a2:=W3 exW2 (by decide)
 rw[exR2] at a2
 have c2:=N6 exN2 (by decide) (by decide)
 rw[exC2] at c2
 have a3:=W3 exW3 (by decide)
 rw[exR3] at a3
 have c3:=N6 exN3 (by decide) (by decide)
 rw[exC3] at c3
 have s1:=Ao exN0 [110] (by decide) (by decide)
 rw[exS1] at s1
 have s2:=Ao exN0 [65] (by decide) (by decide)
 rw[exS2] at s2
 have u1:=Dg exN0 [110] (by decide) (by decide)
 rw[exU] at u1
 refine D1 Tryz.func11 J J J J J J ?_;refine A8 (A6 ?_);refine A5 J J J (A9 J gU) ?_;refine B0 ?_;refine A8 (A6 ?_);refine C8 J J J J J J gU gU (a0) J ?_;refine C3 J (D7 J J J) ?_;refine C3 J (C9 J J J J J J J) ?_;refine B0 ?_;refine A8 (A6 ?_);refine A5 J J J (B7 J gU J J J J J) ?_;refine C8 J J J J J J gU gU (c0) J ?_;refine A5 J J J (A7 J gU) ?_;refine A5 J J J (C2 J gU J) ?_;refine A5 J J J (C2 J gU J) ?_;refine A5 J J J (A9 J gU) ?_;refine A5 J J J (A9 J gU) ?_;refine B0 ?_;refine B5 (s:=⟨[(1,_,_),(2,_,_),(3,_,_)],[(.l 1,_)],[],[]⟩) (B3 (⟨U J,U J,U J,O⟩) (⟨U J,O⟩) O) ?_;refine A8 (A6 ?_);refine A5 J J J (B7 J gU J J J J J) ?_;refine C8 J J J J J J gU gU (s1) J ?_;refine A5 J J J (A7 J gU) ?_;refine A5 J J J (C2 J gU J) ?_;refine A5 J J J (C2 J gU J) ?_;refine A5 J J J (A9 J gU) ?_;refine A5 J J J (A9 J gU) ?_;refine B0 ?_;refine B5 (s:=⟨[(1,_,_),(2,_,_),(3,_,_),(4,_,_),(5,_,_)],[(.l 1,_)],[],[]⟩) (B3 (⟨U J,U J,U J,U J,U J,O⟩) (⟨U J,O⟩) O) ?_
 refine A8 (A6 ?_);refine A5 J J J (B7 J gU J J J J J) ?_;refine C8 J J J J J J gU gU (s2) J ?_;refine A5 J J J (A7 J gU) ?_;refine A5 J J J (C2 J gU J) ?_;refine A5 J J J (C2 J gU J) ?_;refine A5 J J J (A9 J gU) ?_;refine A5 J J J (A9 J gU) ?_;refine B0 ?_;refine B5 (s:=⟨[(1,_,_),(2,_,_),(3,_,_),(4,_,_),(5,_,_),(6,_,_),(7,_,_)],[(.l 1,_)],[],[]⟩) (B3 (⟨U J,U J,U J,U J,U J,U J,U J,O⟩) (⟨U J,O⟩) O) ?_;refine A8 (A6 ?_);refine C8 J J J J J J gU gU (a1) J ?_;refine C8 J J J J J J gU gU (c1) J ?_;refine A5 J J J (A7 J gU) ?_;refine A5 J J J (C2 J gU J) ?_;refine A5 J J J (C2 J gU J) ?_;refine A5 J J J (A9 J gU) ?_;refine A5 J J J (A9 J gU) ?_;refine B0 ?_;refine B5 (s:=⟨[(1,_,_),(2,_,_),(3,_,_),(4,_,_),(5,_,_),(6,_,_),(7,_,_),(8,_,_),(9,_,_)],[(.l 1,_)],[],[]⟩) (B3 (⟨U J,U J,U J,U J,U J,U J,U J,U J,U J,O⟩) (⟨U J,O⟩) O) ?_;refine A8 (A6 ?_);refine C8 J J J J J J gU gU (a2) J ?_
 refine C8 J J J J J J gU gU (c2) J ?_;refine A5 J J J (A7 J gU) ?_;refine A5 J J J (C2 J gU J) ?_;refine A5 J J J (C2 J gU J) ?_;refine A5 J J J (A9 J gU) ?_;refine A5 J J J (A9 J gU) ?_;refine B0 ?_;refine B5 (s:=⟨[(1,_,_),(2,_,_),(3,_,_),(4,_,_),(5,_,_),(6,_,_),(7,_,_),(8,_,_),(9,_,_),(11,_,_)],[(.l 1,_)],[],[]⟩) (B3 (⟨U J,U J,U J,U J,U J,U J,U J,U J,U J,U J,O⟩) (⟨U J,O⟩) O) ?_;refine A8 (A6 ?_);refine C8 J J J J J J gU gU (a3) J ?_;refine C8 J J J J J J gU gU (c3) J ?_;refine A5 J J J (A7 J gU) ?_;refine A5 J J J (C2 J gU J) ?_;refine A5 J J J (C2 J gU J) ?_;refine A5 J J J (A9 J gU) ?_;refine A5 J J J (A9 J gU) ?_;refine B0 ?_;refine B5 (s:=⟨[(1,_,_),(2,_,_),(3,_,_),(4,_,_),(5,_,_),(6,_,_),(7,_,_),(8,_,_),(9,_,_),(11,_,_),(13,_,_)],[(.l 1,_)],[],[]⟩) (B3 (⟨U J,U J,U J,U J,U J,U J,U J,U J,U J,U J,U J,O⟩) (⟨U J,O⟩) O) ?_;refine A8 (A6 ?_);refine A5 J J J (A7 J gU) ?_
 refine A5 J J J (B6 J J gU gU J) ?_;refine A5 J J J (A7 J gU) ?_;refine A5 J J J (A7 J gU) ?_;refine A5 J J J (B6 J J (fun hh=>hh) gU J) ?_;refine A5 J J J (E4 J J gU (fun _ hi=>gP J hi)) ?_;refine A5 J J J (A7 J gU) ?_;refine A5 J J J (A7 J gU) ?_;refine A5 J J J (B6 J J (fun hh=>hh) gU J) ?_;refine A5 J J J (E4 J J gU (fun _ hi=>gP J hi)) ?_;refine A5 J J J (A7 J gU) ?_;refine A5 J J J (A7 J gU) ?_;refine H5 (s:=⟨[(1,_,_),(6,_,_),(7,_,_),(8,_,_),(9,_,_),(11,_,_),(13,_,_),(55,_,_),(56,_,_)],[(.l 1,_)],[],[]⟩) (B3 (⟨U J,U J,U J,U J,U J,U J,U J,U J,U J,O⟩) (⟨U J,O⟩) O) ?_;refine A5 J J J (B6 J J (fun hh=>hh) gU J) ?_;refine A5 J J J (E4 J J gU (fun _ hi=>gP J hi)) ?_;refine A5 J J J (A7 J gU) ?_;refine A5 J J J (A7 J gU) ?_;refine A5 J J J (B6 J J (fun hh=>hh) gU J) ?_;refine A5 J J J (E4 J J gU (fun _ hi=>gP J hi)) ?_;refine A5 J J J (A7 J gU) ?_;refine A5 J J J (A7 J gU) ?_;refine A5 J J J (B6 J J (fun hh=>hh) gU J) ?_
 refine A5 J J J (E4 J J gU (fun _ hi=>gP J hi)) ?_;refine A5 J J J (A7 J gU) ?_;refine A5 J J J (B7 J gU J J J J J) ?_;refine H5 (s:=⟨[(8,_,_),(9,_,_),(11,_,_),(13,_,_),(67,_,_),(68,_,_)],[],[],[]⟩) (B3 (⟨U J,U J,U J,U J,U J,U J,O⟩) O O) ?_;refine C8 J J J J J J gU (fun hh=>gA ((fun hh=>hh) hh) (gA J (rfl))) (u1) J ?_;refine Hx (xs:=[_]) J J J J J J J J J (by first|exact fun hh=>hh|exact fun _=>rfl|exact fun hh=>gL hh|exact fun hh=>gL (gL hh)|(intro hh; simp_all)) J ?_;refine C8 J J J J J J gU (fun hh=>gA ((fun hh=>hh) hh) (gA ((fun hh=>hh) hh) (rfl))) (Fp [0] [0] J) J ?_;refine A5 J J J (E4 J J gU (fun _ hi=>gP J hi)) ?_;refine A5 J J J (A7 J gU) ?_;refine A5 J J J (A7 J gU) ?_;refine A5 J J J (B6 J J (fun hh=>hh) gU J) ?_;refine A5 J J J (E4 J J gU (fun _ hi=>gP J hi)) ?_;refine A5 J J J (A7 J gU) ?_;refine A5 J J J (A7 J gU) ?_;refine A5 J J J (B6 J J (fun hh=>hh) gU J) ?_;refine A5 J J J (E4 J J gU (fun _ hi=>gP J hi)) ?_;refine H5 (s:=⟨[(11,_,_),(13,_,_),(80,_,_)],[],[],[]⟩) (B3 (⟨U J,U J,U J,O⟩) O O) ?_
 refine A5 J J J (A7 J gU) ?_;refine A5 J J J (A7 J gU) ?_;refine A5 J J J (B6 J J (fun hh=>hh) gU J) ?_;refine A5 J J J (E4 J J gU (fun _ hi=>gP J hi)) ?_;refine A5 J J J (A7 J gU) ?_;refine A5 J J J (A7 J gU) ?_;refine A5 J J J (B6 J J (fun hh=>hh) gU J) ?_;refine A5 J J J (E4 J J gU (fun _ hi=>gP J hi)) ?_;refine A5 J J J (A9 J gU) ?_;refine B0 ?_;refine C1 ?_
 repeat(first|refine tR ?_|refine bR ?_)
 refine C5 J ?_ O
 rfl
def hasB (l : List T) (u : T) : Bool:=l.any fun x=>x.cmp u == 0
theorem R9 {fr tn s : List UInt8} (h : s≠tn) : swp tn fr (swp fr tn s)=s:=by
 unfold swp
 by_cases e : s=fr
 ·rw[if_pos e,if_pos J,e]
 ·rw[if_neg e,if_neg h]
theorem Nl (fr tn : List UInt8) : swp fr tn fr=tn:=by rw[swp,if_pos J]
theorem Vf {fr tn s : List UInt8} (h : s≠tn) : swp fr tn s=tn ↔ s=fr:=by
 unfold swp
 split
 ·rename_i e; simp [e]
 ·rename_i e; simp [e,h]
mutual
theorem Ie {fr tn : List UInt8} {K : List (List UInt8)} (hK : tn ∉ K) : ∀ t : T,knT K t=true→chT (swG tn fr) (chT (swG fr tn) t)=t
 | .mk k n s ks,h=>by
  rw[knT,Bool.and_eq_true] at h
  rw[chT,chT,Ju hK ks h.2]
  by_cases hk : k=2
  ·have hn : n ∈ K:=by
    have := h.1
    simp only [Bool.or_eq_true,decide_eq_true_eq] at this
    rcases this with q | q
    ·exact absurd hk q
    ·exact List.contains_iff_mem.1 q
   rw[if_pos hk,if_pos hk,if_pos hk,if_pos hk]
   have := R9 (fr := fr) (tn := tn) (s := n) fun e=>hK (e ▸ hn)
   show T.mk k (swp tn fr (swp fr tn n)) s ks=_
   rw[this]
  ·rw[if_neg hk,if_neg hk,if_neg hk,if_neg hk]
theorem Ju {fr tn : List UInt8} {K : List (List UInt8)} (hK : tn ∉ K) : ∀ l : List T,knTs K l=true→chTs (swG tn fr) (chTs (swG fr tn) l)=l
 | [],_=>by rw[chTs,chTs]
 | t :: ts,h=>by
  rw[knTs,Bool.and_eq_true] at h
  rw[chTs,chTs,Ie hK t h.1,Ju hK ts h.2]
end
theorem Ac {α : Type} {f : α→α} {l : List α} (h : ∀ x ∈ l,f x=x) : l.map f=l:=by
 induction l with
 | nil=>rfl
 | cons x l ih=>rw[List.map_cons,h x (by simp),ih fun y hy=>h y (by simp [hy])]
theorem Jv {R : List (List UInt8)} : ∀ (D : List (List UInt8 × Option (List UInt8))) (seen : List (List UInt8)),decA R seen D=0 → ∀ x ∈ D,∀ r,x.2=some r→r ∈ R
 | [],_,_,x,hx=>by cases hx
 | y :: r,seen,h,x,hx=>by
  rw[decA] at h
  split at h
  ·rename_i q; exact absurd h q
  ·rename_i q
   have q:=Decidable.not_not.1 q
   rcases List.mem_cons.1 hx with e | hx
   ·intro z hz
    subst e
    unfold dclE at q
    split at q
    ·cases q
    split at q
    ·cases q
    split at q
    ·cases q
    ·rw[hz] at q
     dsimp only at q
     split at q
     ·rename_i hc; exact List.contains_iff_mem.1 hc
     ·cases q
   ·exact Jv r _ h x hx
structure NmsOk (n : Nar) : Prop where
 fresh : ∀ f ∈ n.fresh,f.role ∈ n.roles
 steps : ∀ s ∈ n.steps,s.frm ∈ n.roles∧s.dst ∈ n.roles
 goals : ∀ g ∈ n.goals,g.role ∈ n.roles∧(g.wth ∈ n.roles∨g.wth=[])
theorem uAz {R : List (List UInt8)} {a b : List UInt8} (h : twoE R a b=0) : a ∈ R∧b ∈ R:=by
 unfold twoE at h
 split at h
 ·cases h
 ·rename_i q
  have q1 : ¬ R.contains a=false:=fun e=>q (.inl e)
  have q2 : ¬ R.contains b=false:=fun e=>q (.inr e)
  rw[Bool.not_eq_false] at q1 q2
  exact ⟨List.contains_iff_mem.1 q1,List.contains_iff_mem.1 q2⟩
theorem uCp {n : Nar} (h : (chkE D8 n).2=0) : NmsOk n:=by
 obtain ⟨c1,c2,c3⟩:=Up h
 have hok:=Mc c1
 have hu : (useE n).2=0:=by rw[c3]
 have hst : (lnE (Af n) Sp.line n.steps).2=0∧(lnE (Z7 n) Gl.line n.goals).2=0:=by
  unfold useE at hu
  split at hu
  ·rename_i q; exact absurd hu q
  ·rename_i q; exact ⟨Decidable.not_not.1 q,hu⟩
 refine ⟨fun f hf=>?_,fun s hs=>?_,fun g hg=>?_⟩
 ·refine Jv (dclL n) [] c2 (f.name,some f.role) ?_ _ J
  unfold dclL
  simp only [List.mem_append,List.mem_map]
  exact .inr (.inl ⟨f,hf,rfl⟩)
 ·have hz:=lnE_zero.1 hst.1 s hs
  unfold Af at hz
  split at hz
  ·rename_i q; exact absurd hz q
  ·rename_i q; exact uAz (Decidable.not_not.1 q)
 ·have hz:=lnE_zero.1 hst.2 g hg
  have hG:=hok.goals g hg
  unfold Z7 at hz
  split at hz
  ·cases hz
  rename_i q0
  rw[Bool.not_eq_false] at q0
  refine ⟨List.contains_iff_mem.1 q0,?_⟩
  split at hz
  ·rename_i q; exact absurd hz q.2
  ·rename_i q
   cases ha : I4 g.kind with
   | false=>exact .inr (hG.w0 ha)
   | true =>
    refine .inl (uAz (R:=n.roles) (a:=g.role) ?_).2;exact Decidable.not_not.1 fun z=>q ⟨ha,z⟩
theorem Gv (fr tn : List UInt8) (n : Nar) : K6 (rnN fr tn n)=(K6 n).map (swp fr tn):=by
 rw[X6,X6,List.map_append,List.map_append]
 simp only [rnN,List.map_map]
 rfl
theorem uCn (fr tn : List UInt8) (n : Nar) : nmsL (rnN fr tn n)=(nmsL n).map fun x=>(swp fr tn x.1,x.2):=by
 unfold nmsL
 simp only [rnN,List.map_append,List.map_map]
 rfl
theorem uA0 {n : Nar} (h : NarOk n) {k : List UInt8} (hk : k ∈ K6 n) : D8 k=true:=by
 rw[X6] at hk
 simp only [List.mem_append,List.mem_map] at hk
 rcases hk with q | ⟨f,hf,rfl⟩ | q
 ·exact h.roles k q
 ·exact (h.fresh f hf).2.1
 ·exact h.tags k q
theorem uBg {k : List UInt8} (h : D8 k=true) : k≠[]:=by
 intro e; subst e; cases h
structure Back (n : Nar) (fr tn : List UInt8) : Prop where
 ok : (chkE D8 n).2=0
 hf : fr ∈ K6 n
 ht : tn ∉ K6 n
 ok2 : (chkE D8 (rnN fr tn n)).2=0
theorem uBz {n : Nar} {fr tn : List UInt8} (h : (rnE n fr tn).2=0) : Back n fr tn∧rnE n fr tn=(rnN fr tn n,0):=by
 unfold rnE at h ⊢
 split at h
 ·rename_i q; exact absurd h q
 rename_i q1
 split at h
 ·cases h
 rename_i q2
 split at h
 ·cases h
 rename_i q3
 split at h
 ·rename_i q; exact absurd h q
 rename_i q4
 rw[if_neg q1,if_neg q2,if_neg q3,if_neg q4]
 refine ⟨⟨Decidable.not_not.1 q1,?_,fun hm=>q3 (List.contains_iff_mem.2 hm),Decidable.not_not.1 q4⟩,rfl⟩
 rw[Bool.not_eq_false] at q2
 exact List.contains_iff_mem.1 q2
variable {n : Nar} {fr tn : List UInt8}
theorem Back.tn_ne (h : Back n fr tn) : tn≠[]:=by
 refine uBg (uA0 (Lu h.ok2).nar ?_)
 rw[Gv]
 exact List.mem_map.2 ⟨fr,h.hf,Nl fr tn⟩
theorem Back.ne (h : Back n fr tn) {k : List UInt8} (hk : k ∈ K6 n) : k≠tn:=fun e=>h.ht (e ▸ hk)
theorem Back.role (h : Back n fr tn) {k : List UInt8} (hk : k ∈ n.roles) : k≠tn:=h.ne (Dc n k hk)
theorem Back.nar (h : Back n fr tn) : rnN tn fr (rnN fr tn n)=n:=by
 have hn:=uCp h.ok
 have hok:=Lu h.ok
 have e1 : (n.roles.map (swp fr tn)).map (swp tn fr)=n.roles:=by
  rw[List.map_map]; exact Ac fun r hr=>R9 (h.role hr)
 have e2 : (n.fresh.map (rnF fr tn)).map (rnF tn fr)=n.fresh:=by
  rw[List.map_map]
  refine Ac fun f hf=>?_
  have hk : f.name ∈ K6 n:=by rw[X6]; simp only [List.mem_append,List.mem_map]; exact .inr (.inl ⟨f,hf,rfl⟩)
  show (⟨swp tn fr (swp fr tn f.role),swp tn fr (swp fr tn f.name),f.sort⟩ : Fs)=f
  rw[R9 (h.role (hn.fresh f hf)),R9 (h.ne hk)]
 have e3 : (n.tags.map (swp fr tn)).map (swp tn fr)=n.tags:=by
  rw[List.map_map]
  refine Ac fun g hg=>R9 (h.ne ?_)
  rw[X6]; simp [hg]
 have e4 : (n.steps.map (rnS fr tn)).map (rnS tn fr)=n.steps:=by
  rw[List.map_map]
  refine Ac fun s hs=>?_
  obtain ⟨q1,q2⟩:=hn.steps s hs
  show (⟨swp tn fr (swp fr tn s.frm),swp tn fr (swp fr tn s.dst),chT (swG tn fr) (chT (swG fr tn) s.msg),s.line⟩ : Sp)=s
  rw[R9 (h.role q1),R9 (h.role q2),Ie h.ht s.msg (hok.msg s hs).1]
 have e5 : (n.goals.map (rnL fr tn)).map (rnL tn fr)=n.goals:=by
  rw[List.map_map]
  refine Ac fun g hg=>?_
  obtain ⟨q1,q2⟩:=hn.goals g hg
  have q3 : g.wth≠tn:=by
   rcases q2 with q | q
   ·exact h.role q
   ·rw[q]; exact fun e=>h.tn_ne e.symm
  show (⟨g.kind,swp tn fr (swp fr tn g.role),swp tn fr (swp fr tn g.wth),(g.data.map (chT (swG fr tn))).map (chT (swG tn fr)),g.line⟩ : Gl)=g
  have q4 : (g.data.map (chT (swG fr tn))).map (chT (swG tn fr))=g.data:=by
   rw[List.map_map]; exact Ac fun t ht=>Ie h.ht t (hok.dat g hg t ht).1
  rw[R9 (h.role q1),R9 q3,q4]
 unfold rnN
 dsimp only
 rw[e1,e2,e3,e4,e5]
theorem Back.rn (h : Back n fr tn) : rnE (rnN fr tn n) tn fr=(n,0):=by
 have h1 : (K6 (rnN fr tn n)).contains tn=true:=by
  rw[Gv]; exact List.contains_iff_mem.2 (List.mem_map.2 ⟨fr,h.hf,Nl fr tn⟩)
 have h2 : ¬ (K6 (rnN fr tn n)).contains fr=true:=by
  rw[Gv]
  intro q
  obtain ⟨k,hk,e⟩:=List.mem_map.1 (List.contains_iff_mem.1 q)
  unfold swp at e
  split at e
  ·exact h.ht (e ▸ h.hf)
  ·rename_i z; exact z e
 unfold rnE
 rw[if_neg (by rw[h.ok2]; simp),if_neg (by rw[h1]; simp),if_neg h2,h.nar,if_neg (by rw[h.ok]; simp)]
theorem uBy {l : List (List UInt8 × Int)} (hl : ∀ x ∈ l,x.1≠tn) : mapI (l.map fun x=>(swp fr tn x.1,x.2)) tn=mapI l fr:=by
 unfold mapI
 rw[← List.map_reverse,List.find?_map]
 have e : l.reverse.find? ((fun x : List UInt8 × Int=>decide (x.1=tn)) ∘ fun x=>(swp fr tn x.1,x.2))=l.reverse.find? fun x=>decide (x.1=fr):=by
  have hr : ∀ x ∈ l.reverse,x.1≠tn:=fun x hx=>hl x (by simpa using hx)
  generalize l.reverse=r at hr
  induction r with
  | nil=>rfl
  | cons x r ih =>
   have hx : ((fun x : List UInt8 × Int=>decide (x.1=tn)) ∘ fun x=>(swp fr tn x.1,x.2)) x=decide (x.1=fr):=by
    show decide (swp fr tn x.1=tn)=_
    rw[Bool.eq_iff_iff,decide_eq_true_iff,decide_eq_true_iff]
    exact Vf (hr x (by simp))
   rw[List.find?_cons,List.find?_cons,hx,ih fun y hy=>hr y (by simp [hy])]
 rw[e]
 cases l.reverse.find? fun x=>decide (x.1=fr) <;> rfl
theorem Back.sort (h : Back n fr tn) : ∃ v,Eu n fr=(v,0)∧Eu (rnN fr tn n) tn=(v,0):=by
 refine ⟨mapI (nmsL n) fr,?_,?_⟩
 ·rw[Eu,if_neg (by rw[h.ok]; simp),if_pos (List.contains_iff_mem.2 h.hf)]
 ·have h1 : (K6 (rnN fr tn n)).contains tn=true:=by
   rw[Gv]; exact List.contains_iff_mem.2 (List.mem_map.2 ⟨fr,h.hf,Nl fr tn⟩)
  rw[Eu,if_neg (by rw[h.ok2]; simp),if_pos h1,uCn,uBy fun x hx=>h.ne (List.mem_map.2 ⟨x,hx,rfl⟩)]
theorem uB6 {K : List (List UInt8)} (hK : tn ∉ K) : ∀ (m : Nat) (t : T),t.size≤m→knT K t=true→occT tn (chT (swG fr tn) t)=occT fr t:=by
 intro m
 induction m with
 | zero=>intro t h; have := t.size_pos; omega
 | succ m ih =>
  intro t ht hk
  rw[Me,Bool.and_eq_true] at hk
  have hkk:=List.all_eq_true.1 hk.2
  rw[Mr,Mr fr t,Sz]
  congr 1
  ·show (decide (t.kind=2) && decide ((if t.kind=2 then swp fr tn t.name else t.name)=tn))=_
   by_cases h2 : t.kind=2
   ·have hn : t.name ∈ K:=by
     have := hk.1
     simp only [Bool.or_eq_true,decide_eq_true_eq] at this
     rcases this with q | q
     ·exact absurd h2 q
     ·exact List.contains_iff_mem.1 q
    rw[if_pos h2]
    congr 1
    rw[Bool.eq_iff_iff,decide_eq_true_iff,decide_eq_true_iff]
    exact Vf fun e=>hK (e ▸ hn)
   ·rw[decide_eq_false h2]; rfl
  ·show (t.kids.map (chT (swG fr tn))).any (occT tn)=_
   rw[List.any_map]
   exact Ff fun x hx=>by
    have := O1 hx
    exact ih x (by omega) (hkk x hx)
theorem Un {K : List (List UInt8)} (hK : tn ∉ K) : ∀ (l : List Sp) (i : Nat),(∀ s ∈ l,knT K s.msg=true)→V9 tn i (l.map (rnS fr tn))=V9 fr i l
 | [],_,_=>rfl
 | x :: r,i,h=>by
  rw[List.map_cons,V9,V9,Un hK r (i + 1) fun s hs=>h s (by simp [hs])]
  have : occT tn (rnS fr tn x).msg=occT fr x.msg:=uB6 hK _ x.msg (Nat.le_refl _) (h x (by simp))
  rw[this]
theorem Back.uses (h : Back n fr tn) : Gj (rnN fr tn n) tn=Gj n fr:=by
 rw[Gj,Gj,if_neg (by rw[h.ok2]; simp),if_neg (by rw[h.ok]; simp)]
 exact Un h.ht n.steps 0 fun s hs=>((Lu h.ok).msg s hs).1
end Go.Proofs.YteidahabkfgfjaaGreat
namespace Go.Proofs.YteidahabkfgfjaaGreat
open Go Go.Abs
abbrev eP (k off : Nat) : Nat × Bool × X:=(k,true, .v (.ptr (.l 2) off))
abbrev eS (k sz : Nat) (es : List (List C)) : Nat × Bool × X:=(k,true, .v (.c (.sl sz es)))
abbrev eK (k : Nat) (u : Value) (L : Nat) : Nat × Bool × X:=(k,true, .kn true [.o u] [(0, .l k,L)])
abbrev stA (fv : Value) (fr tn : List UInt8) (ts : List (Nat × Bool × X)) (c2 : List C) (bs : List (Nm × List C)) : St :=
 {t:=(1,true, .fn 67 [.ptr (.o 0) 0]) :: (2,true, .v (.ptr (.l 2) 0)) :: (4,true, .v (.ptr (.l 4) 0)) :: ts,bx:=(.l 2,c2) :: (.l 4,[.s [], .sl 1 [], .sl 3 [], .sl 1 [], .sl 7 [], .sl 5 []]) :: (.o 0,[.o fv]) :: (.o 1,[.s fr]) :: (.o 2,[.s tn]) :: bs,ow:=[] }
abbrev stB (n : Nar) (fv : Value) (fr tn : List UInt8) (u1 u2 u3 : Value) (ts : List (Nat × Bool × X)) (c2 : List C) (bs : List (Nm × List C)) : St :=
 stA fv fr tn (eK 11 u1 n.roles.length :: eK 14 u2 n.fresh.length :: eK 17 u3 n.tags.length :: ts) c2 ((.l 11,(strR n.roles).flatten) :: (.l 14,(Fs.rows n.fresh).flatten) :: (.l 17,(strR n.tags).flatten) :: bs)
abbrev V5:=Value × Value × Value × Value × Value
abbrev allR (n : Nar) (q : Nat) (x : V5) : X:=.kn false [.s n.name, .o x.1, .o x.2.1, .o x.2.2.1, .o x.2.2.2.1, .o x.2.2.2.2] [(1, .l (q + 11),n.roles.length),(2, .l (q + 14),n.fresh.length),(3, .l (q + 17),n.tags.length),(4, .l (q + 23),n.steps.length),(5, .l (q + 26),n.goals.length)]
abbrev allB (n : Nar) (fr tn : List UInt8) : List (Nat × List C):=[(11,(strR n.roles).flatten),(14,(Fs.rows n.fresh).flatten),(17,(strR n.tags).flatten),(23,(Sp.rows (n.steps.map (chS (swG fr tn)))).flatten),(26,(Gl.rows (n.goals.map (chL (swG fr tn)))).flatten)]
set_option maxHeartbeats 8000000 in
theorem Ye (n : Nar) (fv : Value) (fr tn : List UInt8) (hr : n.roles.length≤100) (hf : n.fresh.length≤100) (ht : n.tags.length≤100) (hs : n.steps.length≤100) (hg : n.goals.length≤100) (hs0 : n.steps≠[])
  (hm : ∀ s ∈ n.steps,gdB s.msg=true∧s.msg.size≤900000) (hd : ∀ g ∈ n.goals,g.data≠[]∧g.data.length≤100 ∧ ∀ t ∈ g.data,gdB t=true∧t.size≤900000) :
  CtrE (zK fv 1 2) 56 [xn n, .fn 67 [.ptr (.o 0) 0]] [[.o fv],[.s fr],[.s tn]] (allR n 0) [[.o fv],[.s fr],[.s tn]] (allB n fr tn):=by
 have cs1:=Qj n.roles (by omega) 11
 have cs2:=Za n.fresh (by omega) 14
 have cs3:=Qj n.tags (by omega) 17
 have cs4:=Xa n.steps (by omega) hs0 23
 have cs5:=Vw n.goals (by omega) 26
 have hfs:=Ga n.steps
 have hfg:=Gi n.goals
 refine Y5 Tryz.func56 J J J J J ?_;refine A8 (A6 ?_);refine C3 J (E2 J J J J) ?_;refine C3 J (D7 J J J) ?_;refine B0 ?_;refine Li (fun x : Value × Value × Value=>stA fv fr tn [eK 11 x.1 n.roles.length,eK 14 x.2.1 n.fresh.length,eK 17 x.2.2 n.tags.length] [.s n.name, .o x.1, .o x.2.1, .o x.2.2, .sl 7 (Sp.rows n.steps), .sl 5 (Gl.rows n.goals)] [(.l 11,(strR n.roles).flatten),(.l 14,(Fs.rows n.fresh).flatten),(.l 17,(strR n.tags).flatten)]) (fun x=>?_) ?_
 rotate_left
 ·refine G9 5 #[true,true,true,true,true,true,true,true,true,true,false,false,false,false,false] (fun x : Value × Value × Value=>stA fv fr tn [eK 11 x.1 n.roles.length,eK 14 x.2.1 n.fresh.length,eK 17 x.2.2 n.tags.length,eP 18 1] n.cells [(.l 11,(strR n.roles).flatten),(.l 14,(Fs.rows n.fresh).flatten),(.l 17,(strR n.tags).flatten)]) (fun x=>?_) (fun g1023=>?_)
  ·obtain ⟨u1,u2,u3⟩:=x
   try dsimp only
   refine E6 10 [] (by kernel_rfl) ⟨⟨_,rfl,?_⟩,O⟩;refine C3 J (Q8 J J J J J J) (B0 ?_);refine E6 11 [] (by kernel_rfl) ⟨⟨_,rfl,?_⟩,O⟩;refine A5 J J J (B1 J gU J J) (B0 ?_);refine E6 12 [] (by kernel_rfl) ⟨⟨_,rfl,?_⟩,O⟩;refine C3 J (Q8 J J J J J J) (B0 ?_);refine E6 13 [] (by kernel_rfl) ⟨⟨_,rfl,?_⟩,O⟩;refine A5 J J J (B1 J gU J J) (B0 ?_);refine E6 14 [] (by kernel_rfl) ⟨⟨_,rfl,?_⟩,O⟩;refine C3 J (Q8 J J J J J J) (B0 ?_);exact Cp (by kernel_rfl) ⟨(u1,u2,u3),B3 ⟨U J,U J,U J,U J,U J,U J,O⟩ ⟨U J,U J,U J,U J,U J,U J,U J,U J,O⟩ O⟩
  refine G9 6 #[true,true,true,true,true,true,true,true,false,true,false,false,false,false,false] (fun x : Value × Value × Value=>stA fv fr tn [eK 11 x.1 n.roles.length,eK 14 x.2.1 n.fresh.length,eS 16 1 (strR n.tags),eP 18 1] n.cells [(.l 11,(strR n.roles).flatten),(.l 14,(Fs.rows n.fresh).flatten)]) (fun x=>?_) (fun g767=>?_)
  ·obtain ⟨u1,u2,u3⟩:=x
   try dsimp only
   refine E6 8 [] (by kernel_rfl) ⟨⟨_,rfl,?_⟩,O⟩;refine I9 (Z':=sys) 0 [] true (fun u=>[.o u]) [(0,17,n.tags.length)] J J J J J J J J (fun p hp=>by cases hp) rfl cs3 (fun _=>rfl) rfl (by simp) rfl rfl rfl (fun _ _ _ _ _ _=>O) (fun u3=>(B0 ?_));exact g1023 (u1,u2,u3) (by kernel_rfl) (B3 ⟨U J,U J,U J,U J,U J,U J,U J,O⟩ ⟨U J,U J,U J,U J,U J,U J,U J,U J,O⟩ O)
  refine G9 7 #[true,true,true,true,true,true,true,true,false,false,false,false,false,false,false] (fun x : Value × Value × Value=>stA fv fr tn [eK 11 x.1 n.roles.length,eK 14 x.2.1 n.fresh.length,eS 16 1 (strR n.tags)] n.cells [(.l 11,(strR n.roles).flatten),(.l 14,(Fs.rows n.fresh).flatten)]) (fun x=>?_) (fun g255=>?_)
  ·obtain ⟨u1,u2,u3⟩:=x
   try dsimp only
   refine E6 8 [9] (by kernel_rfl) ⟨⟨_,rfl,?_⟩,⟨_,rfl,?_⟩,O⟩
   ·refine I9 (Z':=sys) 0 [] true (fun u=>[.o u]) [(0,17,n.tags.length)] J J J J J J J J (fun p hp=>by cases hp) rfl cs3 (fun _=>rfl) rfl (by simp) rfl rfl rfl (fun _ _ _ _ _ _=>O) (fun u3=>(B0 ?_))
    refine E6 9 [] (by kernel_rfl) ⟨⟨_,rfl,?_⟩,O⟩;refine A5 J J J (B1 J gU J J) (B0 ?_);exact g1023 (u1,u2,u3) (by kernel_rfl) (B3 ⟨U J,U J,U J,U J,U J,U J,U J,O⟩ ⟨U J,U J,U J,U J,U J,U J,U J,U J,O⟩ O)
   ·refine A5 J J J (B1 J gU J J) (B0 ?_)
    exact g767 (u1,u2,undef) (by kernel_rfl) (B3 ⟨U J,U J,U J,U J,U J,U J,U J,O⟩ ⟨U J,U J,U J,U J,U J,U J,U J,O⟩ O)
  refine G9 8 #[true,true,true,true,true,true,true,false,false,false,false,false,false,false,false] (fun x : Value × Value × Value=>stA fv fr tn [eK 11 x.1 n.roles.length,eK 14 x.2.1 n.fresh.length,eP 15 3] n.cells [(.l 11,(strR n.roles).flatten),(.l 14,(Fs.rows n.fresh).flatten)]) (fun x=>?_) (fun g127=>?_)
  ·obtain ⟨u1,u2,u3⟩:=x
   try dsimp only
   refine E6 7 [] (by kernel_rfl) ⟨⟨_,rfl,?_⟩,O⟩;refine A5 J J J (B2 J gU J J J J) (B0 ?_);exact g255 (u1,u2,undef) (by kernel_rfl) (B3 ⟨U J,U J,U J,U J,U J,U J,O⟩ ⟨U J,U J,U J,U J,U J,U J,U J,O⟩ O)
  refine G9 8 #[true,true,true,true,true,false,true,true,false,false,false,false,false,false,false] (fun x : Value × Value × Value=>stA fv fr tn [eK 11 x.1 n.roles.length,eS 13 3 (Fs.rows n.fresh),eS 16 1 (strR n.tags)] n.cells [(.l 11,(strR n.roles).flatten)]) (fun x=>?_) (fun g223=>?_)
  ·obtain ⟨u1,u2,u3⟩:=x
   try dsimp only
   refine E6 5 [9] (by kernel_rfl) ⟨⟨_,rfl,?_⟩,⟨_,rfl,?_⟩,O⟩
   ·refine I9 (Z':=sys) 0 [] true (fun u=>[.o u]) [(0,14,n.fresh.length)] J J J J J J J J (fun p hp=>by cases hp) rfl cs2 (fun _=>rfl) rfl (by simp) rfl rfl rfl (fun _ _ _ _ _ _=>O) (fun u2=>(B0 ?_))
    exact g255 (u1,u2,undef) (by kernel_rfl) (B3 ⟨U J,U J,U J,U J,U J,U J,O⟩ ⟨U J,U J,U J,U J,U J,U J,U J,O⟩ O)
   ·refine A5 J J J (B1 J gU J J) (B0 ?_)
    refine E6 5 [] (by kernel_rfl) ⟨⟨_,rfl,?_⟩,O⟩;refine I9 (Z':=sys) 0 [] true (fun u=>[.o u]) [(0,14,n.fresh.length)] J J J J J J J J (fun p hp=>by cases hp) rfl cs2 (fun _=>rfl) rfl (by simp) rfl rfl rfl (fun _ _ _ _ _ _=>O) (fun u2=>(B0 ?_));exact g767 (u1,u2,undef) (by kernel_rfl) (B3 ⟨U J,U J,U J,U J,U J,U J,U J,O⟩ ⟨U J,U J,U J,U J,U J,U J,U J,O⟩ O)
  refine G9 9 #[true,true,true,true,true,false,true,false,false,false,false,false,false,false,false] (fun x : Value × Value × Value=>stA fv fr tn [eK 11 x.1 n.roles.length,eS 13 3 (Fs.rows n.fresh),eP 15 3] n.cells [(.l 11,(strR n.roles).flatten)]) (fun x=>?_) (fun g95=>?_)
  ·obtain ⟨u1,u2,u3⟩:=x
   try dsimp only
   refine E6 5 [7] (by kernel_rfl) ⟨⟨_,rfl,?_⟩,⟨_,rfl,?_⟩,O⟩
   ·refine I9 (Z':=sys) 0 [] true (fun u=>[.o u]) [(0,14,n.fresh.length)] J J J J J J J J (fun p hp=>by cases hp) rfl cs2 (fun _=>rfl) rfl (by simp) rfl rfl rfl (fun _ _ _ _ _ _=>O) (fun u2=>(B0 ?_))
    exact g127 (u1,u2,undef) (by kernel_rfl) (B3 ⟨U J,U J,U J,U J,U J,U J,O⟩ ⟨U J,U J,U J,U J,U J,U J,U J,O⟩ O)
   ·refine A5 J J J (B2 J gU J J J J) (B0 ?_)
    exact g223 (u1,undef,undef) (by kernel_rfl) (B3 ⟨U J,U J,U J,U J,U J,U J,O⟩ ⟨U J,U J,U J,U J,U J,U J,O⟩ O)
  refine G9 9 #[true,true,true,true,false,false,true,true,false,false,false,false,false,false,false] (fun x : Value × Value × Value=>stA fv fr tn [eK 11 x.1 n.roles.length,eP 12 2,eS 16 1 (strR n.tags)] n.cells [(.l 11,(strR n.roles).flatten)]) (fun x=>?_) (fun g207=>?_)
  ·obtain ⟨u1,u2,u3⟩:=x
   try dsimp only
   refine E6 4 [] (by kernel_rfl) ⟨⟨_,rfl,?_⟩,O⟩;refine A5 J J J (B2 J gU J J J J) (B0 ?_);exact g223 (u1,undef,undef) (by kernel_rfl) (B3 ⟨U J,U J,U J,U J,U J,U J,O⟩ ⟨U J,U J,U J,U J,U J,U J,O⟩ O)
  refine G9 9 #[true,true,false,true,true,false,true,true,false,false,false,false,false,false,false] (fun x : Value × Value × Value=>stA fv fr tn [eS 10 1 (strR n.roles),eS 13 3 (Fs.rows n.fresh),eS 16 1 (strR n.tags)] n.cells []) (fun x=>?_) (fun g219=>?_)
  ·obtain ⟨u1,u2,u3⟩:=x
   try dsimp only
   refine E6 2 [] (by kernel_rfl) ⟨⟨_,rfl,?_⟩,O⟩;refine I9 (Z':=sys) 0 [] true (fun u=>[.o u]) [(0,11,n.roles.length)] J J J J J J J J (fun p hp=>by cases hp) rfl cs1 (fun _=>rfl) rfl (by simp) rfl rfl rfl (fun _ _ _ _ _ _=>O) (fun u1=>(B0 ?_));exact g223 (u1,undef,undef) (by kernel_rfl) (B3 ⟨U J,U J,U J,U J,U J,U J,O⟩ ⟨U J,U J,U J,U J,U J,U J,O⟩ O)
  refine G9 10 #[true,true,true,true,true,false,false,false,false,false,false,false,false,false,false] (fun x : Value × Value × Value=>stA fv fr tn [eK 11 x.1 n.roles.length,eS 13 3 (Fs.rows n.fresh)] n.cells [(.l 11,(strR n.roles).flatten)]) (fun x=>?_) (fun g31=>?_)
  ·obtain ⟨u1,u2,u3⟩:=x
   try dsimp only
   refine E6 5 [6] (by kernel_rfl) ⟨⟨_,rfl,?_⟩,⟨_,rfl,?_⟩,O⟩
   ·refine I9 (Z':=sys) 0 [] true (fun u=>[.o u]) [(0,14,n.fresh.length)] J J J J J J J J (fun p hp=>by cases hp) rfl cs2 (fun _=>rfl) rfl (by simp) rfl rfl rfl (fun _ _ _ _ _ _=>O) (fun u2=>(B0 ?_))
    refine E6 6 [] (by kernel_rfl) ⟨⟨_,rfl,?_⟩,O⟩;refine A5 J J J (B1 J gU J J) (B0 ?_);exact g127 (u1,u2,undef) (by kernel_rfl) (B3 ⟨U J,U J,U J,U J,U J,U J,O⟩ ⟨U J,U J,U J,U J,U J,U J,U J,O⟩ O)
   ·refine A5 J J J (B1 J gU J J) (B0 ?_)
    exact g95 (u1,undef,undef) (by kernel_rfl) (B3 ⟨U J,U J,U J,U J,U J,U J,O⟩ ⟨U J,U J,U J,U J,U J,U J,O⟩ O)
  refine G9 10 #[true,true,true,true,false,false,true,false,false,false,false,false,false,false,false] (fun x : Value × Value × Value=>stA fv fr tn [eK 11 x.1 n.roles.length,eP 12 2,eP 15 3] n.cells [(.l 11,(strR n.roles).flatten)]) (fun x=>?_) (fun g79=>?_)
  ·obtain ⟨u1,u2,u3⟩:=x
   try dsimp only
   refine E6 4 [7] (by kernel_rfl) ⟨⟨_,rfl,?_⟩,⟨_,rfl,?_⟩,O⟩
   ·refine A5 J J J (B2 J gU J J J J) (B0 ?_)
    exact g95 (u1,undef,undef) (by kernel_rfl) (B3 ⟨U J,U J,U J,U J,U J,U J,O⟩ ⟨U J,U J,U J,U J,U J,U J,O⟩ O)
   ·refine A5 J J J (B2 J gU J J J J) (B0 ?_)
    exact g207 (u1,undef,undef) (by kernel_rfl) (B3 ⟨U J,U J,U J,U J,U J,U J,O⟩ ⟨U J,U J,U J,U J,U J,U J,O⟩ O)
  refine G9 10 #[true,true,false,true,true,false,true,false,false,false,false,false,false,false,false] (fun x : Value × Value × Value=>stA fv fr tn [eS 10 1 (strR n.roles),eS 13 3 (Fs.rows n.fresh),eP 15 3] n.cells []) (fun x=>?_) (fun g91=>?_)
  ·obtain ⟨u1,u2,u3⟩:=x
   try dsimp only
   refine E6 2 [7] (by kernel_rfl) ⟨⟨_,rfl,?_⟩,⟨_,rfl,?_⟩,O⟩
   ·refine I9 (Z':=sys) 0 [] true (fun u=>[.o u]) [(0,11,n.roles.length)] J J J J J J J J (fun p hp=>by cases hp) rfl cs1 (fun _=>rfl) rfl (by simp) rfl rfl rfl (fun _ _ _ _ _ _=>O) (fun u1=>(B0 ?_))
    exact g95 (u1,undef,undef) (by kernel_rfl) (B3 ⟨U J,U J,U J,U J,U J,U J,O⟩ ⟨U J,U J,U J,U J,U J,U J,O⟩ O)
   ·refine A5 J J J (B2 J gU J J J J) (B0 ?_)
    exact g219 (undef,undef,undef) (by kernel_rfl) (B3 ⟨U J,U J,U J,U J,U J,U J,O⟩ ⟨U J,U J,U J,U J,U J,O⟩ O)
  refine G9 10 #[true,true,true,false,false,false,true,true,false,false,false,false,false,false,false] (fun x : Value × Value × Value=>stA fv fr tn [eK 11 x.1 n.roles.length,eS 16 1 (strR n.tags)] n.cells [(.l 11,(strR n.roles).flatten)]) (fun x=>?_) (fun g199=>?_)
  ·obtain ⟨u1,u2,u3⟩:=x
   try dsimp only
   refine E6 3 [] (by kernel_rfl) ⟨⟨_,rfl,?_⟩,O⟩;refine A5 J J J (B1 J gU J J) (B0 ?_);exact g207 (u1,undef,undef) (by kernel_rfl) (B3 ⟨U J,U J,U J,U J,U J,U J,O⟩ ⟨U J,U J,U J,U J,U J,U J,O⟩ O)
  refine G9 10 #[true,true,false,true,false,false,true,true,false,false,false,false,false,false,false] (fun x : Value × Value × Value=>stA fv fr tn [eS 10 1 (strR n.roles),eP 12 2,eS 16 1 (strR n.tags)] n.cells []) (fun x=>?_) (fun g203=>?_)
  ·obtain ⟨u1,u2,u3⟩:=x
   try dsimp only
   refine E6 2 [4] (by kernel_rfl) ⟨⟨_,rfl,?_⟩,⟨_,rfl,?_⟩,O⟩
   ·refine I9 (Z':=sys) 0 [] true (fun u=>[.o u]) [(0,11,n.roles.length)] J J J J J J J J (fun p hp=>by cases hp) rfl cs1 (fun _=>rfl) rfl (by simp) rfl rfl rfl (fun _ _ _ _ _ _=>O) (fun u1=>(B0 ?_))
    exact g207 (u1,undef,undef) (by kernel_rfl) (B3 ⟨U J,U J,U J,U J,U J,U J,O⟩ ⟨U J,U J,U J,U J,U J,U J,O⟩ O)
   ·refine A5 J J J (B2 J gU J J J J) (B0 ?_)
    exact g219 (undef,undef,undef) (by kernel_rfl) (B3 ⟨U J,U J,U J,U J,U J,U J,O⟩ ⟨U J,U J,U J,U J,U J,O⟩ O)
  refine G9 10 #[true,false,false,true,true,false,true,true,false,false,false,false,false,false,false] (fun x : Value × Value × Value=>stA fv fr tn [eP 9 1,eS 13 3 (Fs.rows n.fresh),eS 16 1 (strR n.tags)] n.cells []) (fun x=>?_) (fun g217=>?_)
  ·obtain ⟨u1,u2,u3⟩:=x
   try dsimp only
   refine E6 1 [] (by kernel_rfl) ⟨⟨_,rfl,?_⟩,O⟩;refine A5 J J J (B2 J gU J J J J) (B0 ?_);exact g219 (undef,undef,undef) (by kernel_rfl) (B3 ⟨U J,U J,U J,U J,U J,U J,O⟩ ⟨U J,U J,U J,U J,U J,O⟩ O)
  refine G9 11 #[true,true,true,true,false,false,false,false,false,false,false,false,false,false,false] (fun x : Value × Value × Value=>stA fv fr tn [eK 11 x.1 n.roles.length,eP 12 2] n.cells [(.l 11,(strR n.roles).flatten)]) (fun x=>?_) (fun g15=>?_)
  ·obtain ⟨u1,u2,u3⟩:=x
   try dsimp only
   refine E6 4 [6] (by kernel_rfl) ⟨⟨_,rfl,?_⟩,⟨_,rfl,?_⟩,O⟩
   ·refine A5 J J J (B2 J gU J J J J) (B0 ?_)
    exact g31 (u1,undef,undef) (by kernel_rfl) (B3 ⟨U J,U J,U J,U J,U J,O⟩ ⟨U J,U J,U J,U J,U J,U J,O⟩ O)
   ·refine A5 J J J (B1 J gU J J) (B0 ?_)
    exact g79 (u1,undef,undef) (by kernel_rfl) (B3 ⟨U J,U J,U J,U J,U J,U J,O⟩ ⟨U J,U J,U J,U J,U J,U J,O⟩ O)
  refine G9 11 #[true,true,false,true,true,false,false,false,false,false,false,false,false,false,false] (fun x : Value × Value × Value=>stA fv fr tn [eS 10 1 (strR n.roles),eS 13 3 (Fs.rows n.fresh)] n.cells []) (fun x=>?_) (fun g27=>?_)
  ·obtain ⟨u1,u2,u3⟩:=x
   try dsimp only
   refine E6 2 [6] (by kernel_rfl) ⟨⟨_,rfl,?_⟩,⟨_,rfl,?_⟩,O⟩
   ·refine I9 (Z':=sys) 0 [] true (fun u=>[.o u]) [(0,11,n.roles.length)] J J J J J J J J (fun p hp=>by cases hp) rfl cs1 (fun _=>rfl) rfl (by simp) rfl rfl rfl (fun _ _ _ _ _ _=>O) (fun u1=>(B0 ?_))
    exact g31 (u1,undef,undef) (by kernel_rfl) (B3 ⟨U J,U J,U J,U J,U J,O⟩ ⟨U J,U J,U J,U J,U J,U J,O⟩ O)
   ·refine A5 J J J (B1 J gU J J) (B0 ?_)
    exact g91 (undef,undef,undef) (by kernel_rfl) (B3 ⟨U J,U J,U J,U J,U J,U J,O⟩ ⟨U J,U J,U J,U J,U J,O⟩ O)
  refine G9 11 #[true,true,true,false,false,false,true,false,false,false,false,false,false,false,false] (fun x : Value × Value × Value=>stA fv fr tn [eK 11 x.1 n.roles.length,eP 15 3] n.cells [(.l 11,(strR n.roles).flatten)]) (fun x=>?_) (fun g71=>?_)
  ·obtain ⟨u1,u2,u3⟩:=x
   try dsimp only
   refine E6 3 [7] (by kernel_rfl) ⟨⟨_,rfl,?_⟩,⟨_,rfl,?_⟩,O⟩
   ·refine A5 J J J (B1 J gU J J) (B0 ?_)
    exact g79 (u1,undef,undef) (by kernel_rfl) (B3 ⟨U J,U J,U J,U J,U J,U J,O⟩ ⟨U J,U J,U J,U J,U J,U J,O⟩ O)
   ·refine A5 J J J (B2 J gU J J J J) (B0 ?_)
    exact g199 (u1,undef,undef) (by kernel_rfl) (B3 ⟨U J,U J,U J,U J,U J,O⟩ ⟨U J,U J,U J,U J,U J,U J,O⟩ O)
  refine G9 11 #[true,true,false,true,false,false,true,false,false,false,false,false,false,false,false] (fun x : Value × Value × Value=>stA fv fr tn [eS 10 1 (strR n.roles),eP 12 2,eP 15 3] n.cells []) (fun x=>?_) (fun g75=>?_)
  ·obtain ⟨u1,u2,u3⟩:=x
   try dsimp only
   refine E6 2 [4,7] (by kernel_rfl) ⟨⟨_,rfl,?_⟩,⟨_,rfl,?_⟩,⟨_,rfl,?_⟩,O⟩
   ·refine I9 (Z':=sys) 0 [] true (fun u=>[.o u]) [(0,11,n.roles.length)] J J J J J J J J (fun p hp=>by cases hp) rfl cs1 (fun _=>rfl) rfl (by simp) rfl rfl rfl (fun _ _ _ _ _ _=>O) (fun u1=>(B0 ?_))
    exact g79 (u1,undef,undef) (by kernel_rfl) (B3 ⟨U J,U J,U J,U J,U J,U J,O⟩ ⟨U J,U J,U J,U J,U J,U J,O⟩ O)
   ·refine A5 J J J (B2 J gU J J J J) (B0 ?_)
    exact g91 (undef,undef,undef) (by kernel_rfl) (B3 ⟨U J,U J,U J,U J,U J,U J,O⟩ ⟨U J,U J,U J,U J,U J,O⟩ O)
   ·refine A5 J J J (B2 J gU J J J J) (B0 ?_)
    exact g203 (undef,undef,undef) (by kernel_rfl) (B3 ⟨U J,U J,U J,U J,U J,U J,O⟩ ⟨U J,U J,U J,U J,U J,O⟩ O)
  refine G9 11 #[true,false,false,true,true,false,true,false,false,false,false,false,false,false,false] (fun x : Value × Value × Value=>stA fv fr tn [eP 9 1,eS 13 3 (Fs.rows n.fresh),eP 15 3] n.cells []) (fun x=>?_) (fun g89=>?_)
  ·obtain ⟨u1,u2,u3⟩:=x
   try dsimp only
   refine E6 1 [7] (by kernel_rfl) ⟨⟨_,rfl,?_⟩,⟨_,rfl,?_⟩,O⟩
   ·refine A5 J J J (B2 J gU J J J J) (B0 ?_)
    exact g91 (undef,undef,undef) (by kernel_rfl) (B3 ⟨U J,U J,U J,U J,U J,U J,O⟩ ⟨U J,U J,U J,U J,U J,O⟩ O)
   ·refine A5 J J J (B2 J gU J J J J) (B0 ?_)
    exact g217 (undef,undef,undef) (by kernel_rfl) (B3 ⟨U J,U J,U J,U J,U J,U J,O⟩ ⟨U J,U J,U J,U J,U J,O⟩ O)
  refine G9 11 #[true,true,false,false,false,false,true,true,false,false,false,false,false,false,false] (fun x : Value × Value × Value=>stA fv fr tn [eS 10 1 (strR n.roles),eS 16 1 (strR n.tags)] n.cells []) (fun x=>?_) (fun g195=>?_)
  ·obtain ⟨u1,u2,u3⟩:=x
   try dsimp only
   refine E6 2 [3] (by kernel_rfl) ⟨⟨_,rfl,?_⟩,⟨_,rfl,?_⟩,O⟩
   ·refine I9 (Z':=sys) 0 [] true (fun u=>[.o u]) [(0,11,n.roles.length)] J J J J J J J J (fun p hp=>by cases hp) rfl cs1 (fun _=>rfl) rfl (by simp) rfl rfl rfl (fun _ _ _ _ _ _=>O) (fun u1=>(B0 ?_))
    exact g199 (u1,undef,undef) (by kernel_rfl) (B3 ⟨U J,U J,U J,U J,U J,O⟩ ⟨U J,U J,U J,U J,U J,U J,O⟩ O)
   ·refine A5 J J J (B1 J gU J J) (B0 ?_)
    exact g203 (undef,undef,undef) (by kernel_rfl) (B3 ⟨U J,U J,U J,U J,U J,U J,O⟩ ⟨U J,U J,U J,U J,U J,O⟩ O)
  refine G9 11 #[true,false,false,true,false,false,true,true,false,false,false,false,false,false,false] (fun x : Value × Value × Value=>stA fv fr tn [eP 9 1,eP 12 2,eS 16 1 (strR n.tags)] n.cells []) (fun x=>?_) (fun g201=>?_)
  ·obtain ⟨u1,u2,u3⟩:=x
   try dsimp only
   refine E6 1 [4] (by kernel_rfl) ⟨⟨_,rfl,?_⟩,⟨_,rfl,?_⟩,O⟩
   ·refine A5 J J J (B2 J gU J J J J) (B0 ?_)
    exact g203 (undef,undef,undef) (by kernel_rfl) (B3 ⟨U J,U J,U J,U J,U J,U J,O⟩ ⟨U J,U J,U J,U J,U J,O⟩ O)
   ·refine A5 J J J (B2 J gU J J J J) (B0 ?_)
    exact g217 (undef,undef,undef) (by kernel_rfl) (B3 ⟨U J,U J,U J,U J,U J,U J,O⟩ ⟨U J,U J,U J,U J,U J,O⟩ O)
  refine G9 11 #[false,false,false,true,true,false,true,true,false,false,false,false,false,false,false] (fun x : Value × Value × Value=>stA fv fr tn [eS 13 3 (Fs.rows n.fresh),eS 16 1 (strR n.tags)] n.cells []) (fun x=>?_) (fun g216=>?_)
  ·obtain ⟨u1,u2,u3⟩:=x
   try dsimp only
   refine E6 0 [] (by kernel_rfl) ⟨⟨_,rfl,?_⟩,O⟩;refine A5 J J J (B1 J gU J J) (B0 ?_);exact g217 (undef,undef,undef) (by kernel_rfl) (B3 ⟨U J,U J,U J,U J,U J,U J,O⟩ ⟨U J,U J,U J,U J,U J,O⟩ O)
  refine G9 12 #[true,true,false,true,false,false,false,false,false,false,false,false,false,false,false] (fun x : Value × Value × Value=>stA fv fr tn [eS 10 1 (strR n.roles),eP 12 2] n.cells []) (fun x=>?_) (fun g11=>?_)
  ·obtain ⟨u1,u2,u3⟩:=x
   try dsimp only
   refine E6 2 [4,6] (by kernel_rfl) ⟨⟨_,rfl,?_⟩,⟨_,rfl,?_⟩,⟨_,rfl,?_⟩,O⟩
   ·refine I9 (Z':=sys) 0 [] true (fun u=>[.o u]) [(0,11,n.roles.length)] J J J J J J J J (fun p hp=>by cases hp) rfl cs1 (fun _=>rfl) rfl (by simp) rfl rfl rfl (fun _ _ _ _ _ _=>O) (fun u1=>(B0 ?_))
    exact g15 (u1,undef,undef) (by kernel_rfl) (B3 ⟨U J,U J,U J,U J,U J,O⟩ ⟨U J,U J,U J,U J,U J,U J,O⟩ O)
   ·refine A5 J J J (B2 J gU J J J J) (B0 ?_)
    exact g27 (undef,undef,undef) (by kernel_rfl) (B3 ⟨U J,U J,U J,U J,U J,O⟩ ⟨U J,U J,U J,U J,U J,O⟩ O)
   ·refine A5 J J J (B1 J gU J J) (B0 ?_)
    exact g75 (undef,undef,undef) (by kernel_rfl) (B3 ⟨U J,U J,U J,U J,U J,U J,O⟩ ⟨U J,U J,U J,U J,U J,O⟩ O)
  refine G9 12 #[true,false,false,true,true,false,false,false,false,false,false,false,false,false,false] (fun x : Value × Value × Value=>stA fv fr tn [eP 9 1,eS 13 3 (Fs.rows n.fresh)] n.cells []) (fun x=>?_) (fun g25=>?_)
  ·obtain ⟨u1,u2,u3⟩:=x
   try dsimp only
   refine E6 1 [6] (by kernel_rfl) ⟨⟨_,rfl,?_⟩,⟨_,rfl,?_⟩,O⟩
   ·refine A5 J J J (B2 J gU J J J J) (B0 ?_)
    exact g27 (undef,undef,undef) (by kernel_rfl) (B3 ⟨U J,U J,U J,U J,U J,O⟩ ⟨U J,U J,U J,U J,U J,O⟩ O)
   ·refine A5 J J J (B1 J gU J J) (B0 ?_)
    exact g89 (undef,undef,undef) (by kernel_rfl) (B3 ⟨U J,U J,U J,U J,U J,U J,O⟩ ⟨U J,U J,U J,U J,U J,O⟩ O)
  refine G9 12 #[true,true,false,false,false,false,true,false,false,false,false,false,false,false,false] (fun x : Value × Value × Value=>stA fv fr tn [eS 10 1 (strR n.roles),eP 15 3] n.cells []) (fun x=>?_) (fun g67=>?_)
  ·obtain ⟨u1,u2,u3⟩:=x
   try dsimp only
   refine E6 2 [3,7] (by kernel_rfl) ⟨⟨_,rfl,?_⟩,⟨_,rfl,?_⟩,⟨_,rfl,?_⟩,O⟩
   ·refine I9 (Z':=sys) 0 [] true (fun u=>[.o u]) [(0,11,n.roles.length)] J J J J J J J J (fun p hp=>by cases hp) rfl cs1 (fun _=>rfl) rfl (by simp) rfl rfl rfl (fun _ _ _ _ _ _=>O) (fun u1=>(B0 ?_))
    exact g71 (u1,undef,undef) (by kernel_rfl) (B3 ⟨U J,U J,U J,U J,U J,O⟩ ⟨U J,U J,U J,U J,U J,U J,O⟩ O)
   ·refine A5 J J J (B1 J gU J J) (B0 ?_)
    exact g75 (undef,undef,undef) (by kernel_rfl) (B3 ⟨U J,U J,U J,U J,U J,U J,O⟩ ⟨U J,U J,U J,U J,U J,O⟩ O)
   ·refine A5 J J J (B2 J gU J J J J) (B0 ?_)
    exact g195 (undef,undef,undef) (by kernel_rfl) (B3 ⟨U J,U J,U J,U J,U J,O⟩ ⟨U J,U J,U J,U J,U J,O⟩ O)
  refine G9 12 #[true,false,false,true,false,false,true,false,false,false,false,false,false,false,false] (fun x : Value × Value × Value=>stA fv fr tn [eP 9 1,eP 12 2,eP 15 3] n.cells []) (fun x=>?_) (fun g73=>?_)
  ·obtain ⟨u1,u2,u3⟩:=x
   try dsimp only
   refine E6 1 [4,7] (by kernel_rfl) ⟨⟨_,rfl,?_⟩,⟨_,rfl,?_⟩,⟨_,rfl,?_⟩,O⟩
   ·refine A5 J J J (B2 J gU J J J J) (B0 ?_)
    exact g75 (undef,undef,undef) (by kernel_rfl) (B3 ⟨U J,U J,U J,U J,U J,U J,O⟩ ⟨U J,U J,U J,U J,U J,O⟩ O)
   ·refine A5 J J J (B2 J gU J J J J) (B0 ?_)
    exact g89 (undef,undef,undef) (by kernel_rfl) (B3 ⟨U J,U J,U J,U J,U J,U J,O⟩ ⟨U J,U J,U J,U J,U J,O⟩ O)
   ·refine A5 J J J (B2 J gU J J J J) (B0 ?_)
    exact g201 (undef,undef,undef) (by kernel_rfl) (B3 ⟨U J,U J,U J,U J,U J,U J,O⟩ ⟨U J,U J,U J,U J,U J,O⟩ O)
  refine G9 12 #[false,false,false,true,true,false,true,false,false,false,false,false,false,false,false] (fun x : Value × Value × Value=>stA fv fr tn [eS 13 3 (Fs.rows n.fresh),eP 15 3] n.cells []) (fun x=>?_) (fun g88=>?_)
  ·obtain ⟨u1,u2,u3⟩:=x
   try dsimp only
   refine E6 0 [7] (by kernel_rfl) ⟨⟨_,rfl,?_⟩,⟨_,rfl,?_⟩,O⟩
   ·refine A5 J J J (B1 J gU J J) (B0 ?_)
    exact g89 (undef,undef,undef) (by kernel_rfl) (B3 ⟨U J,U J,U J,U J,U J,U J,O⟩ ⟨U J,U J,U J,U J,U J,O⟩ O)
   ·refine A5 J J J (B2 J gU J J J J) (B0 ?_)
    exact g216 (undef,undef,undef) (by kernel_rfl) (B3 ⟨U J,U J,U J,U J,U J,O⟩ ⟨U J,U J,U J,U J,U J,O⟩ O)
  refine G9 12 #[true,false,false,false,false,false,true,true,false,false,false,false,false,false,false] (fun x : Value × Value × Value=>stA fv fr tn [eP 9 1,eS 16 1 (strR n.tags)] n.cells []) (fun x=>?_) (fun g193=>?_)
  ·obtain ⟨u1,u2,u3⟩:=x
   try dsimp only
   refine E6 1 [3] (by kernel_rfl) ⟨⟨_,rfl,?_⟩,⟨_,rfl,?_⟩,O⟩
   ·refine A5 J J J (B2 J gU J J J J) (B0 ?_)
    exact g195 (undef,undef,undef) (by kernel_rfl) (B3 ⟨U J,U J,U J,U J,U J,O⟩ ⟨U J,U J,U J,U J,U J,O⟩ O)
   ·refine A5 J J J (B1 J gU J J) (B0 ?_)
    exact g201 (undef,undef,undef) (by kernel_rfl) (B3 ⟨U J,U J,U J,U J,U J,U J,O⟩ ⟨U J,U J,U J,U J,U J,O⟩ O)
  refine G9 12 #[false,false,false,true,false,false,true,true,false,false,false,false,false,false,false] (fun x : Value × Value × Value=>stA fv fr tn [eP 12 2,eS 16 1 (strR n.tags)] n.cells []) (fun x=>?_) (fun g200=>?_)
  ·obtain ⟨u1,u2,u3⟩:=x
   try dsimp only
   refine E6 0 [4] (by kernel_rfl) ⟨⟨_,rfl,?_⟩,⟨_,rfl,?_⟩,O⟩
   ·refine A5 J J J (B1 J gU J J) (B0 ?_)
    exact g201 (undef,undef,undef) (by kernel_rfl) (B3 ⟨U J,U J,U J,U J,U J,U J,O⟩ ⟨U J,U J,U J,U J,U J,O⟩ O)
   ·refine A5 J J J (B2 J gU J J J J) (B0 ?_)
    exact g216 (undef,undef,undef) (by kernel_rfl) (B3 ⟨U J,U J,U J,U J,U J,O⟩ ⟨U J,U J,U J,U J,U J,O⟩ O)
  refine G9 13 #[true,false,false,true,false,false,false,false,false,false,false,false,false,false,false] (fun x : Value × Value × Value=>stA fv fr tn [eP 9 1,eP 12 2] n.cells []) (fun x=>?_) (fun g9=>?_)
  ·obtain ⟨u1,u2,u3⟩:=x
   try dsimp only
   refine E6 1 [4,6] (by kernel_rfl) ⟨⟨_,rfl,?_⟩,⟨_,rfl,?_⟩,⟨_,rfl,?_⟩,O⟩
   ·refine A5 J J J (B2 J gU J J J J) (B0 ?_)
    exact g11 (undef,undef,undef) (by kernel_rfl) (B3 ⟨U J,U J,U J,U J,U J,O⟩ ⟨U J,U J,U J,U J,U J,O⟩ O)
   ·refine A5 J J J (B2 J gU J J J J) (B0 ?_)
    exact g25 (undef,undef,undef) (by kernel_rfl) (B3 ⟨U J,U J,U J,U J,U J,O⟩ ⟨U J,U J,U J,U J,U J,O⟩ O)
   ·refine A5 J J J (B1 J gU J J) (B0 ?_)
    exact g73 (undef,undef,undef) (by kernel_rfl) (B3 ⟨U J,U J,U J,U J,U J,U J,O⟩ ⟨U J,U J,U J,U J,U J,O⟩ O)
  refine G9 13 #[true,false,false,false,false,false,true,false,false,false,false,false,false,false,false] (fun x : Value × Value × Value=>stA fv fr tn [eP 9 1,eP 15 3] n.cells []) (fun x=>?_) (fun g65=>?_)
  ·obtain ⟨u1,u2,u3⟩:=x
   try dsimp only
   refine E6 1 [3,7] (by kernel_rfl) ⟨⟨_,rfl,?_⟩,⟨_,rfl,?_⟩,⟨_,rfl,?_⟩,O⟩
   ·refine A5 J J J (B2 J gU J J J J) (B0 ?_)
    exact g67 (undef,undef,undef) (by kernel_rfl) (B3 ⟨U J,U J,U J,U J,U J,O⟩ ⟨U J,U J,U J,U J,U J,O⟩ O)
   ·refine A5 J J J (B1 J gU J J) (B0 ?_)
    exact g73 (undef,undef,undef) (by kernel_rfl) (B3 ⟨U J,U J,U J,U J,U J,U J,O⟩ ⟨U J,U J,U J,U J,U J,O⟩ O)
   ·refine A5 J J J (B2 J gU J J J J) (B0 ?_)
    exact g193 (undef,undef,undef) (by kernel_rfl) (B3 ⟨U J,U J,U J,U J,U J,O⟩ ⟨U J,U J,U J,U J,U J,O⟩ O)
  refine G9 13 #[false,false,false,true,false,false,true,false,false,false,false,false,false,false,false] (fun x : Value × Value × Value=>stA fv fr tn [eP 12 2,eP 15 3] n.cells []) (fun x=>?_) (fun g72=>?_)
  ·obtain ⟨u1,u2,u3⟩:=x
   try dsimp only
   refine E6 0 [4,7] (by kernel_rfl) ⟨⟨_,rfl,?_⟩,⟨_,rfl,?_⟩,⟨_,rfl,?_⟩,O⟩
   ·refine A5 J J J (B1 J gU J J) (B0 ?_)
    exact g73 (undef,undef,undef) (by kernel_rfl) (B3 ⟨U J,U J,U J,U J,U J,U J,O⟩ ⟨U J,U J,U J,U J,U J,O⟩ O)
   ·refine A5 J J J (B2 J gU J J J J) (B0 ?_)
    exact g88 (undef,undef,undef) (by kernel_rfl) (B3 ⟨U J,U J,U J,U J,U J,O⟩ ⟨U J,U J,U J,U J,U J,O⟩ O)
   ·refine A5 J J J (B2 J gU J J J J) (B0 ?_)
    exact g200 (undef,undef,undef) (by kernel_rfl) (B3 ⟨U J,U J,U J,U J,U J,O⟩ ⟨U J,U J,U J,U J,U J,O⟩ O)
  refine E6 0 [3,6] (by kernel_rfl) ⟨⟨_,rfl,?_⟩,⟨_,rfl,?_⟩,⟨_,rfl,?_⟩,O⟩
  ·refine A5 J J J (B1 J gU J J) (B0 ?_)
   refine E6 1 [3,6] (by kernel_rfl) ⟨⟨_,rfl,?_⟩,⟨_,rfl,?_⟩,⟨_,rfl,?_⟩,O⟩
   ·refine A5 J J J (B2 J gU J J J J) (B0 ?_)
    refine E6 2 [3,6] (by kernel_rfl) ⟨⟨_,rfl,?_⟩,⟨_,rfl,?_⟩,⟨_,rfl,?_⟩,O⟩
    ·refine I9 (Z':=sys) 0 [] true (fun u=>[.o u]) [(0,11,n.roles.length)] J J J J J J J J (fun p hp=>by cases hp) rfl cs1 (fun _=>rfl) rfl (by simp) rfl rfl rfl (fun _ _ _ _ _ _=>O) (fun u1=>(B0 ?_))
     refine E6 3 [6] (by kernel_rfl) ⟨⟨_,rfl,?_⟩,⟨_,rfl,?_⟩,O⟩
     ·refine A5 J J J (B1 J gU J J) (B0 ?_)
      exact g15 (u1,undef,undef) (by kernel_rfl) (B3 ⟨U J,U J,U J,U J,U J,O⟩ ⟨U J,U J,U J,U J,U J,U J,O⟩ O)
     ·refine A5 J J J (B1 J gU J J) (B0 ?_)
      exact g71 (u1,undef,undef) (by kernel_rfl) (B3 ⟨U J,U J,U J,U J,U J,O⟩ ⟨U J,U J,U J,U J,U J,U J,O⟩ O)
    ·refine A5 J J J (B1 J gU J J) (B0 ?_)
     exact g11 (undef,undef,undef) (by kernel_rfl) (B3 ⟨U J,U J,U J,U J,U J,O⟩ ⟨U J,U J,U J,U J,U J,O⟩ O)
    ·refine A5 J J J (B1 J gU J J) (B0 ?_)
     exact g67 (undef,undef,undef) (by kernel_rfl) (B3 ⟨U J,U J,U J,U J,U J,O⟩ ⟨U J,U J,U J,U J,U J,O⟩ O)
   ·refine A5 J J J (B1 J gU J J) (B0 ?_)
    exact g9 (undef,undef,undef) (by kernel_rfl) (B3 ⟨U J,U J,U J,U J,U J,O⟩ ⟨U J,U J,U J,U J,U J,O⟩ O)
   ·refine A5 J J J (B1 J gU J J) (B0 ?_)
    exact g65 (undef,undef,undef) (by kernel_rfl) (B3 ⟨U J,U J,U J,U J,U J,O⟩ ⟨U J,U J,U J,U J,U J,O⟩ O)
  ·refine A5 J J J (B1 J gU J J) (B0 ?_)
   refine E6 0 [4,6] (by kernel_rfl) ⟨⟨_,rfl,?_⟩,⟨_,rfl,?_⟩,⟨_,rfl,?_⟩,O⟩
   ·refine A5 J J J (B1 J gU J J) (B0 ?_)
    exact g9 (undef,undef,undef) (by kernel_rfl) (B3 ⟨U J,U J,U J,U J,U J,O⟩ ⟨U J,U J,U J,U J,U J,O⟩ O)
   ·refine A5 J J J (B2 J gU J J J J) (B0 ?_)
    refine E6 0 [6] (by kernel_rfl) ⟨⟨_,rfl,?_⟩,⟨_,rfl,?_⟩,O⟩
    ·refine A5 J J J (B1 J gU J J) (B0 ?_)
     exact g25 (undef,undef,undef) (by kernel_rfl) (B3 ⟨U J,U J,U J,U J,U J,O⟩ ⟨U J,U J,U J,U J,U J,O⟩ O)
    ·refine A5 J J J (B1 J gU J J) (B0 ?_)
     exact g88 (undef,undef,undef) (by kernel_rfl) (B3 ⟨U J,U J,U J,U J,U J,O⟩ ⟨U J,U J,U J,U J,U J,O⟩ O)
   ·refine A5 J J J (B1 J gU J J) (B0 ?_)
    exact g72 (undef,undef,undef) (by kernel_rfl) (B3 ⟨U J,U J,U J,U J,U J,O⟩ ⟨U J,U J,U J,U J,U J,O⟩ O)
  ·refine A5 J J J (B1 J gU J J) (B0 ?_)
   refine E6 0 [3,7] (by kernel_rfl) ⟨⟨_,rfl,?_⟩,⟨_,rfl,?_⟩,⟨_,rfl,?_⟩,O⟩
   ·refine A5 J J J (B1 J gU J J) (B0 ?_)
    exact g65 (undef,undef,undef) (by kernel_rfl) (B3 ⟨U J,U J,U J,U J,U J,O⟩ ⟨U J,U J,U J,U J,U J,O⟩ O)
   ·refine A5 J J J (B1 J gU J J) (B0 ?_)
    exact g72 (undef,undef,undef) (by kernel_rfl) (B3 ⟨U J,U J,U J,U J,U J,O⟩ ⟨U J,U J,U J,U J,U J,O⟩ O)
   ·refine A5 J J J (B2 J gU J J J J) (B0 ?_)
    refine E6 0 [3] (by kernel_rfl) ⟨⟨_,rfl,?_⟩,⟨_,rfl,?_⟩,O⟩
    ·refine A5 J J J (B1 J gU J J) (B0 ?_)
     exact g193 (undef,undef,undef) (by kernel_rfl) (B3 ⟨U J,U J,U J,U J,U J,O⟩ ⟨U J,U J,U J,U J,U J,O⟩ O)
    ·refine A5 J J J (B1 J gU J J) (B0 ?_)
     exact g200 (undef,undef,undef) (by kernel_rfl) (B3 ⟨U J,U J,U J,U J,U J,O⟩ ⟨U J,U J,U J,U J,U J,O⟩ O)
 obtain ⟨u1,u2,u3⟩:=x
 dsimp only
 refine Li (fun x : Value × Value=>stB n fv fr tn u1 u2 u3 [eK 23 x.1 n.steps.length,eK 26 x.2 n.goals.length] [.s n.name, .o u1, .o u2, .o u3, .o x.1, .o x.2] [(.l 23,(Sp.rows n.steps).flatten),(.l 26,(Gl.rows n.goals).flatten)]) (fun x=>?_) ?_
 rotate_left
 ·refine G9 3 #[true,true,true,true,true,true,true,false,false,false] (fun x : Value × Value=>stB n fv fr tn u1 u2 u3 [eK 23 x.1 n.steps.length,eK 26 x.2 n.goals.length,eP 27 4] [.s n.name, .o u1, .o u2, .o u3, .sl 7 (Sp.rows n.steps), .sl 5 (Gl.rows n.goals)] [(.l 23,(Sp.rows n.steps).flatten),(.l 26,(Gl.rows n.goals).flatten)]) (fun x=>?_) (fun g127=>?_)
  ·obtain ⟨u4,u5⟩:=x
   try dsimp only
   refine E6 7 [] (by kernel_rfl) ⟨⟨_,rfl,?_⟩,O⟩;refine C3 J (Q8 J J J J J J) (B0 ?_);refine E6 8 [] (by kernel_rfl) ⟨⟨_,rfl,?_⟩,O⟩;refine A5 J J J (B1 J gU J J) (B0 ?_);refine E6 9 [] (by kernel_rfl) ⟨⟨_,rfl,?_⟩,O⟩;refine C3 J (Q8 J J J J J J) (B0 ?_);exact Cp (by kernel_rfl) ⟨(u4,u5),B3 ⟨U J,U J,U J,U J,U J,U J,U J,U J,O⟩ ⟨U J,U J,U J,U J,U J,U J,U J,U J,U J,U J,O⟩ O⟩
  refine G9 5 #[true,true,true,true,true,false,false,false,false,false] (fun x : Value × Value=>stB n fv fr tn u1 u2 u3 [eK 23 x.1 n.steps.length,eS 25 5 (Gl.rows n.goals)] [.s n.name, .o u1, .o u2, .o u3, .sl 7 (Sp.rows n.steps), .sl 5 (Gl.rows n.goals)] [(.l 23,(Sp.rows n.steps).flatten)]) (fun x=>?_) (fun g31=>?_)
  ·obtain ⟨u4,u5⟩:=x
   try dsimp only
   refine E6 5 [6] (by kernel_rfl) ⟨⟨_,rfl,?_⟩,⟨_,rfl,?_⟩,O⟩
   ·refine I9 (Z':=sys) 0 [] true (fun u=>[.o u]) [(0,26,n.goals.length)] J J J J J J J J (fun p hp=>by cases hp) rfl cs5 (fun _=>rfl) rfl (by simp) rfl rfl rfl (fun _ _ _ _ _ _=>O) (fun u5=>(B0 ?_))
    refine E6 6 [] (by kernel_rfl) ⟨⟨_,rfl,?_⟩,O⟩;refine A5 J J J (B1 J gU J J) (B0 ?_);exact g127 (u4,u5) (by kernel_rfl) (B3 ⟨U J,U J,U J,U J,U J,U J,U J,U J,U J,O⟩ ⟨U J,U J,U J,U J,U J,U J,U J,U J,U J,U J,O⟩ O)
   ·refine A5 J J J (B1 J gU J J) (B0 ?_)
    refine E6 5 [] (by kernel_rfl) ⟨⟨_,rfl,?_⟩,O⟩;refine I9 (Z':=sys) 0 [] true (fun u=>[.o u]) [(0,26,n.goals.length)] J J J J J J J J (fun p hp=>by cases hp) rfl cs5 (fun _=>rfl) rfl (by simp) rfl rfl rfl (fun _ _ _ _ _ _=>O) (fun u5=>(B0 ?_));exact g127 (u4,u5) (by kernel_rfl) (B3 ⟨U J,U J,U J,U J,U J,U J,U J,U J,U J,O⟩ ⟨U J,U J,U J,U J,U J,U J,U J,U J,U J,U J,O⟩ O)
  refine G9 6 #[true,true,true,true,false,false,false,false,false,false] (fun x : Value × Value=>stB n fv fr tn u1 u2 u3 [eK 23 x.1 n.steps.length,eP 24 5] [.s n.name, .o u1, .o u2, .o u3, .sl 7 (Sp.rows n.steps), .sl 5 (Gl.rows n.goals)] [(.l 23,(Sp.rows n.steps).flatten)]) (fun x=>?_) (fun g15=>?_)
  ·obtain ⟨u4,u5⟩:=x
   try dsimp only
   refine E6 4 [] (by kernel_rfl) ⟨⟨_,rfl,?_⟩,O⟩;refine A5 J J J (B2 J gU J J J J) (B0 ?_);exact g31 (u4,undef) (by kernel_rfl) (B3 ⟨U J,U J,U J,U J,U J,U J,U J,U J,O⟩ ⟨U J,U J,U J,U J,U J,U J,U J,U J,U J,O⟩ O)
  refine G9 6 #[true,true,false,true,true,false,false,false,false,false] (fun x : Value × Value=>stB n fv fr tn u1 u2 u3 [eS 22 7 (Sp.rows n.steps),eS 25 5 (Gl.rows n.goals)] [.s n.name, .o u1, .o u2, .o u3, .sl 7 (Sp.rows n.steps), .sl 5 (Gl.rows n.goals)] []) (fun x=>?_) (fun g27=>?_)
  ·obtain ⟨u4,u5⟩:=x
   try dsimp only
   refine E6 2 [] (by kernel_rfl) ⟨⟨_,rfl,?_⟩,O⟩;refine I9 (Z':=sys) 0 [] true (fun u=>[.o u]) [(0,23,n.steps.length)] J J J J J J J J (fun p hp=>by cases hp) rfl cs4 (fun _=>rfl) rfl (by simp) rfl rfl rfl (fun _ _ _ _ _ _=>O) (fun u4=>(B0 ?_));exact g31 (u4,undef) (by kernel_rfl) (B3 ⟨U J,U J,U J,U J,U J,U J,U J,U J,O⟩ ⟨U J,U J,U J,U J,U J,U J,U J,U J,U J,O⟩ O)
  refine G9 7 #[true,true,false,true,false,false,false,false,false,false] (fun x : Value × Value=>stB n fv fr tn u1 u2 u3 [eS 22 7 (Sp.rows n.steps),eP 24 5] [.s n.name, .o u1, .o u2, .o u3, .sl 7 (Sp.rows n.steps), .sl 5 (Gl.rows n.goals)] []) (fun x=>?_) (fun g11=>?_)
  ·obtain ⟨u4,u5⟩:=x
   try dsimp only
   refine E6 2 [4] (by kernel_rfl) ⟨⟨_,rfl,?_⟩,⟨_,rfl,?_⟩,O⟩
   ·refine I9 (Z':=sys) 0 [] true (fun u=>[.o u]) [(0,23,n.steps.length)] J J J J J J J J (fun p hp=>by cases hp) rfl cs4 (fun _=>rfl) rfl (by simp) rfl rfl rfl (fun _ _ _ _ _ _=>O) (fun u4=>(B0 ?_))
    exact g15 (u4,undef) (by kernel_rfl) (B3 ⟨U J,U J,U J,U J,U J,U J,U J,U J,O⟩ ⟨U J,U J,U J,U J,U J,U J,U J,U J,U J,O⟩ O)
   ·refine A5 J J J (B2 J gU J J J J) (B0 ?_)
    exact g27 (undef,undef) (by kernel_rfl) (B3 ⟨U J,U J,U J,U J,U J,U J,U J,U J,O⟩ ⟨U J,U J,U J,U J,U J,U J,U J,U J,O⟩ O)
  refine G9 7 #[true,false,false,true,true,false,false,false,false,false] (fun x : Value × Value=>stB n fv fr tn u1 u2 u3 [eP 21 4,eS 25 5 (Gl.rows n.goals)] [.s n.name, .o u1, .o u2, .o u3, .sl 7 (Sp.rows n.steps), .sl 5 (Gl.rows n.goals)] []) (fun x=>?_) (fun g25=>?_)
  ·obtain ⟨u4,u5⟩:=x
   try dsimp only
   refine E6 1 [] (by kernel_rfl) ⟨⟨_,rfl,?_⟩,O⟩;refine A5 J J J (B2 J gU J J J J) (B0 ?_);exact g27 (undef,undef) (by kernel_rfl) (B3 ⟨U J,U J,U J,U J,U J,U J,U J,U J,O⟩ ⟨U J,U J,U J,U J,U J,U J,U J,U J,O⟩ O)
  refine G9 8 #[true,false,false,true,false,false,false,false,false,false] (fun x : Value × Value=>stB n fv fr tn u1 u2 u3 [eP 21 4,eP 24 5] [.s n.name, .o u1, .o u2, .o u3, .sl 7 (Sp.rows n.steps), .sl 5 (Gl.rows n.goals)] []) (fun x=>?_) (fun g9=>?_)
  ·obtain ⟨u4,u5⟩:=x
   try dsimp only
   refine E6 1 [4] (by kernel_rfl) ⟨⟨_,rfl,?_⟩,⟨_,rfl,?_⟩,O⟩
   ·refine A5 J J J (B2 J gU J J J J) (B0 ?_)
    exact g11 (undef,undef) (by kernel_rfl) (B3 ⟨U J,U J,U J,U J,U J,U J,U J,U J,O⟩ ⟨U J,U J,U J,U J,U J,U J,U J,U J,O⟩ O)
   ·refine A5 J J J (B2 J gU J J J J) (B0 ?_)
    exact g25 (undef,undef) (by kernel_rfl) (B3 ⟨U J,U J,U J,U J,U J,U J,U J,U J,O⟩ ⟨U J,U J,U J,U J,U J,U J,U J,U J,O⟩ O)
  refine E6 0 [3] (by kernel_rfl) ⟨⟨_,rfl,?_⟩,⟨_,rfl,?_⟩,O⟩
  ·refine A5 J J J (B1 J gU J J) (B0 ?_)
   refine E6 1 [3] (by kernel_rfl) ⟨⟨_,rfl,?_⟩,⟨_,rfl,?_⟩,O⟩
   ·refine A5 J J J (B2 J gU J J J J) (B0 ?_)
    refine E6 2 [3] (by kernel_rfl) ⟨⟨_,rfl,?_⟩,⟨_,rfl,?_⟩,O⟩
    ·refine I9 (Z':=sys) 0 [] true (fun u=>[.o u]) [(0,23,n.steps.length)] J J J J J J J J (fun p hp=>by cases hp) rfl cs4 (fun _=>rfl) rfl (by simp) rfl rfl rfl (fun _ _ _ _ _ _=>O) (fun u4=>(B0 ?_))
     refine E6 3 [] (by kernel_rfl) ⟨⟨_,rfl,?_⟩,O⟩;refine A5 J J J (B1 J gU J J) (B0 ?_);exact g15 (u4,undef) (by kernel_rfl) (B3 ⟨U J,U J,U J,U J,U J,U J,U J,U J,O⟩ ⟨U J,U J,U J,U J,U J,U J,U J,U J,U J,O⟩ O)
    ·refine A5 J J J (B1 J gU J J) (B0 ?_)
     exact g11 (undef,undef) (by kernel_rfl) (B3 ⟨U J,U J,U J,U J,U J,U J,U J,U J,O⟩ ⟨U J,U J,U J,U J,U J,U J,U J,U J,O⟩ O)
   ·refine A5 J J J (B1 J gU J J) (B0 ?_)
    exact g9 (undef,undef) (by kernel_rfl) (B3 ⟨U J,U J,U J,U J,U J,U J,U J,U J,O⟩ ⟨U J,U J,U J,U J,U J,U J,U J,U J,O⟩ O)
  ·refine A5 J J J (B1 J gU J J) (B0 ?_)
   refine E6 0 [4] (by kernel_rfl) ⟨⟨_,rfl,?_⟩,⟨_,rfl,?_⟩,O⟩
   ·refine A5 J J J (B1 J gU J J) (B0 ?_)
    exact g9 (undef,undef) (by kernel_rfl) (B3 ⟨U J,U J,U J,U J,U J,U J,U J,U J,O⟩ ⟨U J,U J,U J,U J,U J,U J,U J,U J,O⟩ O)
   ·refine A5 J J J (B2 J gU J J J J) (B0 ?_)
    refine E6 0 [] (by kernel_rfl) ⟨⟨_,rfl,?_⟩,O⟩;refine A5 J J J (B1 J gU J J) (B0 ?_);exact g25 (undef,undef) (by kernel_rfl) (B3 ⟨U J,U J,U J,U J,U J,U J,U J,U J,O⟩ ⟨U J,U J,U J,U J,U J,U J,U J,U J,O⟩ O)
 obtain ⟨u4,u5⟩:=x
 dsimp only
 refine A8 ?_;refine A8 (A6 ?_);refine A5 J J J (B1 J gU J J) ?_;refine A5 J J J (B2 J gU J J J J) ?_;refine A5 J J J (S7 23 0 0 J gU J J J J J) ?_;refine A5 J J J (A7 J gU) ?_;refine B0 ?_;refine B5 (s:=⟨[(1,_,_),(2,_,_),(4,_,_),(11,_,_),(14,_,_),(17,_,_),(23,_,_),(26,_,_),(31,_,_),(32,_,_)],[(.l 11,_),(.l 14,_),(.l 17,_),(.l 2,_),(.l 23,_),(.l 26,_),(.l 4,_),(.o 0,_),(.o 1,_),(.o 2,_)],[],[]⟩) (B3 (⟨U J,U J,U J,U J,U J,U J,U J,U J,U J,U J,O⟩) (⟨U J,U J,U J,U J,U J,U J,U J,U J,U J,U J,O⟩) O) ?_;refine C4 ?_;refine F5 (ι:=Nat) { t:=[(1,_,_),(2,_,_),(4,_,_),(11,_,_),(14,_,_),(17,_,_),(23,_,_),(26,_,_),(31,_,_)],bx:=[(.l 11,_),(.l 14,_),(.l 17,_),(.l 2,_),(.l 26,_),(.l 4,_),(.o 0,_),(.o 1,_),(.o 2,_)],ow:=[] } (fun k=>[(32,true,xi (k : Int))]) (fun k=>[((.l 23),(Sp.rows (upto (chS (swG fr tn)) n.steps k)).flatten)]) (fun k=>k≤n.steps.length) (fun k=>n.steps.length - k) (0) (by simp) (B3 (⟨U J,U J,U J,U J,U J,U J,U J,U J,U J,U J,O⟩) (⟨⟨_,rfl,by rw[R2]⟩,⟨U J,U J,U J,U J,U J,U J,U J,U J,U J,O⟩⟩) O) ?_
 intro k hoka
 dsimp only [List.cons_append,List.nil_append]
 have hul:=V1 (chS (swG fr tn)) n.steps k
 have hfl:=Ga (upto (chS (swG fr tn)) n.steps k)
 refine A8 (A6 ?_);refine A5 J J J (B6 J J gU gU J) ?_;refine B0 ?_;refine A8 ?_;refine B8 J (fun hc=>?_) (fun hc=>?_)
 ·try simp only [nn,B4,nq] at hc
  have hlt : k < n.steps.length:=by omega
  have hat:=Y7 (f:=chS (swG fr tn)) (d:=default) hlt
  have hset:=V3 (f:=chS (swG fr tn)) (d:=default) hlt
  have hmk:=hm _ (S1 (d:=default) hlt)
  refine C0 ?_;refine A8 ?_;refine C4 ?_;refine A8 (A6 ?_);refine A5 J J J (A7 J gU) ?_;refine A5 J J J (A9 J gU) ?_;refine B0 ?_;refine awp_drawn' (by kernel_rfl) ?_;refine B9 J J J J (B1 J gU J J) ?_;refine K3 23 J J J J J J (M6 23 0 0 7 J gU J J J J J J J (by omega)) ?_;refine B9 J J J J (A7 J gU) ?_;refine B9 J J J J (B1 J gU J J) ?_;refine K3 23 J J J J J J (M6 23 0 0 7 J gU J J J J J J J (by omega)) ?_;refine B9 J J J J (A7 J gU) ?_;refine B9 J J J J (I1 J J gU gU J J J (fun _=>by omega)) ?_;refine B9 J J J J (B1 J gU J J) ?_;refine D5 J J J J J J J gU J J J (Zu hat) J ?_;refine B9 J J J J (A7 J gU) ?_;refine S2 (Z':=zK fv 1 2) ⟨.o 0,0,[.o fv],[.o fv]⟩ [⟨.o 1,0,[.s fr],[.s fr]⟩,⟨.o 2,0,[.s tn],[.s tn]⟩] J J J J J J J J J (ps3 J J J) J (Re fv fr tn _ (n.steps.getD k default).msg (Nat.le_refl _) hmk.2 hmk.1) J J J (fun s2 E G a w hr hE=>Ej (i:=1) (j:=2) (i':=1) (j':=2) J J J J J J J E G a w hr hE) (Dw J J) ?_;refine B9 J J J J (I1 J J gU gU J J J (fun _=>by omega)) ?_
  refine B9 J J J J (B1 J gU J J) ?_;refine E7 J J J J J J J J J J J (Nat.ble_eq_true_of_le (by rw[hfl,hul]; show 0 + k * 7 + 2 + 4≤_; omega)) ?_;refine F8 (by kernel_rfl) ?_;refine B5 (s:=⟨[(1,_,_),(2,_,_),(4,_,_),(11,_,_),(14,_,_),(17,_,_),(23,_,_),(26,_,_),(31,_,_),(32,_,_)],[(.l 11,_),(.l 14,_),(.l 17,_),(.l 2,_),(.l 23,_),(.l 26,_),(.l 4,_),(.o 0,_),(.o 1,_),(.o 2,_)],[],[]⟩) (B3 (⟨U J,U J,U J,U J,U J,U J,U J,U J,U J,U J,O⟩) (⟨U J,U J,U J,U J,U J,U J,U J,U J,U J,U J,O⟩) O) ?_;refine A6 ?_;refine A5 J J J (D0 J J gU gU J (IntWalk.i64_in _ (by omega))) ?_;refine A5 J J J (A7 J gU) ?_;refine B0 ?_;refine ⟨k + 1,?_,?_,B3 (⟨⟨_,rfl,?_⟩,⟨U J,U J,U J,U J,U J,U J,U J,U J,U J,O⟩⟩) (⟨⟨_,rfl,?_⟩,⟨U J,U J,U J,U J,U J,U J,U J,U J,U J,O⟩⟩) O⟩
  all_goals (first|rfl|omega|(rw[Nat.zero_add,Zt hat,← hset]; rfl))
 ·try simp only [nn,B4,nq] at hc
  have hke : k=n.steps.length:=by omega
  subst hke
  rw[R1]
  refine E1 ?_
  repeat(first|refine D3 ?_|refine D4 ?_|refine D2 J ?_)
  refine A8 ?_;refine A8 (A6 ?_);refine A5 J J J (B1 J gU J J) ?_;refine A5 J J J (B2 J gU J J J J) ?_;refine A5 J J J (S7 26 0 0 J gU J J J J J) ?_;refine A5 J J J (A7 J gU) ?_;refine B0 ?_;refine B5 (s:=⟨[(1,_,_),(2,_,_),(4,_,_),(11,_,_),(14,_,_),(17,_,_),(23,_,_),(26,_,_),(51,_,_),(52,_,_)],[(.l 11,_),(.l 14,_),(.l 17,_),(.l 2,_),(.l 23,_),(.l 26,_),(.l 4,_),(.o 0,_),(.o 1,_),(.o 2,_)],[],[]⟩) (B3 (⟨U J,U J,U J,U J,U J,U J,U J,U J,U J,U J,O⟩) (⟨U J,U J,U J,U J,U J,U J,U J,U J,U J,U J,O⟩) O) ?_;refine C4 ?_;refine F5 (ι:=Nat) { t:=[(1,_,_),(2,_,_),(4,_,_),(11,_,_),(14,_,_),(17,_,_),(23,_,_),(26,_,_),(51,_,_)],bx:=[(.l 11,_),(.l 14,_),(.l 17,_),(.l 2,_),(.l 23,_),(.l 4,_),(.o 0,_),(.o 1,_),(.o 2,_)],ow:=[] } (fun j=>[(52,true,xi (j : Int))]) (fun j=>[((.l 26),(Gl.rows (upto (chL (swG fr tn)) n.goals j)).flatten)]) (fun j=>j≤n.goals.length) (fun j=>n.goals.length - j) (0) (by simp) (B3 (⟨U J,U J,U J,U J,U J,U J,U J,U J,U J,U J,O⟩) (⟨⟨_,rfl,by rw[R2]⟩,⟨U J,U J,U J,U J,U J,U J,U J,U J,U J,O⟩⟩) O) ?_
  intro j hokb
  dsimp only [List.cons_append,List.nil_append]
  have hul:=V1 (chL (swG fr tn)) n.goals j
  have hfl:=Gi (upto (chL (swG fr tn)) n.goals j)
  refine A8 (A6 ?_);refine A5 J J J (B6 J J gU gU J) ?_;refine B0 ?_;refine A8 ?_;refine B8 J (fun hc2=>?_) (fun hc2=>?_)
  ·try simp only [nn,B4,nq] at hc2
   have hlt : j < n.goals.length:=by omega
   have hat:=Y7 (f:=chL (swG fr tn)) (d:=default) hlt
   have hset:=V3 (f:=chL (swG fr tn)) (d:=default) hlt
   obtain ⟨d1,d2,d3⟩:=hd _ (S1 (d:=default) hlt)
   refine C0 ?_;refine A8 ?_;refine C4 ?_;refine A8 (A6 ?_);refine A5 J J J (A7 J gU) ?_;refine A5 J J J (A9 J gU) ?_;refine B0 ?_;refine A8 (A6 ?_);refine A5 J J J (B1 J gU J J) ?_;refine A5 J J J (B2 J gU J J J J) ?_;refine Pd 56 26 0 0 5 J J J J (by omega) ?_;refine A5 J J J (A7 J gU) ?_;refine A5 J J J (I1 J J gU gU J J J (fun _=>by omega)) ?_;refine A5 J J J (B1 J gU J J) ?_;refine A5 J J J (B2 J gU J J J (uAj hat)) ?_;refine uAG 4 J J J J J J J (CtrN.wk (Z:=sys) J (fun g hg=>by cases hg) (Rt (n.goals.getD j default).data (by omega) d1)) ?_;refine A5 J J J (A9 J gU) ?_;refine B0 ?_;refine B5 (s:=⟨[(1,_,_),(2,_,_),(4,_,_),(6,_,_),(7,_,_),(11,_,_),(14,_,_),(17,_,_),(23,_,_),(26,_,_),(51,_,_),(52,_,_)],[(.l 11,_),(.l 14,_),(.l 17,_),(.l 2,_),(.l 23,_),(.l 26,_),(.l 4,_),(.l 61,_),(.o 0,_),(.o 1,_),(.o 2,_)],[],[]⟩) (B3 (⟨U J,U J,U J,U J,U J,U J,U J,U J,U J,U J,U J,U J,O⟩) (⟨U J,U J,U J,U J,U J,U J,U J,U J,U J,U J,U J,O⟩) O) ?_
   refine A8 ?_;refine A8 (A6 ?_);refine A5 J J J (A7 J gU) ?_;refine A5 J J J (Tg J gU J J) ?_;refine A5 J J J (A7 J gU) ?_;refine B0 ?_;refine C4 ?_;refine F5 (ι:=Nat) { t:=[(1,_,_),(2,_,_),(4,_,_),(6,_,_),(7,_,_),(11,_,_),(14,_,_),(17,_,_),(23,_,_),(26,_,_),(51,_,_),(52,_,_),(63,_,_)],bx:=[(.l 11,_),(.l 14,_),(.l 17,_),(.l 2,_),(.l 23,_),(.l 26,_),(.l 4,_),(.o 0,_),(.o 1,_),(.o 2,_)],ow:=[] } (fun i=>[(64,true,xi (i : Int))]) (fun i=>[((.l 61),(T.rows (upto (chT (swG fr tn)) (n.goals.getD j default).data i)).flatten)]) (fun i=>i≤(n.goals.getD j default).data.length) (fun i=>(n.goals.getD j default).data.length - i) (0) (by simp) (B3 (⟨U J,U J,U J,U J,U J,U J,U J,U J,U J,U J,U J,U J,U J,U J,O⟩) (⟨⟨_,rfl,by rw[R2]⟩,⟨U J,U J,U J,U J,U J,U J,U J,U J,U J,U J,O⟩⟩) O) ?_
   intro i hokc
   dsimp only [List.cons_append,List.nil_append]
   have hul2:=V1 (chT (swG fr tn)) (n.goals.getD j default).data i
   have hfl2:=Cx (upto (chT (swG fr tn)) (n.goals.getD j default).data i)
   refine A8 (A6 ?_);refine A5 J J J (B6 J J gU gU J) ?_;refine B0 ?_;refine A8 ?_;refine B8 J (fun hc3=>?_) (fun hc3=>?_)
   ·try simp only [nn,B4,nq] at hc3
    have hlt3 : i < (n.goals.getD j default).data.length:=by omega
    have hat3:=Y7 (f:=chT (swG fr tn)) (d:=default) hlt3
    have hset3:=V3 (f:=chT (swG fr tn)) (d:=default) hlt3
    obtain ⟨e1,e2⟩:=d3 _ (S1 (d:=default) hlt3)
    refine C0 ?_;refine A8 ?_;refine C4 ?_;refine A8 (A6 ?_);refine A5 J J J (A7 J gU) ?_;refine A5 J J J (A9 J gU) ?_;refine B0 ?_;refine A6 ?_;refine A5 J J J (A7 J gU) ?_;refine A5 J J J (A7 J gU) ?_;refine A5 J J J (A7 J gU) ?_;refine A5 J J J (A7 J gU) ?_;refine A5 J J J (I1 J J gU gU J J J (fun _=>by omega)) ?_;refine A5 J J J (B7 J gU J J J (Ry hat3) J) ?_;refine A5 J J J (A7 J gU) ?_;refine X1 (Z':=zK fv 1 2) [⟨.o 0,0,[.o fv],[.o fv]⟩,⟨.o 1,0,[.s fr],[.s fr]⟩,⟨.o 2,0,[.s tn],[.s tn]⟩] J J J J J J J J (ps3 J J J) J (Re fv fr tn _ ((n.goals.getD j default).data.getD i default) (Nat.le_refl _) e2 e1) J J J (fun E G a w hr hE=>Ej (i:=1) (j:=2) (i':=1) (j':=2) J J J J J J J E G a w hr hE) ?_;refine A5 J J J (I1 J J gU gU J J J (fun _=>by omega)) ?_;refine C3 J (C9 J J J J J J (Nat.ble_eq_true_of_le (by rw[hfl2,hul2]; show 0 + i * 4 + 4≤_; omega))) ?_;refine B0 ?_;refine B5 (s:=⟨[(1,_,_),(2,_,_),(4,_,_),(6,_,_),(7,_,_),(11,_,_),(14,_,_),(17,_,_),(23,_,_),(26,_,_),(51,_,_),(52,_,_),(63,_,_),(64,_,_)],[(.l 11,_),(.l 14,_),(.l 17,_),(.l 2,_),(.l 23,_),(.l 26,_),(.l 4,_),(.l 61,_),(.o 0,_),(.o 1,_),(.o 2,_)],[],[]⟩) (B3 (⟨U J,U J,U J,U J,U J,U J,U J,U J,U J,U J,U J,U J,U J,U J,O⟩) (⟨U J,U J,U J,U J,U J,U J,U J,U J,U J,U J,U J,O⟩) O) ?_
    refine A6 ?_;refine A5 J J J (D0 J J gU gU J (IntWalk.i64_in _ (by omega))) ?_;refine A5 J J J (A7 J gU) ?_;refine B0 ?_;refine ⟨i + 1,?_,?_,B3 (⟨⟨_,rfl,?_⟩,⟨U J,U J,U J,U J,U J,U J,U J,U J,U J,U J,U J,U J,U J,O⟩⟩) (⟨⟨_,rfl,?_⟩,⟨U J,U J,U J,U J,U J,U J,U J,U J,U J,U J,O⟩⟩) O⟩
    all_goals (first|rfl|omega|(rw[Nat.zero_add,Je _ _ _ (by rw[hul2]; omega),← hset3]))
   ·try simp only [nn,B4,nq] at hc3
    have hie : i=(n.goals.getD j default).data.length:=by omega
    subst hie
    rw[R1]
    refine E1 ?_
    repeat(first|refine D3 ?_|refine D4 ?_|refine D2 J ?_)
    refine A6 ?_;refine Kt 7 61 (T.rows ((n.goals.getD j default).data.map (chT (swG fr tn)))) J J (by rw[T.rows_len,List.length_map]) (by omega) (Um _) J ?_;refine A5 J J J (B1 J gU J J) ?_;refine A5 J J J (B2 J gU J J J J) ?_;refine Pd 78 26 0 0 5 J J J J (by omega) ?_;refine A5 J J J (A7 J gU) ?_;refine A5 J J J (A7 J gU) ?_;refine A5 J J J (I1 J J gU gU J J J (fun _=>by omega)) ?_;refine A5 J J J (B1 J gU J J) ?_;refine C3 J (C9 J J J J J J (Nat.ble_eq_true_of_le (by rw[hfl,hul]; show 0 + j * 5 + 3 + 1≤_; omega))) ?_;refine B0 ?_;refine B5 (s:=⟨[(1,_,_),(2,_,_),(4,_,_),(11,_,_),(14,_,_),(17,_,_),(23,_,_),(26,_,_),(51,_,_),(52,_,_)],[(.l 11,_),(.l 14,_),(.l 17,_),(.l 2,_),(.l 23,_),(.l 26,_),(.l 4,_),(.o 0,_),(.o 1,_),(.o 2,_)],[],[]⟩) (B3 (⟨U J,U J,U J,U J,U J,U J,U J,U J,U J,U J,O⟩) (⟨U J,U J,U J,U J,U J,U J,U J,U J,U J,U J,O⟩) O) ?_;refine A6 ?_;refine A5 J J J (D0 J J gU gU J (IntWalk.i64_in _ (by omega))) ?_;refine A5 J J J (A7 J gU) ?_;refine B0 ?_;refine ⟨j + 1,?_,?_,B3 (⟨⟨_,rfl,?_⟩,⟨U J,U J,U J,U J,U J,U J,U J,U J,U J,O⟩⟩) (⟨⟨_,rfl,?_⟩,⟨U J,U J,U J,U J,U J,U J,U J,U J,U J,O⟩⟩) O⟩
    all_goals (first|rfl|omega|(rw[Nat.zero_add,uAF hat,← hset]; rfl))
  ·try simp only [nn,B4,nq] at hc2
   have hje : j=n.goals.length:=by omega
   subst hje
   rw[R1]
   refine E1 ?_
   repeat(first|refine D3 ?_|refine D4 ?_|refine D2 J ?_)
   refine A8 (A6 ?_);refine A5 J J J (B7 J gU J J J J J) ?_;refine C3 J (C9 J J J J J J J) ?_;refine B0 ?_;refine C1 ?_
   repeat(first|refine tR ?_|refine bR ?_)
   exact uBv ((u1,u2,u3,u4,u5) : V5) J J ⟨⟨11,_,rfl,rfl⟩,⟨14,_,rfl,rfl⟩,⟨17,_,rfl,rfl⟩,⟨23,_,rfl,rfl⟩,⟨26,_,rfl,rfl⟩,O⟩ ⟨⟨_,rfl,rfl⟩,⟨_,rfl,rfl⟩,⟨_,rfl,rfl⟩,O⟩ ⟨rfl,rfl,rfl,rfl,rfl,O⟩
set_option maxHeartbeats 8000000 in
theorem Er (n : Nar) (fr tn : List UInt8) (hs : ∀ s ∈ n.steps,s.msg.size≤900000) (hg : ∀ g ∈ n.goals,T.sizes g.data≤900000) : Ctr sys 33 [xn n,xs fr,xs tn] [] (xne (rnE n fr tn)) none []:=by
 refine D1 Tryz.func33 J J J J J J ?_;refine A8 (A6 ?_);refine C3 J (E2 J J J J) ?_;refine C3 J (E2 J J J J) ?_;refine C3 J (E2 J J J J) ?_;refine C3 J (D7 J J J) ?_;refine A5 J J J (A9 J gU) ?_;refine B0 ?_;refine B5 (s:=⟨[(3,_,_),(4,_,_),(5,_,_),(6,_,_)],[(.l 3,_),(.l 4,_),(.l 5,_),(.l 6,_)],[],[]⟩) (B3 (⟨U J,U J,U J,U J,O⟩) (⟨U J,U J,U J,U J,O⟩) O) ?_;refine A8 ?_;refine A8 (A6 ?_);refine A5 J J J (B7 J gU J J J J J) ?_;refine C8 J J J J J J gU gU (N6 n hs hg) J ?_;refine A5 J J J (A7 J gU) ?_;refine A5 J J J (C2 J gU J) ?_;refine A5 J J J (C2 J gU J) ?_;refine A5 J J J (A9 J gU) ?_;refine A5 J J J (A9 J gU) ?_;refine B0 ?_;refine B5 (s:=⟨[(3,_,_),(4,_,_),(5,_,_),(6,_,_),(9,_,_)],[(.l 3,_),(.l 4,_),(.l 5,_),(.l 6,_)],[],[]⟩) (B3 (⟨U J,U J,U J,U J,U J,O⟩) (⟨U J,U J,U J,U J,O⟩) O) ?_;refine A8 (A6 ?_);refine A5 J J J (A7 J gU) ?_;refine A5 J J J (B6 J J gU gU J) ?_
 refine B0 ?_;refine B8 J (fun hc=>?_) (fun hc=>?_)
 ·try simp only [nn,B4,nq] at hc
  refine A8 (A6 ?_);refine A5 J J J (H0 J Tryz.underlying27 J gU) ?_;refine A5 J J J (A7 J gU) ?_;refine C3 J (C9 J J J J J J J) ?_;refine A5 J J J (A9 J gU) ?_;refine B0 ?_;refine C1 ?_
  repeat(first|refine tR ?_|refine bR ?_)
  refine C5 J ?_ O
  (rw[rnE,if_pos hc]; rfl)
 ·try simp only [nn,B4,nq] at hc
  have hok:=Lu (n:=n) hc
  rw[rnE,if_neg (by simpa using hc)]
  refine C0 ?_;refine A8 (A6 ?_);refine A5 J J J (B7 J gU J J J J J) ?_;refine Ht J J J J J J (Bv n) (fun _=>rfl) (fun bm=>?_);refine A5 J J J (De J gU (Tryz.underlying63) J J J J J J) ?_;refine A5 J J J (A9 J gU) ?_;refine B0 ?_;refine B5 (s:={ t:=[(3,_,_),(4,_,_),(5,_,_),(6,_,_),(10,_,_)],bx:=[(.l 3,_),(.l 4,_),(.l 5,_),(.l 6,_)],ow:=[],mp:=_ }) (B3 (⟨U J,U J,U J,U J,U J,O⟩) (⟨U J,U J,U J,U J,O⟩) O (.inr J)) ?_;refine A8 ?_;refine A8 (A6 ?_);refine A5 J J J (A7 J gU) ?_;refine A5 J J J (B2 J gU J J J J) ?_;refine A5 J J J (T6 (i:=0) (c:=.i .i64 (mapI (nmsL n) fr)) (z:=.int .i64 0) J J gU gU J Tryz.underlying61 Tryz.underlying9 (by kernel_rfl) (fun w S=>Gr (nmsL n) fr) J) ?_;refine A5 J J J (A7 J gU) ?_;refine A5 J J J (C2 J gU J) ?_;refine A5 J J J (C2 J gU J) ?_;refine A5 J J J (A9 J gU) ?_;refine A5 J J J (A9 J gU) ?_;refine B0 ?_;refine B5 (s:={ t:=[(3,_,_),(4,_,_),(5,_,_),(6,_,_),(10,_,_),(12,_,_)],bx:=[(.l 3,_),(.l 4,_),(.l 5,_),(.l 6,_)],ow:=[],mp:=_ }) (B3 (⟨U J,U J,U J,U J,U J,U J,O⟩) (⟨U J,U J,U J,U J,O⟩) O (.inr J)) ?_
  refine A8 (A6 ?_);refine A5 J J J (A7 J gU) ?_;refine A5 J J J (F2 J gU) ?_;refine B0 ?_;refine B8 J (fun hc2=>?_) (fun hc2=>?_)
  ·try simp only [nn,B4,nq] at hc2
   rw[Q9] at hc2
   have h2 : (K6 n).contains fr=false:=hc2
   rw[if_pos h2]
   refine A8 (A6 ?_);refine A5 J J J (H0 J Tryz.underlying27 J gU) ?_;refine C3 J (C9 J J J J J J J) ?_;refine A5 J J J (A9 J gU) ?_;refine B0 ?_;refine C1 ?_
   repeat(first|refine tR ?_|refine bR ?_)
   refine C5 J ?_ O
   rfl
  ·try simp only [nn,B4,nq] at hc2
   rw[Q9] at hc2
   have h2 : (K6 n).contains fr=true:=hc2
   rw[if_neg (by rw[h2]; simp)]
   refine C0 ?_;refine A8 ?_;refine A8 (A6 ?_);refine A5 J J J (A7 J gU) ?_;refine A5 J J J (B2 J gU J J J J) ?_;refine A5 J J J (T6 (i:=0) (c:=.i .i64 (mapI (nmsL n) tn)) (z:=.int .i64 0) J J gU gU J Tryz.underlying61 Tryz.underlying9 (by kernel_rfl) (fun w S=>Gr (nmsL n) tn) J) ?_;refine A5 J J J (A7 J gU) ?_;refine A5 J J J (C2 J gU J) ?_;refine A5 J J J (C2 J gU J) ?_;refine A5 J J J (A9 J gU) ?_;refine A5 J J J (A9 J gU) ?_;refine B0 ?_;refine B5 (s:={ t:=[(3,_,_),(4,_,_),(5,_,_),(6,_,_),(14,_,_)],bx:=[(.l 3,_),(.l 4,_),(.l 5,_),(.l 6,_)],ow:=[],mp:=_ }) (B3 (⟨U J,U J,U J,U J,U J,O⟩) (⟨U J,U J,U J,U J,O⟩) O (.inr J)) ?_;refine A8 (A6 ?_);refine A5 J J J (A7 J gU) ?_;refine B0 ?_;refine B8 J (fun hc3=>?_) (fun hc3=>?_)
   ·try simp only [nn,B4,nq] at hc3
    rw[Q9] at hc3
    have h3 : (K6 n).contains tn=true:=hc3
    rw[if_pos h3]
    refine A8 (A6 ?_);refine A5 J J J (H0 J Tryz.underlying27 J gU) ?_;refine C3 J (C9 J J J J J J J) ?_;refine A5 J J J (A9 J gU) ?_;refine B0 ?_;refine C1 ?_
    repeat(first|refine tR ?_|refine bR ?_)
    refine C5 J ?_ O
    rfl
   ·try simp only [nn,B4,nq] at hc3
    rw[Q9] at hc3
    have h3 : (K6 n).contains tn=false:=hc3
    rw[if_neg (by rw[h3]; simp)]
    have b1:=hok.nar.r2
    have b2:=hok.nar.f2
    have b3:=hok.nar.t2
    have b4:=hok.nar.s1
    have b5:=hok.nar.s2
    have b6:=hok.nar.g2
    have s0 : n.steps≠[]:=fun q=>by rw[q] at b4; simp at b4
    have hm : ∀ s ∈ n.steps,gdB s.msg=true∧s.msg.size≤900000 := fun s hs=>⟨(hok.msg s hs).2.1,by have := (hok.msg s hs).2.2; omega⟩
    have hd : ∀ g ∈ n.goals,g.data≠[]∧g.data.length≤100 ∧ ∀ t ∈ g.data,gdB t=true∧t.size≤900000:=fun g hg=>by
     have d1:=(hok.nar.goals g hg).d1
     have d2:=(hok.nar.goals g hg).d2
     exact ⟨fun q=>by rw[q] at d1; simp at d1,by omega,fun t ht=>⟨(hok.dat g hg t ht).2.1,by have := (hok.dat g hg t ht).2.2; omega⟩⟩
    refine C0 ?_;refine A8 (A6 ?_);refine A5 J J J (U2 (ys:=[.ptr (.l 4) 0, .ptr (.l 5) 0]) J) ?_;refine uAJ 53 J (fun fv=>?_);refine C3 J (D7 J J J) ?_;refine C3 J (Rf J J J J J J) ?_;refine B0 ?_;refine A8 (A6 ?_);refine A5 J J J (B7 J gU J J J J J) ?_;refine A5 J J J (U2 (ys:=[.ptr (.l 15) 0]) J) ?_;refine I9 (Z':=zK fv 1 2) 1000 [⟨.l 15,0,[.o fv],[.o fv]⟩,⟨.l 4,0,[.s fr],[.s fr]⟩,⟨.l 5,0,[.s tn],[.s tn]⟩] false (fun x : V5=>[.s n.name, .o x.1, .o x.2.1, .o x.2.2.1, .o x.2.2.2.1, .o x.2.2.2.2]) [(1,11,n.roles.length),(2,14,n.fresh.length),(3,17,n.tags.length),(4,23,n.steps.length),(5,26,n.goals.length)] J J J J J J J J (ps3 J J J) J (Ye n fv fr tn (by omega) (by omega) (by omega) (by omega) (by omega) s0 hm hd) (fun _=>rfl) J (by simp) J J J (fun E G a w hr hE=>uBr (k:=53) (i':=1) (j':=2) J J J J J J J E G a w hr hE) (fun x=>?_)
    obtain ⟨u1,u2,u3,u4,u5⟩:=x
    dsimp only [List.map_cons,List.map_nil]
    refine C3 J (D7 J J J) ?_;refine C3 J (Q8 J J J J J J) ?_
    have hlla : n.roles.length=n.roles.length:=rfl
    refine B0 ?_;refine B5 (s:={ t:=[(6,_,_),(15,_,_),(16,_,_),(53,_,_),(56,_,_)],bx:=[(.l 1011,_),(.l 1014,_),(.l 1017,_),(.l 1023,_),(.l 1026,_),(.l 15,_),(.l 16,_),(.l 4,_),(.l 5,_),(.l 6,_)],ow:=[],mp:=_ }) (B3 (⟨U J,U J,U J,U J,U J,O⟩) (⟨U J,U J,U J,U J,U J,U J,U J,U J,U J,U J,O⟩) O (.inr J)) ?_;refine A8 ?_;refine A8 (A6 ?_);refine A5 J J J (B1 J gU J J) ?_;refine A5 J J J (B2 J gU J J J J) ?_;refine A5 J J J (S7 56 1 0 J gU J J J J J) ?_;refine A5 J J J (A7 J gU) ?_;refine B0 ?_;refine C4 ?_;refine F5 (ι:=Nat) { t:=[(6,_,_),(15,_,_),(16,_,_),(53,_,_),(56,_,_),(59,_,_)],bx:=[(.l 1014,_),(.l 1017,_),(.l 1023,_),(.l 1026,_),(.l 15,_),(.l 16,_),(.l 4,_),(.l 5,_),(.l 6,_)],ow:=[],mp:=_ } (fun k=>[(60,true,xi (k : Int))]) (fun k=>[((.l 1011),(strR (upto (swp fr tn) n.roles k)).flatten)]) (fun k=>k≤n.roles.length) (fun k=>n.roles.length - k) (0) (by simp) (B3 (⟨U J,U J,U J,U J,U J,U J,U J,O⟩) (⟨⟨_,rfl,by rw[R2]⟩,⟨U J,U J,U J,U J,U J,U J,U J,U J,U J,O⟩⟩) O (.inr J)) ?_
    intro k hoka
    dsimp only [List.cons_append,List.nil_append]
    have hul:=V1 (swp fr tn) n.roles k
    have hfl : (strR (upto (swp fr tn) n.roles k)).flatten.length=n.roles.length * 1:=by rw[P2 (Kr _),B4,hul]
    refine A8 (A6 ?_);refine A5 J J J (B6 J J gU gU J) ?_;refine B0 ?_;refine A8 ?_;refine B8 J (fun hc4a=>?_) (fun hc4a=>?_)
    ·try simp only [nn,B4,nq] at hc4a
     have hlt : k < n.roles.length:=by omega
     have hat:=Y7 (f:=swp fr tn) (d:=[]) hlt
     have hset:=V3 (f:=swp fr tn) (d:=[]) hlt
     have hold:=uBS hat
     have hb0 : 0 + k * 1 + 1≤(strR (upto (swp fr tn) n.roles k)).flatten.length:=by rw[hfl]; omega
     refine C0 ?_;refine A8 ?_;refine C4 ?_;refine A8 (A6 ?_);refine A5 J J J (A7 J gU) ?_;refine A5 J J J (A9 J gU) ?_;refine B0 ?_;refine awp_drawn' (by kernel_rfl) ?_;refine K3 53 J J J J J J (P6 53 J gU J J J J J) ?_;refine B9 J J J J (B1 J gU J J) ?_;refine K3 56 J J J J J J (M6 (L:=n.roles.length) 56 1 0 1 J gU J J J J J J J (by omega)) ?_;refine B9 J J J J (A7 J gU) ?_;refine B9 J J J J (I1 J J gU gU J J J (fun _=>by omega)) ?_;refine S2 (Z':=sysO) ⟨.l 1011,0 + k * 1,_,[.s (swp fr tn (n.roles.getD k []))]⟩ [⟨.l 4,0,[.s fr],[.s fr]⟩,⟨.l 5,0,[.s tn],[.s tn]⟩] J J J J J J J J J (ps3 J J J) (Y8 (Nat.ble_eq_true_of_le hb0) J) (Bn hold) J J J (fun _ _ _ _ _ _ _=>O) (Dw J J) ?_;refine F8 (by kernel_rfl) ?_;refine B5 (s:={ t:=[(6,_,_),(15,_,_),(16,_,_),(53,_,_),(56,_,_),(59,_,_),(60,_,_)],bx:=[(.l 1011,_),(.l 1014,_),(.l 1017,_),(.l 1023,_),(.l 1026,_),(.l 15,_),(.l 16,_),(.l 4,_),(.l 5,_),(.l 6,_)],ow:=[],mp:=_ }) (B3 (⟨U J,U J,U J,U J,U J,U J,U J,O⟩) (⟨U J,U J,U J,U J,U J,U J,U J,U J,U J,U J,O⟩) O (.inr J)) ?_
     refine A6 ?_;refine A5 J J J (D0 J J gU gU J (IntWalk.i64_in _ (by omega))) ?_;refine A5 J J J (A7 J gU) ?_;refine B0 ?_;refine ⟨k + 1,?_,?_,B3 (⟨⟨_,rfl,?_⟩,⟨U J,U J,U J,U J,U J,U J,O⟩⟩) (⟨⟨_,rfl,?_⟩,⟨U J,U J,U J,U J,U J,U J,U J,U J,U J,O⟩⟩) O (.inr J)⟩
     all_goals (first|rfl|omega|exact (uBY hat _).trans (congrArg (fun z=>(strR z).flatten) hset))
    ·try simp only [nn,B4,nq] at hc4a
     have hke : k=n.roles.length:=by omega
     subst hke
     rw[R1]
     have hllb : n.tags.length=n.tags.length:=rfl
     refine E1 ?_
     repeat(first|refine D3 ?_|refine D4 ?_|refine D2 J ?_)
     refine A8 ?_;refine A8 (A6 ?_);refine A5 J J J (B1 J gU J J) ?_;refine A5 J J J (B2 J gU J J J J) ?_;refine A5 J J J (S7 56 3 2 J gU J J J J J) ?_;refine A5 J J J (A7 J gU) ?_;refine B0 ?_;refine B5 (s:={ t:=[(6,_,_),(15,_,_),(16,_,_),(53,_,_),(56,_,_),(72,_,_),(73,_,_)],bx:=[(.l 1011,_),(.l 1014,_),(.l 1017,_),(.l 1023,_),(.l 1026,_),(.l 15,_),(.l 16,_),(.l 4,_),(.l 5,_),(.l 6,_)],ow:=[],mp:=_ }) (B3 (⟨U J,U J,U J,U J,U J,U J,U J,O⟩) (⟨U J,U J,U J,U J,U J,U J,U J,U J,U J,U J,O⟩) O (.inr J)) ?_;refine C4 ?_;refine F5 (ι:=Nat) { t:=[(6,_,_),(15,_,_),(16,_,_),(53,_,_),(56,_,_),(72,_,_)],bx:=[(.l 1011,_),(.l 1014,_),(.l 1023,_),(.l 1026,_),(.l 15,_),(.l 16,_),(.l 4,_),(.l 5,_),(.l 6,_)],ow:=[],mp:=_ } (fun k=>[(73,true,xi (k : Int))]) (fun k=>[((.l 1017),(strR (upto (swp fr tn) n.tags k)).flatten)]) (fun k=>k≤n.tags.length) (fun k=>n.tags.length - k) (0) (by simp) (B3 (⟨U J,U J,U J,U J,U J,U J,U J,O⟩) (⟨⟨_,rfl,by rw[R2]⟩,⟨U J,U J,U J,U J,U J,U J,U J,U J,U J,O⟩⟩) O (.inr J)) ?_
     intro k hokb
     dsimp only [List.cons_append,List.nil_append]
     have hul:=V1 (swp fr tn) n.tags k
     have hfl : (strR (upto (swp fr tn) n.tags k)).flatten.length=n.tags.length * 1:=by rw[P2 (Kr _),B4,hul]
     refine A8 (A6 ?_);refine A5 J J J (B6 J J gU gU J) ?_;refine B0 ?_;refine A8 ?_;refine B8 J (fun hc4b=>?_) (fun hc4b=>?_)
     ·try simp only [nn,B4,nq] at hc4b
      have hlt : k < n.tags.length:=by omega
      have hat:=Y7 (f:=swp fr tn) (d:=[]) hlt
      have hset:=V3 (f:=swp fr tn) (d:=[]) hlt
      have hold:=uBS hat
      have hb0 : 0 + k * 1 + 1≤(strR (upto (swp fr tn) n.tags k)).flatten.length:=by rw[hfl]; omega
      refine C0 ?_;refine A8 ?_;refine C4 ?_;refine A8 (A6 ?_);refine A5 J J J (A7 J gU) ?_;refine A5 J J J (A9 J gU) ?_;refine B0 ?_;refine awp_drawn' (by kernel_rfl) ?_;refine K3 53 J J J J J J (P6 53 J gU J J J J J) ?_;refine B9 J J J J (B1 J gU J J) ?_;refine K3 56 J J J J J J (M6 (L:=n.tags.length) 56 3 2 1 J gU J J J J J J J (by omega)) ?_;refine B9 J J J J (A7 J gU) ?_;refine B9 J J J J (I1 J J gU gU J J J (fun _=>by omega)) ?_;refine S2 (Z':=sysO) ⟨.l 1017,0 + k * 1,_,[.s (swp fr tn (n.tags.getD k []))]⟩ [⟨.l 4,0,[.s fr],[.s fr]⟩,⟨.l 5,0,[.s tn],[.s tn]⟩] J J J J J J J J J (ps3 J J J) (Y8 (Nat.ble_eq_true_of_le hb0) J) (Bn hold) J J J (fun _ _ _ _ _ _ _=>O) (Dw J J) ?_;refine F8 (by kernel_rfl) ?_;refine B5 (s:={ t:=[(6,_,_),(15,_,_),(16,_,_),(53,_,_),(56,_,_),(72,_,_),(73,_,_)],bx:=[(.l 1011,_),(.l 1014,_),(.l 1017,_),(.l 1023,_),(.l 1026,_),(.l 15,_),(.l 16,_),(.l 4,_),(.l 5,_),(.l 6,_)],ow:=[],mp:=_ }) (B3 (⟨U J,U J,U J,U J,U J,U J,U J,O⟩) (⟨U J,U J,U J,U J,U J,U J,U J,U J,U J,U J,O⟩) O (.inr J)) ?_
      refine A6 ?_;refine A5 J J J (D0 J J gU gU J (IntWalk.i64_in _ (by omega))) ?_;refine A5 J J J (A7 J gU) ?_;refine B0 ?_;refine ⟨k + 1,?_,?_,B3 (⟨⟨_,rfl,?_⟩,⟨U J,U J,U J,U J,U J,U J,O⟩⟩) (⟨⟨_,rfl,?_⟩,⟨U J,U J,U J,U J,U J,U J,U J,U J,U J,O⟩⟩) O (.inr J)⟩
      all_goals (first|rfl|omega|exact (uBY hat _).trans (congrArg (fun z=>(strR z).flatten) hset))
     ·try simp only [nn,B4,nq] at hc4b
      have hke : k=n.tags.length:=by omega
      subst hke
      rw[R1]
      have hllc : n.fresh.length=n.fresh.length:=rfl
      refine E1 ?_
      repeat(first|refine D3 ?_|refine D4 ?_|refine D2 J ?_)
      refine A8 ?_;refine A8 (A6 ?_);refine A5 J J J (B1 J gU J J) ?_;refine A5 J J J (B2 J gU J J J J) ?_;refine A5 J J J (S7 56 2 1 J gU J J J J J) ?_;refine A5 J J J (A7 J gU) ?_;refine B0 ?_;refine B5 (s:={ t:=[(6,_,_),(15,_,_),(16,_,_),(53,_,_),(56,_,_),(85,_,_),(86,_,_)],bx:=[(.l 1011,_),(.l 1014,_),(.l 1017,_),(.l 1023,_),(.l 1026,_),(.l 15,_),(.l 16,_),(.l 4,_),(.l 5,_),(.l 6,_)],ow:=[],mp:=_ }) (B3 (⟨U J,U J,U J,U J,U J,U J,U J,O⟩) (⟨U J,U J,U J,U J,U J,U J,U J,U J,U J,U J,O⟩) O (.inr J)) ?_;refine C4 ?_;refine F5 (ι:=Nat) { t:=[(6,_,_),(15,_,_),(16,_,_),(53,_,_),(56,_,_),(85,_,_)],bx:=[(.l 1011,_),(.l 1017,_),(.l 1023,_),(.l 1026,_),(.l 15,_),(.l 16,_),(.l 4,_),(.l 5,_),(.l 6,_)],ow:=[],mp:=_ } (fun k=>[(86,true,xi (k : Int))]) (fun k=>[((.l 1014),(Fs.rows (upto (rnF fr tn) n.fresh k)).flatten)]) (fun k=>k≤n.fresh.length) (fun k=>n.fresh.length - k) (0) (by simp) (B3 (⟨U J,U J,U J,U J,U J,U J,U J,O⟩) (⟨⟨_,rfl,by rw[R2]⟩,⟨U J,U J,U J,U J,U J,U J,U J,U J,U J,O⟩⟩) O (.inr J)) ?_
      intro k hokc
      dsimp only [List.cons_append,List.nil_append]
      have hul:=V1 (rnF fr tn) n.fresh k
      have hfl : (Fs.rows (upto (rnF fr tn) n.fresh k)).flatten.length=n.fresh.length * 3:=by rw[P2 (Lg _),Fs.rows_len,hul]
      refine A8 (A6 ?_);refine A5 J J J (B6 J J gU gU J) ?_;refine B0 ?_;refine A8 ?_;refine B8 J (fun hc4c=>?_) (fun hc4c=>?_)
      ·try simp only [nn,B4,nq] at hc4c
       have hlt : k < n.fresh.length:=by omega
       have hat:=Y7 (f:=rnF fr tn) (d:=default) hlt
       have hset:=V3 (f:=rnF fr tn) (d:=default) hlt
       have hold:=S9 (j:=0) (Lg _) (Ng hat) J
       have hw0:=uCC hat (swp fr tn (n.fresh.getD k default).role)
       have hat1:=Ts (b:=(⟨swp fr tn (n.fresh.getD k default).role,(n.fresh.getD k default).name,(n.fresh.getD k default).sort⟩ : Fs)) hat
       have hold1:=S9 (j:=1) (Lg _) (Ng hat1) J
       have hw1:=uCw hat1 (swp fr tn (n.fresh.getD k default).name)
       rw[← hw0] at hold1 hw1
       rw[List.set_set] at hw1
       have hfl1 : (H3 (Fs.rows (upto (rnF fr tn) n.fresh k)).flatten (0 + k * 3 + 0) [.s (swp fr tn (n.fresh.getD k default).role)]).length=n.fresh.length * 3:=by rw[J0,hfl]
       have hb0 : 0 + k * 3 + 0 + 1≤(Fs.rows (upto (rnF fr tn) n.fresh k)).flatten.length:=by rw[hfl]; omega
       have hb1 : 0 + k * 3 + 1 + 1≤(H3 (Fs.rows (upto (rnF fr tn) n.fresh k)).flatten (0 + k * 3 + 0) [.s (swp fr tn (n.fresh.getD k default).role)]).length:=by rw[hfl1]; omega
       refine C0 ?_;refine A8 ?_;refine C4 ?_;refine A8 (A6 ?_);refine A5 J J J (A7 J gU) ?_;refine A5 J J J (A9 J gU) ?_;refine B0 ?_;refine A8 ?_;refine awp_drawn' (by kernel_rfl) ?_;refine K3 53 J J J J J J (P6 53 J gU J J J J J) ?_;refine B9 J J J J (B1 J gU J J) ?_;refine K3 56 J J J J J J (M6 (L:=n.fresh.length) 56 2 1 3 J gU J J J J J J J (by omega)) ?_;refine B9 J J J J (A7 J gU) ?_;refine B9 J J J J (I1 J J gU gU J J J (fun _=>by omega)) ?_;refine B9 J J J J (B1 J gU J J) ?_;refine S2 (Z':=sysO) ⟨.l 1014,0 + k * 3 + 0,_,[.s (swp fr tn (n.fresh.getD k default).role)]⟩ [⟨.l 4,0,[.s fr],[.s fr]⟩,⟨.l 5,0,[.s tn],[.s tn]⟩] J J J J J J J J J (ps3 J J J) (Y8 (Nat.ble_eq_true_of_le hb0) J) (Bn hold) J J J (fun _ _ _ _ _ _ _=>O) (Dw J J) ?_;refine F8 (by kernel_rfl) ?_;refine B5 (s:={ t:=[(6,_,_),(15,_,_),(16,_,_),(19,_,_),(53,_,_),(56,_,_),(85,_,_),(86,_,_)],bx:=[(.l 1011,_),(.l 1014,_),(.l 1017,_),(.l 1023,_),(.l 1026,_),(.l 15,_),(.l 16,_),(.l 4,_),(.l 5,_),(.l 6,_)],ow:=[],mp:=_ }) (B3 (⟨U J,U J,U J,U J,U J,U J,U J,U J,O⟩) (⟨U J,U J,U J,U J,U J,U J,U J,U J,U J,U J,O⟩) O (.inr J)) ?_
       refine awp_drawn' (by kernel_rfl) ?_;refine K3 53 J J J J J J (P6 53 J gU J J J J J) ?_;refine B9 J J J J (B1 J gU J J) ?_;refine K3 56 J J J J J J (M6 (L:=n.fresh.length) 56 2 1 3 J gU J J J J J J J (by omega)) ?_;refine B9 J J J J (A7 J gU) ?_;refine B9 J J J J (I1 J J gU gU J J J (fun _=>by omega)) ?_;refine B9 J J J J (B1 J gU J J) ?_;refine S2 (Z':=sysO) ⟨.l 1014,0 + k * 3 + 1,_,[.s (swp fr tn (n.fresh.getD k default).name)]⟩ [⟨.l 4,0,[.s fr],[.s fr]⟩,⟨.l 5,0,[.s tn],[.s tn]⟩] J J J J J J J J J (ps3 J J J) (Y8 (Nat.ble_eq_true_of_le hb1) J) (Bn hold1) J J J (fun _ _ _ _ _ _ _=>O) (Dw J J) ?_;refine F8 (by kernel_rfl) ?_;refine B5 (s:={ t:=[(6,_,_),(15,_,_),(16,_,_),(53,_,_),(56,_,_),(85,_,_),(86,_,_)],bx:=[(.l 1011,_),(.l 1014,_),(.l 1017,_),(.l 1023,_),(.l 1026,_),(.l 15,_),(.l 16,_),(.l 4,_),(.l 5,_),(.l 6,_)],ow:=[],mp:=_ }) (B3 (⟨U J,U J,U J,U J,U J,U J,U J,O⟩) (⟨U J,U J,U J,U J,U J,U J,U J,U J,U J,U J,O⟩) O (.inr J)) ?_;refine A6 ?_;refine A5 J J J (D0 J J gU gU J (IntWalk.i64_in _ (by omega))) ?_
       refine A5 J J J (A7 J gU) ?_;refine B0 ?_;refine ⟨k + 1,?_,?_,B3 (⟨⟨_,rfl,?_⟩,⟨U J,U J,U J,U J,U J,U J,O⟩⟩) (⟨⟨_,rfl,?_⟩,⟨U J,U J,U J,U J,U J,U J,U J,U J,U J,O⟩⟩) O (.inr J)⟩
       all_goals (first|rfl|omega|exact hw1.trans (congrArg (fun z=>(Fs.rows z).flatten) hset))
      ·try simp only [nn,B4,nq] at hc4c
       have hke : k=n.fresh.length:=by omega
       subst hke
       rw[R1]
       have hlld : (n.steps.map (chS (swG fr tn))).length=n.steps.length:=List.length_map _
       refine E1 ?_
       repeat(first|refine D3 ?_|refine D4 ?_|refine D2 J ?_)
       refine A8 ?_;refine A8 (A6 ?_);refine A5 J J J (B1 J gU J J) ?_;refine A5 J J J (B2 J gU J J J J) ?_;refine A5 J J J (S7 56 4 3 J gU J J J J J) ?_;refine A5 J J J (A7 J gU) ?_;refine B0 ?_;refine B5 (s:={ t:=[(6,_,_),(15,_,_),(16,_,_),(53,_,_),(56,_,_),(106,_,_),(107,_,_)],bx:=[(.l 1011,_),(.l 1014,_),(.l 1017,_),(.l 1023,_),(.l 1026,_),(.l 15,_),(.l 16,_),(.l 4,_),(.l 5,_),(.l 6,_)],ow:=[],mp:=_ }) (B3 (⟨U J,U J,U J,U J,U J,U J,U J,O⟩) (⟨U J,U J,U J,U J,U J,U J,U J,U J,U J,U J,O⟩) O (.inr J)) ?_;refine C4 ?_;refine F5 (ι:=Nat) { t:=[(6,_,_),(15,_,_),(16,_,_),(53,_,_),(56,_,_),(106,_,_)],bx:=[(.l 1011,_),(.l 1014,_),(.l 1017,_),(.l 1026,_),(.l 15,_),(.l 16,_),(.l 4,_),(.l 5,_),(.l 6,_)],ow:=[],mp:=_ } (fun k=>[(107,true,xi (k : Int))]) (fun k=>[((.l 1023),(Sp.rows (upto (rnS0 fr tn) (n.steps.map (chS (swG fr tn))) k)).flatten)]) (fun k=>k≤n.steps.length) (fun k=>n.steps.length - k) (0) (by simp) (B3 (⟨U J,U J,U J,U J,U J,U J,U J,O⟩) (⟨⟨_,rfl,by rw[R2]⟩,⟨U J,U J,U J,U J,U J,U J,U J,U J,U J,O⟩⟩) O (.inr J)) ?_
       intro k hokd
       dsimp only [List.cons_append,List.nil_append]
       have hul:=V1 (rnS0 fr tn) (n.steps.map (chS (swG fr tn))) k
       have hfl : (Sp.rows (upto (rnS0 fr tn) (n.steps.map (chS (swG fr tn))) k)).flatten.length=(n.steps.map (chS (swG fr tn))).length * 7:=by rw[P2 (Fz _),Sp.rows_len,hul]
       refine A8 (A6 ?_);refine A5 J J J (B6 J J gU gU J) ?_;refine B0 ?_;refine A8 ?_;refine B8 J (fun hc4d=>?_) (fun hc4d=>?_)
       ·try simp only [nn,B4,nq] at hc4d
        have hlt : k < (n.steps.map (chS (swG fr tn))).length:=by omega
        have hat:=Y7 (f:=rnS0 fr tn) (d:=default) hlt
        have hset:=V3 (f:=rnS0 fr tn) (d:=default) hlt
        have hold:=S9 (j:=0) (Fz _) (Mp hat) J
        have hw0:=uCF hat (swp fr tn ((n.steps.map (chS (swG fr tn))).getD k default).frm)
        have hat1:=Ts (b:=(⟨swp fr tn ((n.steps.map (chS (swG fr tn))).getD k default).frm,((n.steps.map (chS (swG fr tn))).getD k default).dst,((n.steps.map (chS (swG fr tn))).getD k default).msg,((n.steps.map (chS (swG fr tn))).getD k default).line⟩ : Sp)) hat
        have hold1:=S9 (j:=1) (Fz _) (Mp hat1) J
        have hw1:=uCA hat1 (swp fr tn ((n.steps.map (chS (swG fr tn))).getD k default).dst)
        rw[← hw0] at hold1 hw1
        rw[List.set_set] at hw1
        have hfl1 : (H3 (Sp.rows (upto (rnS0 fr tn) (n.steps.map (chS (swG fr tn))) k)).flatten (0 + k * 7 + 0) [.s (swp fr tn ((n.steps.map (chS (swG fr tn))).getD k default).frm)]).length=(n.steps.map (chS (swG fr tn))).length * 7:=by rw[J0,hfl]
        have hb0 : 0 + k * 7 + 0 + 1≤(Sp.rows (upto (rnS0 fr tn) (n.steps.map (chS (swG fr tn))) k)).flatten.length:=by rw[hfl]; omega
        have hb1 : 0 + k * 7 + 1 + 1≤(H3 (Sp.rows (upto (rnS0 fr tn) (n.steps.map (chS (swG fr tn))) k)).flatten (0 + k * 7 + 0) [.s (swp fr tn ((n.steps.map (chS (swG fr tn))).getD k default).frm)]).length:=by rw[hfl1]; omega
        refine C0 ?_;refine A8 ?_;refine C4 ?_;refine A8 (A6 ?_);refine A5 J J J (A7 J gU) ?_;refine A5 J J J (A9 J gU) ?_;refine B0 ?_;refine A8 ?_;refine awp_drawn' (by kernel_rfl) ?_;refine K3 53 J J J J J J (P6 53 J gU J J J J J) ?_;refine B9 J J J J (B1 J gU J J) ?_;refine K3 56 J J J J J J (M6 (L:=n.steps.length) 56 4 3 7 J gU J J J J J J J (by omega)) ?_;refine B9 J J J J (A7 J gU) ?_;refine B9 J J J J (I1 J J gU gU J J J (fun _=>by omega)) ?_;refine B9 J J J J (B1 J gU J J) ?_;refine S2 (Z':=sysO) ⟨.l 1023,0 + k * 7 + 0,_,[.s (swp fr tn ((n.steps.map (chS (swG fr tn))).getD k default).frm)]⟩ [⟨.l 4,0,[.s fr],[.s fr]⟩,⟨.l 5,0,[.s tn],[.s tn]⟩] J J J J J J J J J (ps3 J J J) (Y8 (Nat.ble_eq_true_of_le hb0) J) (Bn hold) J J J (fun _ _ _ _ _ _ _=>O) (Dw J J) ?_;refine F8 (by kernel_rfl) ?_;refine B5 (s:={ t:=[(6,_,_),(15,_,_),(16,_,_),(20,_,_),(53,_,_),(56,_,_),(106,_,_),(107,_,_)],bx:=[(.l 1011,_),(.l 1014,_),(.l 1017,_),(.l 1023,_),(.l 1026,_),(.l 15,_),(.l 16,_),(.l 4,_),(.l 5,_),(.l 6,_)],ow:=[],mp:=_ }) (B3 (⟨U J,U J,U J,U J,U J,U J,U J,U J,O⟩) (⟨U J,U J,U J,U J,U J,U J,U J,U J,U J,U J,O⟩) O (.inr J)) ?_
        refine awp_drawn' (by kernel_rfl) ?_;refine K3 53 J J J J J J (P6 53 J gU J J J J J) ?_;refine B9 J J J J (B1 J gU J J) ?_;refine K3 56 J J J J J J (M6 (L:=n.steps.length) 56 4 3 7 J gU J J J J J J J (by omega)) ?_;refine B9 J J J J (A7 J gU) ?_;refine B9 J J J J (I1 J J gU gU J J J (fun _=>by omega)) ?_;refine B9 J J J J (B1 J gU J J) ?_;refine S2 (Z':=sysO) ⟨.l 1023,0 + k * 7 + 1,_,[.s (swp fr tn ((n.steps.map (chS (swG fr tn))).getD k default).dst)]⟩ [⟨.l 4,0,[.s fr],[.s fr]⟩,⟨.l 5,0,[.s tn],[.s tn]⟩] J J J J J J J J J (ps3 J J J) (Y8 (Nat.ble_eq_true_of_le hb1) J) (Bn hold1) J J J (fun _ _ _ _ _ _ _=>O) (Dw J J) ?_;refine F8 (by kernel_rfl) ?_;refine B5 (s:={ t:=[(6,_,_),(15,_,_),(16,_,_),(53,_,_),(56,_,_),(106,_,_),(107,_,_)],bx:=[(.l 1011,_),(.l 1014,_),(.l 1017,_),(.l 1023,_),(.l 1026,_),(.l 15,_),(.l 16,_),(.l 4,_),(.l 5,_),(.l 6,_)],ow:=[],mp:=_ }) (B3 (⟨U J,U J,U J,U J,U J,U J,U J,O⟩) (⟨U J,U J,U J,U J,U J,U J,U J,U J,U J,U J,O⟩) O (.inr J)) ?_;refine A6 ?_;refine A5 J J J (D0 J J gU gU J (IntWalk.i64_in _ (by omega))) ?_
        refine A5 J J J (A7 J gU) ?_;refine B0 ?_;refine ⟨k + 1,?_,?_,B3 (⟨⟨_,rfl,?_⟩,⟨U J,U J,U J,U J,U J,U J,O⟩⟩) (⟨⟨_,rfl,?_⟩,⟨U J,U J,U J,U J,U J,U J,U J,U J,U J,O⟩⟩) O (.inr J)⟩
        all_goals (first|rfl|omega|exact hw1.trans (congrArg (fun z=>(Sp.rows z).flatten) hset))
       ·try simp only [nn,B4,nq] at hc4d
        have hke : k=(n.steps.map (chS (swG fr tn))).length:=by omega
        subst hke
        rw[R1,uBG]
        have hlle : (n.goals.map (chL (swG fr tn))).length=n.goals.length:=List.length_map _
        refine E1 ?_
        repeat(first|refine D3 ?_|refine D4 ?_|refine D2 J ?_)
        refine A8 ?_;refine A8 (A6 ?_);refine A5 J J J (B1 J gU J J) ?_;refine A5 J J J (B2 J gU J J J J) ?_;refine A5 J J J (S7 56 5 4 J gU J J J J J) ?_;refine A5 J J J (A7 J gU) ?_;refine B0 ?_;refine B5 (s:={ t:=[(6,_,_),(15,_,_),(16,_,_),(53,_,_),(56,_,_),(127,_,_),(128,_,_)],bx:=[(.l 1011,_),(.l 1014,_),(.l 1017,_),(.l 1023,_),(.l 1026,_),(.l 15,_),(.l 16,_),(.l 4,_),(.l 5,_),(.l 6,_)],ow:=[],mp:=_ }) (B3 (⟨U J,U J,U J,U J,U J,U J,U J,O⟩) (⟨U J,U J,U J,U J,U J,U J,U J,U J,U J,U J,O⟩) O (.inr J)) ?_;refine C4 ?_;refine F5 (ι:=Nat) { t:=[(6,_,_),(15,_,_),(16,_,_),(53,_,_),(56,_,_),(127,_,_)],bx:=[(.l 1011,_),(.l 1014,_),(.l 1017,_),(.l 1023,_),(.l 15,_),(.l 16,_),(.l 4,_),(.l 5,_),(.l 6,_)],ow:=[],mp:=_ } (fun k=>[(128,true,xi (k : Int))]) (fun k=>[((.l 1026),(Gl.rows (upto (rnL0 fr tn) (n.goals.map (chL (swG fr tn))) k)).flatten)]) (fun k=>k≤n.goals.length) (fun k=>n.goals.length - k) (0) (by simp) (B3 (⟨U J,U J,U J,U J,U J,U J,U J,O⟩) (⟨⟨_,rfl,by rw[R2]⟩,⟨U J,U J,U J,U J,U J,U J,U J,U J,U J,O⟩⟩) O (.inr J)) ?_
        intro k hoke
        dsimp only [List.cons_append,List.nil_append]
        have hul:=V1 (rnL0 fr tn) (n.goals.map (chL (swG fr tn))) k
        have hfl : (Gl.rows (upto (rnL0 fr tn) (n.goals.map (chL (swG fr tn))) k)).flatten.length=(n.goals.map (chL (swG fr tn))).length * 5:=by rw[P2 (Fy _),Gl.rows_len,hul]
        refine A8 (A6 ?_);refine A5 J J J (B6 J J gU gU J) ?_;refine B0 ?_;refine A8 ?_;refine B8 J (fun hc4e=>?_) (fun hc4e=>?_)
        ·try simp only [nn,B4,nq] at hc4e
         have hlt : k < (n.goals.map (chL (swG fr tn))).length:=by omega
         have hat:=Y7 (f:=rnL0 fr tn) (d:=default) hlt
         have hset:=V3 (f:=rnL0 fr tn) (d:=default) hlt
         have hold:=S9 (j:=1) (Fy _) (Mt hat) J
         have hw0:=uCH hat (swp fr tn ((n.goals.map (chL (swG fr tn))).getD k default).role)
         have hat1:=Ts (b:=(⟨((n.goals.map (chL (swG fr tn))).getD k default).kind,swp fr tn ((n.goals.map (chL (swG fr tn))).getD k default).role,((n.goals.map (chL (swG fr tn))).getD k default).wth,((n.goals.map (chL (swG fr tn))).getD k default).data,((n.goals.map (chL (swG fr tn))).getD k default).line⟩ : Gl)) hat
         have hold1:=S9 (j:=2) (Fy _) (Mt hat1) J
         have hw1:=uCz hat1 (swp fr tn ((n.goals.map (chL (swG fr tn))).getD k default).wth)
         rw[← hw0] at hold1 hw1
         rw[List.set_set] at hw1
         have hfl1 : (H3 (Gl.rows (upto (rnL0 fr tn) (n.goals.map (chL (swG fr tn))) k)).flatten (0 + k * 5 + 1) [.s (swp fr tn ((n.goals.map (chL (swG fr tn))).getD k default).role)]).length=(n.goals.map (chL (swG fr tn))).length * 5:=by rw[J0,hfl]
         have hb0 : 0 + k * 5 + 1 + 1≤(Gl.rows (upto (rnL0 fr tn) (n.goals.map (chL (swG fr tn))) k)).flatten.length:=by rw[hfl]; omega
         have hb1 : 0 + k * 5 + 2 + 1≤(H3 (Gl.rows (upto (rnL0 fr tn) (n.goals.map (chL (swG fr tn))) k)).flatten (0 + k * 5 + 1) [.s (swp fr tn ((n.goals.map (chL (swG fr tn))).getD k default).role)]).length:=by rw[hfl1]; omega
         refine C0 ?_;refine A8 ?_;refine C4 ?_;refine A8 (A6 ?_);refine A5 J J J (A7 J gU) ?_;refine A5 J J J (A9 J gU) ?_;refine B0 ?_;refine A8 ?_;refine awp_drawn' (by kernel_rfl) ?_;refine K3 53 J J J J J J (P6 53 J gU J J J J J) ?_;refine B9 J J J J (B1 J gU J J) ?_;refine K3 56 J J J J J J (M6 (L:=n.goals.length) 56 5 4 5 J gU J J J J J J J (by omega)) ?_;refine B9 J J J J (A7 J gU) ?_;refine B9 J J J J (I1 J J gU gU J J J (fun _=>by omega)) ?_;refine B9 J J J J (B1 J gU J J) ?_;refine S2 (Z':=sysO) ⟨.l 1026,0 + k * 5 + 1,_,[.s (swp fr tn ((n.goals.map (chL (swG fr tn))).getD k default).role)]⟩ [⟨.l 4,0,[.s fr],[.s fr]⟩,⟨.l 5,0,[.s tn],[.s tn]⟩] J J J J J J J J J (ps3 J J J) (Y8 (Nat.ble_eq_true_of_le hb0) J) (Bn hold) J J J (fun _ _ _ _ _ _ _=>O) (Dw J J) ?_;refine F8 (by kernel_rfl) ?_;refine B5 (s:={ t:=[(6,_,_),(15,_,_),(16,_,_),(21,_,_),(53,_,_),(56,_,_),(127,_,_),(128,_,_)],bx:=[(.l 1011,_),(.l 1014,_),(.l 1017,_),(.l 1023,_),(.l 1026,_),(.l 15,_),(.l 16,_),(.l 4,_),(.l 5,_),(.l 6,_)],ow:=[],mp:=_ }) (B3 (⟨U J,U J,U J,U J,U J,U J,U J,U J,O⟩) (⟨U J,U J,U J,U J,U J,U J,U J,U J,U J,U J,O⟩) O (.inr J)) ?_
         refine awp_drawn' (by kernel_rfl) ?_;refine K3 53 J J J J J J (P6 53 J gU J J J J J) ?_;refine B9 J J J J (B1 J gU J J) ?_;refine K3 56 J J J J J J (M6 (L:=n.goals.length) 56 5 4 5 J gU J J J J J J J (by omega)) ?_;refine B9 J J J J (A7 J gU) ?_;refine B9 J J J J (I1 J J gU gU J J J (fun _=>by omega)) ?_;refine B9 J J J J (B1 J gU J J) ?_;refine S2 (Z':=sysO) ⟨.l 1026,0 + k * 5 + 2,_,[.s (swp fr tn ((n.goals.map (chL (swG fr tn))).getD k default).wth)]⟩ [⟨.l 4,0,[.s fr],[.s fr]⟩,⟨.l 5,0,[.s tn],[.s tn]⟩] J J J J J J J J J (ps3 J J J) (Y8 (Nat.ble_eq_true_of_le hb1) J) (Bn hold1) J J J (fun _ _ _ _ _ _ _=>O) (Dw J J) ?_;refine F8 (by kernel_rfl) ?_;refine B5 (s:={ t:=[(6,_,_),(15,_,_),(16,_,_),(53,_,_),(56,_,_),(127,_,_),(128,_,_)],bx:=[(.l 1011,_),(.l 1014,_),(.l 1017,_),(.l 1023,_),(.l 1026,_),(.l 15,_),(.l 16,_),(.l 4,_),(.l 5,_),(.l 6,_)],ow:=[],mp:=_ }) (B3 (⟨U J,U J,U J,U J,U J,U J,U J,O⟩) (⟨U J,U J,U J,U J,U J,U J,U J,U J,U J,U J,O⟩) O (.inr J)) ?_;refine A6 ?_;refine A5 J J J (D0 J J gU gU J (IntWalk.i64_in _ (by omega))) ?_
         refine A5 J J J (A7 J gU) ?_;refine B0 ?_;refine ⟨k + 1,?_,?_,B3 (⟨⟨_,rfl,?_⟩,⟨U J,U J,U J,U J,U J,U J,O⟩⟩) (⟨⟨_,rfl,?_⟩,⟨U J,U J,U J,U J,U J,U J,U J,U J,U J,O⟩⟩) O (.inr J)⟩
         all_goals (first|rfl|omega|exact hw1.trans (congrArg (fun z=>(Gl.rows z).flatten) hset))
        ·try simp only [nn,B4,nq] at hc4e
         have hke : k=(n.goals.map (chL (swG fr tn))).length:=by omega
         subst hke
         rw[R1,uBD]
         obtain ⟨z1,z2⟩:=Pu fr tn hs hg
         refine E1 ?_
         repeat(first|refine D3 ?_|refine D4 ?_|refine D2 J ?_)
         refine Bb (L:=n.roles.length) 56 1 0 1011 (.l 16) 1 (strR (n.roles.map (swp fr tn))) J J J J (by rw[B4,List.length_map]) (by omega) (Kr _) J J J J J ?_;refine Bb (L:=n.fresh.length) 56 2 1 1014 (.l 16) 2 (Fs.rows (n.fresh.map (rnF fr tn))) J J J J (by rw[Fs.rows_len,List.length_map]) (by omega) (Lg _) J J J J J ?_;refine Bb (L:=n.tags.length) 56 3 2 1017 (.l 16) 3 (strR (n.tags.map (swp fr tn))) J J J J (by rw[B4,List.length_map]) (by omega) (Kr _) J J J J J ?_;refine Bb (L:=n.steps.length) 56 4 3 1023 (.l 16) 4 (Sp.rows (n.steps.map (rnS fr tn))) J J J J (by rw[Sp.rows_len,List.length_map]) (by omega) (Fz _) J J J J J ?_;refine Bb (L:=n.goals.length) 56 5 4 1026 (.l 16) 5 (Gl.rows (n.goals.map (rnL fr tn))) J J J J (by rw[Gl.rows_len,List.length_map]) (by omega) (Fy _) J J J J J ?_;refine A8 ?_;refine A8 (A6 ?_);refine A5 J J J (B7 J gU J J J J J) ?_;refine C8 J J J J J J gU gU (N6 (rnN fr tn n) z1 z2) J ?_;refine A5 J J J (A7 J gU) ?_;refine A5 J J J (C2 J gU J) ?_;refine A5 J J J (C2 J gU J) ?_;refine A5 J J J (A9 J gU) ?_;refine A5 J J J (A9 J gU) ?_;refine B0 ?_;refine B5 (s:={ t:=[(6,_,_),(16,_,_),(23,_,_),(53,_,_),(56,_,_)],bx:=[(.l 1011,_),(.l 1014,_),(.l 1017,_),(.l 1023,_),(.l 1026,_),(.l 15,_),(.l 16,_),(.l 4,_),(.l 5,_),(.l 6,_)],ow:=[],mp:=_ }) (B3 (⟨U J,U J,U J,U J,U J,O⟩) (⟨U J,U J,U J,U J,U J,U J,U J,U J,U J,U J,O⟩) O (.inr J)) ?_
         refine A8 (A6 ?_);refine A5 J J J (A7 J gU) ?_;refine A5 J J J (B6 J J gU gU J) ?_;refine B0 ?_;refine B8 J (fun hc5=>?_) (fun hc5=>?_)
         ·have h5 : (chkE D8 (rnN fr tn n)).2≠0:=by simpa using hc5
          rw[if_pos h5]
          refine A8 (A6 ?_);refine A5 J J J (H0 J Tryz.underlying27 J gU) ?_;refine A5 J J J (A7 J gU) ?_;refine C3 J (C9 J J J J J J J) ?_;refine A5 J J J (A9 J gU) ?_;refine B0 ?_;refine C1 ?_
          repeat(first|refine tR ?_|refine bR ?_)
          refine C5 J ?_ O
          rfl
         ·have h5 : (chkE D8 (rnN fr tn n)).2=0:=by simpa using hc5
          rw[if_neg (by rw[h5]; simp)]
          refine C0 ?_;refine A8 (A6 ?_);refine A5 J J J (B7 J gU J J J J J) ?_;refine C3 J (C9 J J J J J J J) ?_;refine A5 J J J (A9 J gU) ?_;refine B0 ?_;refine C1 ?_
          repeat(first|refine tR ?_|refine bR ?_)
          refine C5 J ?_ O
          rfl
theorem Jd (n : Nar) (fr tn : List UInt8) (hd : ∀ g ∈ n.goals,g.data.length≤2097152) : Ctr sys 10 [xn n,xs fr,xs tn] [] (xb true) none []:=by
 refine D1 Tryz.func10 J J J J J J ?_;refine A8 (A6 ?_);refine C3 J (E2 J J J J) ?_;refine A5 J J J (A9 J gU) ?_;refine B0 ?_;refine A8 ?_;refine A8 (A6 ?_);refine C8 J J J J J J gU gU (Hh) J ?_;refine A5 J J J (F2 J gU) ?_;refine A5 J J J (A7 J gU) ?_;refine A5 J J J (B7 J gU J J J J J) ?_;refine C8 J J J J J J gU (fun hh=>gA ((fun hh=>hh) hh) (rfl)) (Tm n hd) J ?_;refine A5 J J J (F2 J (fun hh=>hh)) ?_;refine A5 J J J (D9 J J gU (fun _ hi=>gP J hi)) ?_;refine A5 J J J (A7 J gU) ?_;refine A5 J J J (A7 J gU) ?_;refine A5 J J J (M0 J (fun hh=>hh) (Tryz.underlying9)) ?_;refine H5 (s:=⟨[(1,_,_),(2,_,_),(3,_,_),(22,_,_),(24,_,_)],[(.l 3,_)],[],[]⟩) (B3 (⟨U J,U J,U J,U J,U J,O⟩) (⟨U J,O⟩) O) ?_;refine A5 J J J (B6 J J (fun hh=>hh) gU J) ?_;refine A5 J J J (D9 J J gU (fun _ hi=>gP J hi)) ?_;refine A5 J J J (A7 J gU) ?_;refine A5 J J J (A7 J gU) ?_;refine A5 J J J (M0 J (fun hh=>hh) (Tryz.underlying9)) ?_;refine A5 J J J (B6 J J (fun hh=>hh) gU J) ?_
 refine A5 J J J (D9 J J gU (fun _ hi=>gP J hi)) ?_;refine B0 ?_;refine B5 (s:=⟨[(1,_,_),(2,_,_),(3,_,_),(31,_,_)],[(.l 3,_)],[],[]⟩) (B3 (⟨U J,U J,U J,U J,O⟩) (⟨U J,O⟩) O) ?_;refine B8 J (fun hc=>?_) (fun hc=>?_)
 ·refine A8 (A6 ?_)
  refine C8 J J J J J J gU gU (Hh) J ?_;refine A5 J J J (A9 J gU) ?_;refine B0 ?_;refine C1 ?_
  repeat(first|refine tR ?_|refine bR ?_)
  refine C5 J ?_ O
  rfl
 ·try simp only [nn,B4,nq] at hc
  have hf : fewN n=true:=by simpa using hc.1.1
  obtain ⟨p1,p2,p3,p4⟩:=uBq (n:=n) hf
  have r1:=Er n fr tn p3 p4
  by_cases hq : (rnE n fr tn).2=0
  ·obtain ⟨hb,hE⟩:=uBz hq
   obtain ⟨z1,z2⟩:=Pu fr tn p3 p4
   have r2:=Er (rnN fr tn n) tn fr z1 z2
   obtain ⟨v,v1,v2⟩:=hb.sort
   have r3:=Ao n fr p3 p4
   have r4:=Ao (rnN fr tn n) tn z1 z2
   have r5:=Dg n fr p3 p4
   have r6:=Dg (rnN fr tn n) tn z1 z2
   rw[hE] at r1
   rw[hb.rn] at r2
   rw[v1] at r3
   rw[v2] at r4
   rw[hb.uses] at r6
   refine C0 ?_;refine A8 (A6 ?_);refine A5 J J J (B7 J gU J J J J J) ?_;refine A5 J J J (A7 J gU) ?_;refine A5 J J J (A7 J gU) ?_;refine C8 J J J J J J gU gU (r1) J ?_;refine A5 J J J (A7 J gU) ?_;refine A5 J J J (C2 J gU J) ?_;refine A5 J J J (C2 J gU J) ?_;refine C3 J (D7 J J J) ?_;refine C3 J (C9 J J J J J J J) ?_;refine A5 J J J (A9 J gU) ?_;refine B0 ?_;refine B5 (s:=⟨[(1,_,_),(2,_,_),(3,_,_),(7,_,_),(8,_,_)],[(.l 3,_),(.l 7,_)],[],[]⟩) (B3 (⟨U J,U J,U J,U J,U J,O⟩) (⟨U J,U J,O⟩) O) ?_;refine A8 ?_;refine A8 (A6 ?_);refine A5 J J J (A7 J gU) ?_;refine A5 J J J (B6 J J gU gU J) ?_;refine B0 ?_;refine B8 J (fun hc2=>?_) (fun hc2=>?_)
   ·exfalso
    simp at hc2
   ·skip
    refine C0 ?_;refine A8 (A6 ?_);refine A5 J J J (B7 J gU J J J J J) ?_;refine A5 J J J (A7 J gU) ?_;refine A5 J J J (A7 J gU) ?_;refine C8 J J J J J J gU gU (r2) J ?_;refine A5 J J J (A7 J gU) ?_;refine A5 J J J (C2 J gU J) ?_;refine A5 J J J (C2 J gU J) ?_;refine C3 J (D7 J J J) ?_;refine C3 J (C9 J J J J J J J) ?_;refine A5 J J J (A9 J gU) ?_;refine B0 ?_;refine B5 (s:=⟨[(1,_,_),(2,_,_),(3,_,_),(7,_,_),(9,_,_),(10,_,_)],[(.l 3,_),(.l 7,_),(.l 9,_)],[],[]⟩) (B3 (⟨U J,U J,U J,U J,U J,U J,O⟩) (⟨U J,U J,U J,O⟩) O) ?_;refine A8 (A6 ?_);refine A5 J J J (B7 J gU J J J J J) ?_;refine A5 J J J (A7 J gU) ?_;refine C8 J J J J J J gU gU (r3) J ?_;refine A5 J J J (A7 J gU) ?_;refine A5 J J J (C2 J gU J) ?_;refine A5 J J J (C2 J gU J) ?_;refine A5 J J J (A9 J gU) ?_;refine A5 J J J (A9 J gU) ?_;refine B0 ?_;refine B5 (s:=⟨[(1,_,_),(2,_,_),(3,_,_),(7,_,_),(9,_,_),(10,_,_),(11,_,_),(12,_,_)],[(.l 3,_),(.l 7,_),(.l 9,_)],[],[]⟩) (B3 (⟨U J,U J,U J,U J,U J,U J,U J,U J,O⟩) (⟨U J,U J,U J,O⟩) O) ?_
    refine A8 (A6 ?_);refine A5 J J J (B7 J gU J J J J J) ?_;refine A5 J J J (A7 J gU) ?_;refine C8 J J J J J J gU gU (r4) J ?_;refine A5 J J J (A7 J gU) ?_;refine A5 J J J (C2 J gU J) ?_;refine A5 J J J (C2 J gU J) ?_;refine A5 J J J (A9 J gU) ?_;refine A5 J J J (A9 J gU) ?_;refine B0 ?_;refine B5 (s:=⟨[(1,_,_),(2,_,_),(3,_,_),(7,_,_),(9,_,_),(10,_,_),(11,_,_),(12,_,_),(13,_,_),(14,_,_)],[(.l 3,_),(.l 7,_),(.l 9,_)],[],[]⟩) (B3 (⟨U J,U J,U J,U J,U J,U J,U J,U J,U J,U J,O⟩) (⟨U J,U J,U J,O⟩) O) ?_;refine A8 ?_;refine awp_drawn' (by kernel_rfl) ?_;refine B9 J J J J (A7 J gU) ?_;refine B9 J J J J (B6 J J gU gU J) ?_;refine B9 J J J J (A7 J gU) ?_;refine B9 J J J J (A7 J gU) ?_;refine B9 J J J J (B6 J J (fun hh=>hh) gU J) ?_;refine B9 J J J J (E4 J J gU (fun _ hi=>gP J hi)) ?_;refine B9 J J J J (A7 J gU) ?_;refine B9 J J J J (A7 J gU) ?_;refine B9 J J J J (B6 J J (fun hh=>hh) gU J) ?_;refine B9 J J J J (E4 J J gU (fun _ hi=>gP J hi)) ?_
    refine B9 J J J J (A7 J gU) ?_;refine B9 J J J J (A7 J gU) ?_;refine B9 J J J J (A7 J gU) ?_;refine B9 J J J J (B6 J J (fun hh=>hh) (fun hh=>hh) J) ?_;refine B9 J J J J (E4 J J gU (fun _ hi=>gP J hi)) ?_;refine B9 J J J J (A7 J gU) ?_;refine D5 J J J J J J J gU J J J J J ?_;refine D5 J J J J J J J gU J J J J J ?_;refine F3 J J J J J J J gU (fun hh=>gA ((fun hh=>hh) hh) (gA ((fun hh=>hh) hh) (rfl))) (Od n n J p3 p4) J ?_;refine B9 J J J J (E4 J J gU (fun _ hi=>gP J hi)) ?_;refine B9 J J J J (A7 J gU) ?_;refine D5 J J J J J J J gU J J J J J ?_;refine B9 J J J J (A7 J gU) ?_;refine F3 J J J J J J J gU (fun hh=>gA ((fun hh=>hh) hh) (gA ((fun hh=>hh) hh) (rfl))) (r5) J ?_;refine D5 J J J J J J J gU J J J J J ?_;refine B9 J J J J (A7 J gU) ?_;refine F3 J J J J J J J gU (fun hh=>gA ((fun hh=>hh) hh) (gA ((fun hh=>hh) hh) (rfl))) (r6) J ?_;refine F3 J J J J J J J gU (fun hh=>gA ((fun hh=>hh) hh) (gA ((fun hh=>hh) hh) (rfl))) (Fp _ _ J) J ?_;refine B9 J J J J (E4 J J gU (fun _ hi=>gP J hi)) ?_
    refine B9 J J J J (A9 J gU) ?_;refine F8 (by kernel_rfl) ?_;refine C1 ?_
    repeat(first|refine tR ?_|refine bR ?_)
    refine C5 J ?_ O;refine N0 ?_
    simp
  ·skip
   refine C0 ?_;refine A8 (A6 ?_);refine A5 J J J (B7 J gU J J J J J) ?_;refine A5 J J J (A7 J gU) ?_;refine A5 J J J (A7 J gU) ?_;refine C8 J J J J J J gU gU (r1) J ?_;refine A5 J J J (A7 J gU) ?_;refine A5 J J J (C2 J gU J) ?_;refine A5 J J J (C2 J gU J) ?_;refine C3 J (D7 J J J) ?_;refine C3 J (C9 J J J J J J J) ?_;refine A5 J J J (A9 J gU) ?_;refine B0 ?_;refine B5 (s:=⟨[(1,_,_),(2,_,_),(3,_,_),(7,_,_),(8,_,_)],[(.l 3,_),(.l 7,_)],[],[]⟩) (B3 (⟨U J,U J,U J,U J,U J,O⟩) (⟨U J,U J,O⟩) O) ?_;refine A8 ?_;refine A8 (A6 ?_);refine A5 J J J (A7 J gU) ?_;refine A5 J J J (B6 J J gU gU J) ?_;refine B0 ?_;refine B8 J (fun hc2=>?_) (fun hc2=>?_)
   ·refine A8 (A6 ?_)
    refine A5 J J J (A9 J gU) ?_;refine B0 ?_;refine C1 ?_
    repeat(first|refine tR ?_|refine bR ?_)
    refine C5 J ?_ O
    rfl
   ·exfalso
    exact hq (by simpa using hc2)
end Go.Proofs.YteidahabkfgfjaaGreat
namespace Go.Abs
def H7 (P : Program) (M : Nat) : Nat→TypeId→List C→Prop
 | 0,_,_=>False
 | n + 1,t,cs=>match P.underlying t with
  | some .bool=>∃ x,cs=[.b x]
  | some (.int k)=>∃ m,cs=[.i k m]∧(Lit.int k m).wf=true
  | some .string=>∃ l,cs=[.s l]∧l.length≤M
  | some (.slice e)=>∃ es,cs=[.sl (P.cellsOf e) es]∧es.length≤M ∧ ∀ row,row ∈ es→H7 P M n e row
  | some (.struct fs)=>Ge (H7 P M n) fs.toList cs
  | some (.array m e)=>hasN (H7 P M n e) m cs
  | _=>False
section
variable {H : Type} {enc : TypeId × Value→H} {P : Program} {L : List TypeId} {w : World}
structure Bnd (P : Program) (L : List TypeId) (M : Nat) (B : TypeId→DataW H→Prop) : Prop where
 str : ∀ {t : TypeId} {s : List UInt8},P.underlying t=some .string→B t (.lit (.string s))→s.length≤M
 sl : ∀ {t e : TypeId} {es sp : List (DataW H)},t ∈ L→P.underlying t=some (.slice e)→B t (.slice es sp)→es.length≤M ∧ ∀ x ∈ es,B e x
 st : ∀ {t : TypeId} {fs : Array Field} {ps : List (DataW H)},P.underlying t=some (.struct fs)→B t (.agg ps) → ∀ (j : Nat) (f : Field) (x : DataW H),fs.toList[j]? = some f→ps[j]? = some x→B f.type x
 arr : ∀ {t e : TypeId} {n : Nat} {ps : List (DataW H)},P.underlying t=some (.array n e)→B t (.agg ps) → ∀ x ∈ ps,B e x
theorem Fo {M : Nat} {B : TypeId→DataW H→Prop} (hB : Bnd P L M B) (hL : Gy P L=true) : ∀ (fuel : Nat) (t : TypeId) (vs : List Value) (d : DataW H) (p : List MemPlace),t ∈ L→B t d →
  DataW.trod enc P w 0 (fun _=>true) true fuel t vs=some (d,p) → ∃ cs,H7 P M fuel t cs∧All2 (CRep w (topG w).S) cs vs∧cs.length=P.cellsOf t
 | 0,t,vs,d,p,_,_,h=>by simp [DataW.trod] at h
 | fuel + 1,t,vs,d,p,ht,hbd,h=>by
  have IH:=Fo hB hL fuel
  have hc:=List.all_eq_true.1 hL t ht
  unfold DataW.trod at h
  split at h
  ·rename_i b hu
   simp only [hu,beq_iff_eq] at hc
   exact ⟨[.b b],by simp only [H7,hu]; exact ⟨_,rfl⟩,⟨.b b,O⟩,hc.symm⟩
  ·rename_i k k' n hu
   simp only [hu,beq_iff_eq] at hc
   split at h
   ·rename_i hk
    obtain ⟨rfl,hwf⟩:=hk
    exact ⟨[.i k' n],by simp only [H7,hu]; exact ⟨n,rfl,hwf⟩,⟨.i _ n,O⟩,hc.symm⟩
   ·simp at h
  ·rename_i hu; simp only [hu] at hc; simp at hc
  ·rename_i s hu
   simp only [hu,beq_iff_eq] at hc
   split at h
   ·rename_i hs
    have hs' : s.data.toList.length≤9223372036854775807:=by
     have h1 : s.data.toList.length=s.size:=rfl
     have h2 : maxLen=9223372036854775807:=by decide
     omega
    simp only [Option.some.injEq,Prod.mk.injEq] at h
    obtain ⟨rfl,_⟩:=h
    refine ⟨[.s s.data.toList],by simp only [H7,hu]; exact ⟨_,rfl,hB.str hu hbd⟩,⟨?_,O⟩,hc.symm⟩
    have := CRep.s (w := w) (S := (topG w).S) s.data.toList hs'
    rwa [Uf] at this
   ·simp at h
  ·rename_i hu; simp only [hu] at hc; simp at hc
  ·rename_i hu; simp only [hu] at hc; simp at hc
  ·rename_i e hu
   simp only [hu,Bool.and_eq_true,beq_iff_eq] at hc
   exact ⟨[.sl (P.cellsOf e) []],by simp [H7,hu],⟨.nil _,O⟩,hc.1.1.symm⟩
  ·rename_i e a len cap hu
   simp only [hu,Bool.and_eq_true,beq_iff_eq,decide_eq_true_eq,bne_iff_ne] at hc
   obtain ⟨⟨hc1,heL⟩,hsz0⟩:=hc
   simp only at h
   split at h
   ·rename_i hb
    obtain ⟨_,hlc,hcm⟩:=hb
    have hmax : len≤9223372036854775807:=by
     have h2 : maxLen=9223372036854775807:=by decide
     omega
    simp only [Option.bind_eq_some_iff,if_true,Option.map_eq_some_iff] at h
    obtain ⟨elems,h1,rest,h2,hd⟩:=h
    simp only [Prod.mk.injEq] at hd
    obtain ⟨rfl,_⟩:=hd
    have hbs:=hB.sl ht hu hbd
    have hel0 : ∀ i,i < len → ∃ ci y,w.cells? 0 (a.add (i * P.cellsOf e)) (P.cellsOf e)=some ci∧DataW.trod enc P w 0 (fun _=>true) true fuel e ci=some y∧B e y.1:=by
     intro i hil
     obtain ⟨y,hy,hy2⟩:=Gx h1 (i:=i) (x:=i) (by simp [hil])
     simp only [Option.bind_eq_some_iff] at hy
     obtain ⟨ci,q1,q2⟩:=hy
     exact ⟨ci,y,q1,q2,hbs.2 _ (List.mem_map.2 ⟨y,List.mem_of_getElem? hy2,rfl⟩)⟩
    have hlen0 : elems.length=len := by have := Go.mapM_some_length h1; simpa using this
    have hel : ∀ i,i < cap → ∃ ci y,w.cells? 0 (a.add (i * P.cellsOf e)) (P.cellsOf e)=some ci∧DataW.trod enc P w 0 (fun _=>true) true fuel e ci=some y:=by
     intro i hi
     by_cases hil : i < len
     ·obtain ⟨y,hy,_⟩:=Gx h1 (i:=i) (x:=i) (by simp [hil])
      simp only [Option.bind_eq_some_iff] at hy
      obtain ⟨ci,q1,q2⟩:=hy
      exact ⟨ci,y,q1,q2⟩
     ·obtain ⟨y,hy,_⟩:=Gx h2 (i:=i - len) (x:=i - len) (by simp [show i - len < cap - len by omega])
      rw[show len + (i - len)=i by omega] at hy
      simp only [Option.bind_eq_some_iff] at hy
      obtain ⟨ci,q1,q2⟩:=hy
      exact ⟨ci,y,q1,q2⟩
    have hspot : cap≠0→a.spot=none:=by
     intro h0
     obtain ⟨ci,y,q1,_⟩:=hel 0 (by omega)
     obtain ⟨q3,q4⟩:=Pe q1
     have hlt : 0 < ci.length:=by omega
     have := q4 0 _ (List.getElem?_eq_getElem hlt)
     simpa [Addr.add] using World.cell?_spot this
    obtain ⟨es,hesl,hes⟩:=U1 (R:=fun i row=>H7 P M fuel e row∧row.length=P.cellsOf e∧RowAt w (topG w).S a.block (a.off + i * P.cellsOf e) row) len (by
     intro i hi
     obtain ⟨ci,⟨y1,y2⟩,q1,q2,q3⟩:=hel0 i (by omega)
     obtain ⟨row,r1,r2,r3⟩:=IH e ci y1 y2 heL q3 q2
     refine ⟨row,r1,r3,fun j c hj=>?_⟩
     obtain ⟨v,hv,hrep⟩:=r2.get j c hj
     have hcell:=(Pe q1).2 j v hv
     have hsp:=hspot (by omega)
     obtain ⟨b,o,sp⟩:=a
     simp only at hsp
     subst hsp
     rw[uBh] at hcell
     exact ⟨uCg (World.block_lt_of_cell? w ⟨b,o + i * P.cellsOf e + j,none⟩ hcell),v,hcell,hrep⟩)
    refine ⟨[.sl (P.cellsOf e) es],?_,⟨?_,O⟩,hc1.symm⟩
    ·simp only [H7,hu]
     refine ⟨es,rfl,by have := hbs.1; rw[List.length_map] at this; omega,fun row hr=>?_⟩
     obtain ⟨i,hi⟩:=List.getElem?_of_mem hr
     exact (hes i row hi).1
    ·exact CRep.mk_any hesl hlc hmax hspot fun i row hi=>(hes i row hi).2
   ·simp at h
  ·rename_i vs _ _ fs hu
   simp only [hu,beq_iff_eq] at hc
   split at h
   ·rename_i hlen
    simp only [Option.map_eq_some_iff] at h
    obtain ⟨xs,hxs,hd⟩:=h
    simp only [Prod.mk.injEq] at hd
    obtain ⟨rfl,_⟩:=hd
    have hbs:=hB.st hu hbd
    have key : ∀ (fs : List Field) (off : Nat) (xs : List (DataW H × List MemPlace)),Gc P L fs off=some (P.cellsOf t) →
      (fs.mapM fun f=>DataW.trod enc P w 0 (fun _=>true) true fuel f.type ((vs.drop f.offset).take (P.cellsOf f.type)))=some xs→(∀ (j : Nat) (f : Field) (x : DataW H),fs[j]? = some f→(xs.map (·.1))[j]? = some x→B f.type x) →
      ∃ cs,Ge (H7 P M fuel) fs cs∧All2 (CRep w (topG w).S) cs (vs.drop off)∧cs.length=P.cellsOf t - off:=by
     intro fs
     induction fs with
     | nil =>
      intro off xs hf _ _
      simp only [Gc,Option.some.injEq] at hf
      refine ⟨[],rfl,?_,by simp; omega⟩
      rw[List.drop_eq_nil_of_le (by omega)]
      trivial
     | cons f r ih =>
      intro off xs hf hm hbb
      simp only [Gc] at hf
      split at hf
      ·rename_i hfo
       obtain ⟨rfl,hfL⟩:=hfo
       simp only [List.mapM_cons,Option.bind_eq_bind,Option.bind_eq_some_iff] at hm
       obtain ⟨⟨y1,y2⟩,hy,ys,hys,hxs2⟩:=hm
       have hxs2 : (y1,y2) :: ys=xs:=by simpa using hxs2
       subst hxs2
       obtain ⟨a,a1,a2,a3⟩:=IH _ _ _ _ hfL (hbb 0 f y1 rfl rfl) hy
       obtain ⟨b,b1,b2,b3⟩:=ih _ _ hf hys (fun j f x h1 h2=>hbb (j + 1) f x (by simpa using h1) (by simpa using h2))
       have hle:=Oe hf
       refine ⟨a++b,⟨a,b,rfl,a1,b1⟩,?_,by simp; omega⟩
       have := a2.append b2
       rwa [← List.drop_drop,List.take_append_drop] at this
      ·simp at hf
    obtain ⟨cs,c1,c2,c3⟩:=key fs.toList 0 xs hc hxs hbs
    exact ⟨cs,by simp only [H7,hu]; exact c1,by simpa using c2,by simpa using c3⟩
   ·simp at h
  ·rename_i vs _ _ n e hu
   simp only [hu,Bool.and_eq_true,beq_iff_eq,decide_eq_true_eq] at hc
   obtain ⟨heL,hct⟩:=hc
   split at h
   ·rename_i hlen
    simp only [Option.map_eq_some_iff] at h
    obtain ⟨xs,hxs,hd⟩:=h
    simp only [Prod.mk.injEq] at hd
    obtain ⟨rfl,_⟩:=hd
    have hbs:=hB.arr hu hbd
    have key : ∀ (m k : Nat),k + m=n → ∃ cs,hasN (H7 P M fuel e) m cs∧All2 (CRep w (topG w).S) cs (vs.drop (k * P.cellsOf e))∧cs.length=m * P.cellsOf e:=by
     intro m
     induction m with
     | zero =>
      intro k hk
      refine ⟨[],rfl,?_,by simp⟩
      have : k=n:=by omega
      subst this
      rw[List.drop_eq_nil_of_le (by omega)]
      trivial
     | succ m ih =>
      intro k hk
      obtain ⟨⟨y1,y2⟩,hy,hy2⟩:=Gx hxs (i:=k) (x:=k) (by simp [show k < n by omega])
      obtain ⟨a,a1,a2,a3⟩:=IH _ _ _ _ heL (hbs _ (List.mem_map.2 ⟨(y1,y2),List.mem_of_getElem? hy2,rfl⟩)) hy
      obtain ⟨b,b1,b2,b3⟩:=ih (k + 1) (by omega)
      refine ⟨a++b,⟨a,b,rfl,a1,b1⟩,?_,by simp [a3,b3,Nat.succ_mul]; omega⟩
      have := a2.append b2
      rwa [Nat.succ_mul,← List.drop_drop,List.take_append_drop] at this
    obtain ⟨cs,c1,c2,c3⟩:=key n 0 (by omega)
    exact ⟨cs,by simp only [H7,hu]; exact c1,by simpa using c2,by rw[c3,hct]⟩
   ·simp at h
  all_goals first|(rename_i hu; simp only [hu] at hc; simp at hc)|(simp at h)|trace_state
theorem Pt {M : Nat} {B : TypeId→DataW H→Prop} (hB : Bnd P L M B) (hL : Gy P L=true) {t : TypeId} {v : Value} {base : Nat} {d : TypeDesc} {x : DataW H} {p : List MemPlace} (ht : t ∈ L) (hd : P.underlying t=some d) (hp : Ss d=true) (hok : Value.okWide P w .any base t v)
  (hbd : B t x) (h : DataW.Trod enc P w 0 (fun _=>true) true t v x p) : ∃ n c,H7 P M n t [c]∧XRep w (topG w) (.v (.c c)) v:=by
 obtain ⟨n,hn⟩:=h
 rw[Cj (Nj hd hp hok)] at hn
 obtain ⟨cs,h1,h2,_⟩:=Fo hB hL n t _ _ _ ht hbd hn
 match cs,h2 with
 | [c],h2=>exact ⟨n,c,h1,h2.1⟩
theorem uAU {M : Nat} {B : TypeId→DataW H→Prop} (hB : Bnd P L M B) (hL : Gy P L=true) {t : TypeId} {v : Value} {base : Nat} {d : TypeDesc} {x : DataW H} {p : List MemPlace} (ht : t ∈ L) (hd : P.underlying t=some d) (hp : rowD d=true) (hok : Value.okWide P w .any base t v)
  (hbd : B t x) (h : DataW.Trod enc P w 0 (fun _=>true) true t v x p) : ∃ n cs,H7 P M n t cs∧XRep w (topG w) (.v (.agg cs)) v:=by
 obtain ⟨n,hn⟩:=h
 obtain ⟨vs,rfl⟩:=Tx hd hp hok
 obtain ⟨cs,h1,h2,_⟩:=Fo hB hL n t _ _ _ ht hbd hn
 exact ⟨n,cs,h1,vs.toList,by simp,by simpa [Value.cells] using h2⟩
end
end Go.Abs
namespace Go.Proofs.YteidahabkfgfjaaGreat
open Go Go.Abs
theorem U1 {α : Type} {f : α→List C} {R : List C→Prop} (h : ∀ row,R row → ∃ t : α,row=f t) : ∀ es : List (List C),(∀ row,row ∈ es→R row) → ∃ ts : List α,es=ts.map f
 | [],_=>⟨[],rfl⟩
 | e :: es,he=>by
  obtain ⟨t,ht⟩:=h e (he e (List.mem_cons_self ..))
  obtain ⟨ts,hts⟩:=U1 h es fun row hr=>he row (List.mem_cons_of_mem _ hr)
  exact ⟨t :: ts,by rw[List.map_cons,← hts,ht]⟩
theorem own : ownKnob Tryz.prog.godebug=none:=by kernel_rfl
theorem Mw : laidOutB Tryz.prog=true:=by kernel_rfl
theorem uCt {H : Type} (d : DataW H) : 1≤Rows.uptoBulk d:=by
 cases d with
 | lit l=>cases l <;> simp [Rows.uptoBulk]
 | nil=>simp [Rows.uptoBulk]
 | ptr d=>simp [Rows.uptoBulk]
 | slice elems spare=>simp [Rows.uptoBulk]
 | agg parts=>simp [Rows.uptoBulk]
 | iface t d=>simp [Rows.uptoBulk]
 | map entries=>simp [Rows.uptoBulk]
 | held h=>simp [Rows.uptoBulk]
theorem Cq {H : Type} {d : DataW H} {l : List (DataW H)} (h : d ∈ l) : Rows.uptoBulk d≤Rows.uptoBulkAll l:=by
 induction l with
 | nil=>cases h
 | cons x r ih =>
  simp only [Rows.uptoBulkAll]
  rcases List.mem_cons.1 h with e | e
  ·subst e; omega
  ·have := ih e; omega
theorem uCd {H : Type} (l : List (DataW H)) : l.length≤Rows.uptoBulkAll l:=by
 induction l with
 | nil=>simp
 | cons x r ih=>have := uCt x; simp only [Rows.uptoBulkAll,List.length_cons]; omega
theorem Hy {H : Type} {L : List TypeId} : Bnd Tryz.prog L 1048576 (fun _ (d : DataW H)=>Rows.uptoBulk d≤1048576) where
 str:=fun _ h=>by simp only [Rows.uptoBulk] at h; omega
 sl:=fun {t e es sp} _ _ h=>by
  simp only [Rows.uptoBulk] at h
  have h1:=uCd es
  exact ⟨by omega,fun x hx=>by have := Cq hx; omega⟩
 st:=fun {t fs ps} _ h j f x _ hx=>by
  simp only [Rows.uptoBulk] at h
  have := Cq (List.mem_of_getElem? hx); omega
 arr:=fun {t e n ps} _ h x hx=>by
  simp only [Rows.uptoBulk] at h
  have := Cq hx; omega
theorem Sh : Gy Tryz.prog [3,9,5,22,47,39,79,23,49,24,51,25,27]=true:=by kernel_rfl
theorem Zl : Tryz.prog.cellsOf 47=4:=by kernel_rfl
theorem uCb : Tryz.prog.cellsOf 9=1:=by kernel_rfl
theorem uBj : Tryz.prog.cellsOf 79=3:=by kernel_rfl
theorem uBM : Tryz.prog.cellsOf 49=7:=by kernel_rfl
theorem uBK : Tryz.prog.cellsOf 51=5:=by kernel_rfl
theorem Ca {M n : Nat} {cs : List C} (h : H7 Tryz.prog M n 3 cs) : ∃ m,cs=[.i .i64 m]:=by
 cases n with
 | zero=>exact h.elim
 | succ n =>
  simp only [H7,Tryz.underlying3] at h
  obtain ⟨m,h,_⟩:=h
  exact ⟨m,h⟩
theorem T9 {M n : Nat} {cs : List C} (h : H7 Tryz.prog M n 9 cs) : ∃ l,cs=[.s l]:=by
 cases n with
 | zero=>exact h.elim
 | succ n =>
  simp only [H7,Tryz.underlying9] at h
  obtain ⟨m,h,_⟩:=h
  exact ⟨m,h⟩
theorem Qi {M n : Nat} {cs : List C} (h : H7 Tryz.prog M n 22 cs) : ∃ l : List (List UInt8),cs=[.sl 1 (strR l)]:=by
 cases n with
 | zero=>exact h.elim
 | succ n =>
  simp only [H7,Tryz.underlying22,uCb] at h
  obtain ⟨es,h1,_,h5⟩:=h
  obtain ⟨ts,rfl⟩:=U1 (f:=fun s : List UInt8=>[C.s s]) (fun row hr=>T9 hr) es h5
  exact ⟨ts,h1⟩
theorem Rl {M : Nat} (n : Nat) : ∀ cs : List C,H7 Tryz.prog M n 47 cs → ∃ t : T,cs=t.cells:=by
 induction n using Nat.strongRecOn with
 | ind n IH =>
  intro cs h
  cases n with
  | zero=>exact h.elim
  | succ n =>
   simp only [H7,Tryz.underlying47,Ge] at h
   obtain ⟨a,b,rfl,h1,c,d,rfl,h2,e,f,rfl,h3,g,k,rfl,h4,rfl⟩:=h
   obtain ⟨m1,rfl⟩:=Ca h1
   obtain ⟨m2,rfl⟩:=T9 h2
   obtain ⟨m3,rfl⟩:=Ca h3
   cases n with
   | zero=>exact h4.elim
   | succ n =>
    simp only [H7,Tryz.underlying39,Zl] at h4
    obtain ⟨es,rfl,_,h5⟩:=h4
    obtain ⟨ts,rfl⟩:=U1 (f:=T.cells) (IH n (by omega)) es h5
    exact ⟨.mk m1 m2 m3 ts,by simp [T.cells,T.kind,T.name,T.sort,T.kids,T.rows_eq]⟩
theorem Wn {M n : Nat} {cs : List C} (h : H7 Tryz.prog M n 39 cs) : ∃ ts : List T,cs=[.sl 4 (T.rows ts)]∧ts.length≤M:=by
 cases n with
 | zero=>exact h.elim
 | succ n =>
  simp only [H7,Tryz.underlying39,Zl] at h
  obtain ⟨es,h1,h2,h5⟩:=h
  obtain ⟨ts,rfl⟩:=U1 (f:=T.cells) (Rl n) es h5
  exact ⟨ts,by rw[h1,T.rows_eq],by simpa using h2⟩
theorem Yb {M n : Nat} {cs : List C} (h : H7 Tryz.prog M n 79 cs) : ∃ f : Fs,cs=f.cells:=by
 cases n with
 | zero=>exact h.elim
 | succ n =>
  simp only [H7,Tryz.underlying79,Ge] at h
  obtain ⟨a,b,rfl,h1,c,d,rfl,h2,e,f,rfl,h3,rfl⟩:=h
  obtain ⟨m1,rfl⟩:=T9 h1
  obtain ⟨m2,rfl⟩:=T9 h2
  obtain ⟨m3,rfl⟩:=Ca h3
  exact ⟨⟨m1,m2,m3⟩,rfl⟩
theorem uAM {M n : Nat} {cs : List C} (h : H7 Tryz.prog M n 49 cs) : ∃ s : Sp,cs=s.cells:=by
 cases n with
 | zero=>exact h.elim
 | succ n =>
  simp only [H7,Tryz.underlying49,Ge] at h
  obtain ⟨a,b,rfl,h1,c,d,rfl,h2,e,f,rfl,h3,g,k,rfl,h4,rfl⟩:=h
  obtain ⟨m1,rfl⟩:=T9 h1
  obtain ⟨m2,rfl⟩:=T9 h2
  obtain ⟨m3,rfl⟩:=Rl _ _ h3
  obtain ⟨m4,rfl⟩:=Ca h4
  exact ⟨⟨m1,m2,m3,m4⟩,by cases m3; rfl⟩
theorem Yl {M n : Nat} {cs : List C} (h : H7 Tryz.prog M n 51 cs) : ∃ g : {g : Gl // g.data.length≤M},cs=g.1.cells:=by
 cases n with
 | zero=>exact h.elim
 | succ n =>
  simp only [H7,Tryz.underlying51,Ge] at h
  obtain ⟨a,b,rfl,h1,c,d,rfl,h2,e,f,rfl,h3,g,k,rfl,h4,u,v,rfl,h5,rfl⟩:=h
  obtain ⟨m1,rfl⟩:=Ca h1
  obtain ⟨m2,rfl⟩:=T9 h2
  obtain ⟨m3,rfl⟩:=T9 h3
  obtain ⟨m4,rfl,hl⟩:=Wn h4
  obtain ⟨m5,rfl⟩:=Ca h5
  exact ⟨⟨⟨m1,m2,m3,m4,m5⟩,hl⟩,rfl⟩
theorem Xi {M n : Nat} {cs : List C} (h : H7 Tryz.prog M n 23 cs) : ∃ l : List Fs,cs=[.sl 3 (Fs.rows l)]:=by
 cases n with
 | zero=>exact h.elim
 | succ n =>
  simp only [H7,Tryz.underlying23,uBj] at h
  obtain ⟨es,h1,_,h5⟩:=h
  obtain ⟨ts,rfl⟩:=U1 (f:=Fs.cells) (fun row hr=>Yb hr) es h5
  exact ⟨ts,h1⟩
theorem Wj {M n : Nat} {cs : List C} (h : H7 Tryz.prog M n 24 cs) : ∃ l : List Sp,cs=[.sl 7 (Sp.rows l)]:=by
 cases n with
 | zero=>exact h.elim
 | succ n =>
  simp only [H7,Tryz.underlying24,uBM] at h
  obtain ⟨es,h1,_,h5⟩:=h
  obtain ⟨ts,rfl⟩:=U1 (f:=Sp.cells) (fun row hr=>uAM hr) es h5
  exact ⟨ts,h1⟩
theorem Xc {M n : Nat} {cs : List C} (h : H7 Tryz.prog M n 25 cs) : ∃ l : List Gl,cs=[.sl 5 (Gl.rows l)] ∧ ∀ g ∈ l,g.data.length≤M:=by
 cases n with
 | zero=>exact h.elim
 | succ n =>
  simp only [H7,Tryz.underlying25,uBK] at h
  obtain ⟨es,h1,_,h5⟩:=h
  obtain ⟨ts,rfl⟩:=U1 (f:=fun g : {g : Gl // g.data.length≤M}=>g.1.cells) (fun row hr=>Yl hr) es h5
  refine ⟨ts.map (·.1),by rw[h1,Gl.rows,List.map_map]; rfl,fun g hg=>?_⟩
  obtain ⟨x,_,rfl⟩:=List.mem_map.1 hg
  exact x.2
theorem uB5 {n : Nat} {cs : List C} (h : H7 Tryz.prog 1048576 n 27 cs) : ∃ m : {m : Nar // ∀ g ∈ m.goals,g.data.length≤2097152},cs=m.1.cells:=by
 cases n with
 | zero=>exact h.elim
 | succ n =>
  simp only [H7,Tryz.underlying27,Ge] at h
  obtain ⟨a,b,rfl,h1,c,d,rfl,h2,e,f,rfl,h3,g,k,rfl,h4,u,v,rfl,h5,x,y,rfl,h6,rfl⟩:=h
  obtain ⟨m1,rfl⟩:=T9 h1
  obtain ⟨m2,rfl⟩:=Qi h2
  obtain ⟨m3,rfl⟩:=Xi h3
  obtain ⟨m4,rfl⟩:=Qi h4
  obtain ⟨m5,rfl⟩:=Wj h5
  obtain ⟨m6,rfl,hl⟩:=Xc h6
  exact ⟨⟨⟨m1,m2,m3,m4,m5,m6⟩,fun g hg=>Nat.le_trans (hl g hg) (by omega)⟩,rfl⟩
theorem Qp {M n : Nat} {c : C} (h : H7 Tryz.prog M n 9 [c]) : ∃ l,c = .s l:=by
 obtain ⟨l,hl⟩:=T9 h
 exact ⟨l,by simpa using hl⟩
end Go.Proofs.YteidahabkfgfjaaGreat
