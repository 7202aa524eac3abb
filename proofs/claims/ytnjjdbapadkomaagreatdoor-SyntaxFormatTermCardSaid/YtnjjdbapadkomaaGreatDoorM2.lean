/- Our abstract program logic and contracts of this seat's functions, part 2: no statement of its own (long names of ours are shortened by a program). -/
import Derived.Test.YtnjjdbapadkomaaGreatDoorM1
import Derived.Laws.Tables
import Derived.Laws.Small
import Derived.DataReads
import Derived.MapFrom
import Derived.Handed
import Derived.Carry
import Derived.Below
import Derived.Laws.Externs
import Derived.Lib.Bytealg
import Derived.Deep.AppendSrc
import Derived.Lib.UnsafeStr
import Derived.Laws.StructEq
import Derived.Laws.MakeOwn
import Derived.Laws.IdiomStrings
import Derived.RangeFuncBox
import Derived.MapKept
import Derived.WideLaws
import Derived.Test.YtnjjdbapadkomaaGreatDoorProg
import Derived.KernelRfl
import Derived.Lib.ItoaNum
set_option linter.unusedVariables false
set_option linter.unusedSimpArgs false
namespace Go.Abs
variable {Z : Pg}
section
variable {s0 : St} {N : Nat} {ops : Array Oper} {B : List Nat} {k : Nat} {rest : List Oper} {acc : List Lnk} {st : St} {o : Oper} {Q : St→Prop} {gate : Bool} {d : Nat}
theorem uAV {t : TypeId} {x : Operand} {g0 g : Bool} {n : Nm} {off : Nat} {ti : TyI} {cs : List C} {c : C} (hk : ops[k]? = some o) (ho : o.op = .load t x) (h0 : lk Z.T st o.type x=some (g0, .v (.ptr n off))) (hg : uA3 ops (rs (foot ops o [n] []) st) o=some gate) (hd : o.dst=some d) (hN : Nat.ble (d + 1) N=true)
  (h : lk Z.T (rs (foot ops o [n] []) st) o.type x=some (g, .v (.ptr n off))) (hgg : gate=true→g=true) (ht : tyAt Z.T t=some ti) (hagg : ti.agg=false) (hb : (rs (foot ops o [n] []) st).box n=some cs) (hc : cs[off]? = some c)
  (hr : Draw Z N s0 ops B (k + 1) rest (acc++[(k,{ d:=some (d,gate, .v (.c c)),drop:=[.t d] },foot ops o [n] [])]) (ap { d:=some (d,gate, .v (.c c)),drop:=[.t d] } st) Q) : Draw Z N s0 ops B k (o :: rest) acc st Q :=
 let _:=h0; uCy hk (uIb hg hd hN (by rw [ho]; exact uAm h hgg ht hagg hb hc)) hr
theorem uBQ {t : TypeId} {x : Operand} {g0 g : Bool} {n : Nm} {off : Nat} {ti : TyI} {cs ds : List C} (hk : ops[k]? = some o) (ho : o.op = .load t x) (h0 : lk Z.T st o.type x=some (g0, .v (.ptr n off))) (hg : uA3 ops (rs (foot ops o [n] []) st) o=some gate) (hd : o.dst=some d) (hN : Nat.ble (d + 1) N=true)
  (h : lk Z.T (rs (foot ops o [n] []) st) o.type x=some (g, .v (.ptr n off))) (hgg : gate=true→g=true) (ht : tyAt Z.T t=some ti) (hagg : ti.agg=true) (hb : (rs (foot ops o [n] []) st).box n=some cs) (hds : (cs.drop off).take ti.n=ds) (hl : ds.length=ti.n)
  (hr : Draw Z N s0 ops B (k + 1) rest (acc++[(k,{ d:=some (d,gate, .v (.agg ds)),drop:=[.t d] },foot ops o [n] [])]) (ap { d:=some (d,gate, .v (.agg ds)),drop:=[.t d] } st) Q) : Draw Z N s0 ops B k (o :: rest) acc st Q :=
 let _:=h0; uCy hk (uIb hg hd hN (by rw [ho]; exact uAs h hgg ht hagg hb hds hl)) hr
theorem awp_drawn' {Q : Exit→St→Prop} {id : Nat} {l : List Oper} (hcert : uHi l.toArray (Region.before l.toArray).toList=true) (h : Draw Z N st l.toArray (Region.before l.toArray).toList 0 l [] st (Q .normal)) : AWP Z N (.region id l.toArray true) Q st :=
 uKN _ hcert h
end
end Go.Abs
namespace Go.Abs
variable {Z : Pg}
theorem TyOk.fields {P : Program} {t : TypeId} {ti : TyI} {fs : Array Field} (h : tyB P t ti=true) (hu : P.underlying t=some (.struct fs)) :
  ∃ i zv,P.info? t=some i∧i.zero=some zv∧All2 (fun c v=>uCR c v=true) ti.z zv.cells.toList ∧ ∀ f ∈ fs.toList,∃ j,P.info? f.type=some j:=by
 unfold tyB at h
 split at h
 ·rename_i i d hi hd
  rw [hu] at hd
  simp only [Option.some.injEq] at hd
  subst hd
  simp only [Bool.and_eq_true,beq_iff_eq] at h
  obtain ⟨⟨⟨_,_⟩,h3⟩,⟨h4,h5⟩,_⟩:=h
  split at h3
  ·rename_i zv hz
   simp only [Bool.and_eq_true,beq_iff_eq] at h3
   refine ⟨i,zv,hi,hz,All2.ofB h3.2,?_⟩
   intro f hf
   obtain ⟨j,hj⟩:=List.getElem?_of_mem hf
   have hal:=All2.ofB h5
   have hlt : j < ti.offs.length:=by rw [hal.len]; exact (List.getElem?_eq_some_iff.1 hj).1
   obtain ⟨f',hf',hr⟩:=hal.get j _ (List.getElem?_eq_getElem hlt)
   rw [hj] at hf'
   simp only [Option.some.injEq] at hf'
   subst hf'
   simp only [Bool.and_eq_true] at hr
   obtain ⟨_,hr2⟩:=hr
   split at hr2
   ·rename_i k hk; exact ⟨k,hk⟩
   ·simp at hr2
  ·simp at h3
 ·simp at h
def uGg (T : List (Option TyI)) (st : St) (fs : List Field) : List (Nat × Operand)→List C→Option (Bool × List C)
 | [],acc=>some (true,acc)
 | (i,x) :: r,acc=>match fs[i]? with
  | some f=>(match tyAt T f.type with
   | some tj=>(match lk T st f.type x with
    | some (g, .v y)=>(match y.cells with
     | some cs=>cond (Nat.beq cs.length tj.n && Nat.ble (f.offset + cs.length) acc.length)
       (match uGg T st fs r (uBB acc f.offset cs) with | some (g',out)=>some (g && g',out) | none=>none) none
     | none=>none)
    | _=>none)
   | none=>none)
  | none=>none
section
variable {st : St} {ty : TypeId} {gate : Bool} {N : Nat} {ops : Array Oper} {o : Oper} {d : Nat} {K : St→Prop}
theorem uFx {E : Env} {G : Gh} {a : Act} {w : World} (hr : Rel E G st a w) {fs : List Field} {place : Nat→Option (Nat × Nat)}
  (hpl : ∀ (i : Nat) (f : Field) (tj : TyI),fs[i]? = some f→tyAt Z.T f.type=some tj→place i=some (f.offset,tj.n)) :
  ∀ {parts : List (Nat × Operand)} {acc out : List C} {g : Bool} {cells : Array Value},uGg Z.T st fs parts acc=some (g,out)→g=true→All2 (CRep w G.S) acc cells.toList →
   ∃ cells',Instr.fill place cells (parts.map fun (i,x)=>(i,a.eval x))=some cells'∧All2 (CRep w G.S) out cells'.toList
 | [],acc,out,g,cells,h,_,hc=>by
  simp only [uGg,Option.some.injEq,Prod.mk.injEq] at h
  obtain ⟨_,rfl⟩:=h
  exact ⟨cells,rfl,hc⟩
 | (i,x) :: r,acc,out,g,cells,h,hg,hc=>by
  simp only [uGg] at h
  split at h
  ·rename_i f hf
   split at h
   ·rename_i tj htj
    split at h
    ·rename_i g1 y hy
     split at h
     ·rename_i cs hcs
      cases hb : (Nat.beq cs.length tj.n && Nat.ble (f.offset + cs.length) acc.length) with
      | false=>rw [hb] at h; simp at h
      | true =>
       rw [hb,cond_true] at h
       rw [Bool.and_eq_true] at hb
       split at h
       ·rename_i g2 out2 h2
        simp only [Option.some.injEq,Prod.mk.injEq] at h
        obtain ⟨rfl,rfl⟩:=h
        rw [Bool.and_eq_true] at hg
        have hrep:=(show YRep w G y (a.eval x) from uAS hr hy hg.1).cells hcs
        have hn:=Nat.eq_of_beq_eq_true hb.1
        have hl:=Nat.le_of_ble_eq_true hb.2
        have hsz : (a.eval x).cells.size=tj.n:=by rw [← Array.length_toList,← hrep.len,hn]
        have hcl : acc.length=cells.size:=by rw [hc.len,Array.length_toList]
        have hfit : f.offset + (a.eval x).cells.size≤cells.size:=by rw [hsz,← hn]; omega
        obtain ⟨q1,q2⟩:=uFq f.offset (a.eval x) cells hfit
        obtain ⟨cells',h3,h4⟩:=uFx hr hpl (parts:=r) (cells:=(a.eval x).cells.zipIdx.foldl (fun cs (c,j)=>cs.setIfInBounds (f.offset + j) c) cells) h2 hg.2 (by
         refine All2.mk ((uEH _ _ _).trans (hcl.trans (q1.symm.trans Array.length_toList.symm))) ?_
         intro j c v hj hv
         rw [Array.getElem?_toList,q2 j] at hv
         rw [uD9 _ _ _ _ hl] at hj
         rw [hsz,← hn] at hv
         split at hj
         ·rename_i hin
          rw [if_pos hin] at hv
          obtain ⟨v',hv',hr'⟩:=hrep.get _ _ hj
          rw [Array.getElem?_toList,hv] at hv'
          simp only [Option.some.injEq] at hv'
          subst hv'
          exact hr'
         ·rename_i hin
          rw [if_neg hin] at hv
          obtain ⟨v',hv',hr'⟩:=hc.get _ _ hj
          rw [Array.getElem?_toList,hv] at hv'
          simp only [Option.some.injEq] at hv'
          subst hv'
          exact hr')
        refine ⟨cells',?_,h4⟩
        simp only [List.map_cons,Instr.fill,hpl i f tj hf htj]
        have hno : ¬ ((a.eval x).cells.size≠tj.n∨f.offset + (a.eval x).cells.size > cells.size):=by
         rintro (h | h)
         ·exact h hsz
         ·omega
        rw [if_neg (by simpa using hno)]
        exact h3
       ·simp at h
     ·simp at h
    ·simp at h
   ·simp at h
  ·simp at h
theorem uAU {t : TypeId} {parts : Array (Nat × Operand)} {fs : Array Field} {ti : TyI} {g : Bool} {out : List C} (ht : tyAt Z.T t=some ti) (hu : Z.P.underlying t=some (.struct fs))
  (hb : uGg Z.T st fs.toList parts.toList ti.z=some (g,out)) (hg : gate=true→g=true) : PureOk Z st (.build t parts) ty gate (.v (.agg out)):=by
 intro o E G a w ho _ hr hgt
 obtain ⟨i,zv,hi,hz,hzv,hall⟩:=TyOk.fields (Z.ty ht) hu
 obtain ⟨places,hp⟩:=MapFrom.mapM_some (f:=fun f=>(Z.P.info? f.type).map fun i=>(f.offset,i.size)) (l:=fs.toList) (fun f hf=>by
  obtain ⟨j,hj⟩:=hall f hf
  exact ⟨_,by rw [hj]; rfl⟩)
 obtain ⟨cells,h1,h2⟩:=uFx hr (place:=(places.toArray[·]?)) (fun k f tj hk htj=>by
  have := mapM_some_get hp k f hk
  obtain ⟨j,_,_,hj,_,hn,_⟩:=(Z.tyOk htj).info
  rw [hj] at this
  simp only [List.getElem?_toArray]
  rw [← this,← hn]; rfl) hb (hg hgt) (hzv.mono fun c v hcv=>CRep.ofConst (w:=w) (S:=G.S) hcv)
 refine ⟨.agg cells,⟨cells.toList,by simp,h2⟩,?_⟩
 have hbuilt : Z.P.built t (parts.map fun (i,x)=>(i,a.eval x)).toList=some cells:=by
  unfold Program.built
  simp only [hi,hu,hz,hp]
  rw [Array.toList_map]
  exact h1
 simp only [execOp,ho]
 simp [run_build w t _ cells hbuilt]
theorem uID {x y : Operand} {ts : Array TypeId} {gx gy : Bool} {k k' : IntKind} {m n : Int} (hx : lk Z.T st ty x=some (gx, .v (.c (.i k m)))) (hy : lk Z.T st ty y=some (gy, .v (.c (.i k' n))))
  (hgx : gate=true→gx=true) (hgy : gate=true→gy=true) : PureOk Z st (.call { callee:=.builtin .max,args:=#[x,y],argTypes:=ts }) ty gate (.v (.c (.i k (max m n)))):=by
 intro o E G a w ho _ hr hgt
 have h1:=XRep.int (uAS hr hx (hgx hgt))
 have h2:=XRep.int (uAS hr hy (hgy hgt))
 refine ⟨.int k (max m n),CRep.i _ _,?_⟩
 have : (if n > m then n else m)=max m n:=by split <;> omega
 simp [execOp,ho,h1,h2,Go.resolve,invoke,builtin,run_max_int2,← this]
theorem uBn {op : Op} {sz : Nat} (hop : op = .move (.const (.slice none 0 0))∨op = .assign (.const (.slice none 0 0))) (_hx : lk Z.T st ty (.const (.slice none 0 0))=some (true, .v (.c (.sl sz [])))) (hN : Nat.ble (d + 1) N=true) :
  Does Z N st (some d) op ty ((st.put d (true, .v (.c (.sl sz [])))).addOwn (.t d) sz):=by
 intro o E G a w hd ho hty hr hE K Q hK
 have hdN : d < E.nt:=by rw [hE.nt]; exact Nat.le_of_ble_eq_true hN
 unfold Oper.wp
 have : (execOp a.eval o).run Z.P w = .ok (.value (.slice none 0 0)) w:=by
  rcases hop with rfl | rfl <;> simp [execOp,ho,uEv]
 rw [this,Oper.upon_value,hd]
 have hp : Rel E G (st.put d (true, .v (.c (.sl sz [])))) (a.put (some d) (.slice none 0 0)) w:=hr.put hdN (fun _=>CRep.nil sz) (fun hf=>by simp at hf)
 refine hK G _ _ (hp.addOwn (v:=.slice none 0 0) ?_ (.inl rfl))
 show (a.put (some d) (.slice none 0 0)).tmps[d]? = _
 rw [uBx (by rw [hr.nt]; exact hdN),if_pos rfl]
theorem uG9 {t : TypeId} {x : Operand} {n : Nm} {off : Nat} {cs : List C} {ti : TyI} {sz : Nat} (hx : lk Z.T st t x=some (true, .v (.ptr n off))) (hv : lk Z.T st t (.const (.slice none 0 0))=some (true, .v (.c (.sl sz []))))
  (hb : st.box n=some cs) (ht : tyAt Z.T t=some ti) (hn : ti.n=1) (hl : Nat.ble (off + 1) cs.length=true) (hnb : (!n.isBd || !Nat.beq off 0)=true:=by rfl) :
  Does Z N st none (.store t x (.const (.slice none 0 0))) ty ((st.store n (uBB cs off [.sl sz []]) off 1).addOwn (.b n off) sz):=by
 intro o E G a w hd ho _ hr hE K Q hK
 have h1 : a.eval x=_:=uAS hr hx rfl
 have h2 : All2 (CRep w G.S) [.sl sz []] (a.eval (.const (.slice none 0 0))).cells.toList:=(show YRep w G (.c (.sl sz [])) _ from uAS hr hv rfl).cells rfl
 have hl':=Nat.le_of_ble_eq_true hl
 have hrun:=uDf hr hb (ds:=[.sl sz []]) hl' ht (by simp [hn]) h2
 unfold Oper.wp
 have : (execOp a.eval o).run Z.P w = .ok .skip (w.setCells (G.A n).1 ((G.A n).2 + off) (a.eval (.const (.slice none 0 0))).cells.toList):=by
  simp [execOp,ho,h1,hrun]
 rw [this,Oper.upon_skip,hd]
 have hst:=hr.storeAll [.sl sz []] _ hb hl' h2 (nbOf hnb)
 refine hK G undef _ (Rel.putNone (hst.addOwn (v:=.slice none 0 0) ?_ (.inl rfl)) undef)
 obtain ⟨q1,_,u,q3,q4⟩:=hst.bx n (uBB cs off [.sl sz []]) (by rw [St.store_box,if_pos rfl]) off (.sl sz []) (uGo (by omega))
 refine ⟨?_,q1⟩
 have hcell:=hr.bx n cs hb off _ (List.getElem?_eq_getElem (by omega))
 obtain ⟨_,_,u0,hu0,_⟩:=hcell
 have h1c : (a.eval (.const (.slice none 0 0))).cells = #[.slice none 0 0]:=rfl
 rw [h1c]
 simp only [World.setCells]
 exact World.cell?_setCell_same _ _ _ hu0
theorem uGd {rest : List Oper} {fo : Operand} {args : Array Operand} {ts : Array TypeId} {f : FuncId} {xs cxs : List X} {res : X} (ps : List Pass)
  (ho : o.op = .call { callee:=.value fo,args:=args,argTypes:=ts }) (hg : uA3 ops st o=some true)
  (hf : lk Z.T st 0 fo=some (true, .fn f [])) (ha : uBV Z.T st ts.toList args.toList=some (true,xs)) (htr : cxs.map (X.tr ps)=xs) (htrok : uDI ps cxs=true)
  (hps : ∀ p ∈ ps,st.box p.n=some p.cs) (hnd : uB1 st ps=true)
  (hs : Ctr Z f cxs (ps.map Pass.old) res none (ps.map Pass.ds)) (hc : res.clean=true) (hd : o.dst=some d) (hN : Nat.ble (d + 1) N=true)
  (h : AL Z N ops rest K ((st.stores ps).put d (true,res))) : AL Z N ops (o :: rest) K st :=
 uCS (uHu ho hg hf ha htr htrok hps hnd hs hc (dst:=some d) hd ⟨hN,rfl⟩) h
end
end Go.Abs
namespace Go.Abs
variable {Z : Pg}
theorem gL {a b : Bool} (h : (a && b)=true) : a=true:=by cases a <;> simp_all
theorem gA {a b : Bool} (h : a=true) (k : b=true) : (a && b)=true:=by subst h; subst k; rfl
theorem gP {g x b : Bool} (h : g=true) (hi : x=b) : (g && (x == b))=true:=by subst h; subst hi; simp
theorem uMF {N : Nat} {x y : Code} {Q : Exit→St→Prop} {st : St} (S : St) (P : Prop) (h1 : AWP Z N x (uHw (fun s=>P∧Sub S s) Q) st) (h2 : P→AWP Z N y Q S) : AWP Z N (x.seq y) Q st :=
 uAe (uL2 h1 fun e s h=>by
  cases e with
  | normal=>exact uAn h.2 (h2 h.1)
  | _=>exact h)
section
variable {st : St} {ty : TypeId} {gate : Bool}
theorem uAC {x i : Operand} {t : TypeId} {g gi : Bool} {l : List UInt8} {k : IntKind} {n : Int} {j : Nat} (h : lk Z.T st ty x=some (g, .v (.c (.s l)))) (hi : lk Z.T st ty i=some (gi, .v (.c (.i k n))))
  (hg : gate=true→g=true) (hgi : gate=true→gi=true) (hu : Z.P.underlying t=some .string) (hn : n=(j : Int)) (hj : gate=true→j < l.length) : PureOk Z st (.index t x i) ty gate (.v (.c (.i .u8 ((l.getD j 0).toNat : Int)))):=by
 intro o E G a w ho hty hr hgt
 have hlt:=hj hgt
 have hget : l[j]? = some (l.getD j 0):=by rw [List.getD_eq_getElem?_getD,List.getElem?_eq_getElem hlt]; rfl
 exact uIt h hi hg hgi hu hn hget o E G a w ho hty hr hgt
end
end Go.Abs
namespace Go.Abs
def uKl (R : TypeId→List C→Prop) : List Field→List C→Prop
 | [],cs=>cs=[]
 | f :: r,cs=>∃ a b,cs=a++b∧R f.type a∧uKl R r b
def hasN (R : List C→Prop) : Nat→List C→Prop
 | 0,cs=>cs=[]
 | n + 1,cs=>∃ a b,cs=a++b∧R a∧hasN R n b
def uCf (P : Program) : Nat→TypeId→List C→Prop
 | 0,_,_=>False
 | n + 1,t,cs=>match P.underlying t with
  | some .bool=>∃ x,cs=[.b x]
  | some (.int k)=>∃ m,cs=[.i k m]∧(Lit.int k m).wf=true
  | some .string=>∃ l,cs=[.s l]
  | some (.slice e)=>∃ es,cs=[.sl (P.cellsOf e) es] ∧ ∀ row,row ∈ es→uCf P n e row
  | some (.struct fs)=>uKl (uCf P n) fs.toList cs
  | some (.array m e)=>hasN (uCf P n e) m cs
  | _=>False
def uFs (P : Program) (L : List TypeId) : List Field→Nat→Option Nat
 | [],off=>some off
 | f :: r,off=>if f.offset=off∧f.type ∈ L then uFs P L r (off + P.cellsOf f.type) else none
def uIe (P : Program) (L : List TypeId) : Bool:=L.all fun t=>match P.underlying t with
 | some .bool | some (.int _) | some .string=>P.cellsOf t == 1
 | some (.slice e)=>P.cellsOf t == 1 && decide (e ∈ L) && P.cellsOf e != 0
 | some (.struct fs)=>uFs P L fs.toList 0 == some (P.cellsOf t)
 | some (.array n e)=>decide (e ∈ L) && P.cellsOf t == n * P.cellsOf e
 | _=>false
theorem uIn {P : Program} {L : List TypeId} : ∀ {fs : List Field} {off tot : Nat},uFs P L fs off=some tot→off≤tot
 | [],off,tot,h=>by simp [uFs] at h; omega
 | f :: r,off,tot,h=>by
  simp only [uFs] at h
  split at h
  ·have := uIn h; omega
  ·simp at h
theorem uER {α : Type} {R : Nat→α→Prop} : ∀ (n : Nat),(∀ j,j < n → ∃ v,R j v) → ∃ vs : List α,vs.length=n ∧ ∀ (j : Nat) (v : α),vs[j]? = some v→R j v
 | 0,_=>⟨[],rfl,fun j v h=>by simp at h⟩
 | n + 1,h=>by
  obtain ⟨vs,h1,h2⟩:=uER n fun j hj=>h j (by omega)
  obtain ⟨v,hv⟩:=h n (by omega)
  refine ⟨vs++[v],by simp [h1],fun j u hu=>?_⟩
  rw [List.getElem?_append] at hu
  split at hu
  ·exact h2 j u hu
  ·have : j=n:=by
    have := (List.getElem?_eq_some_iff.1 hu).1
    simp at this; omega
   subst this
   simp [h1] at hu
   subst hu
   exact hv
def topG (w : World) : Gh:={ W:=fun b _=>if b < w.heap.size then .imm else .none,A:=fun _=>(0,0) }
theorem uNp {w : World} {b o : Nat} (h : b < w.heap.size) : (topG w).S b o:=by
 show (if b < w.heap.size then Who.imm else Who.none)=_
 rw [if_pos h]
section
variable {H : Type} {enc : TypeId × Value→H} {P : Program} {L : List TypeId} {w : World}
theorem uIf {α β : Type} {f : α→Option β} {l : List α} {r : List β} (h : l.mapM f=some r) {i : Nat} {x : α} (hx : l[i]? = some x) : ∃ y,f x=some y∧r[i]? = some y:=by
 have h1:=Go.mapM_some_get h i x hx
 have h2:=Go.mapM_some_length h
 have hi : i < r.length:=by rw [h2]; exact (List.getElem?_eq_some_iff.1 hx).1
 exact ⟨r[i],by rw [h1,List.getElem?_eq_getElem hi],List.getElem?_eq_getElem hi⟩
theorem uIJ {a : Addr} {n : Nat} {vs : List Value} (h : w.cells? 0 a n=some vs) : vs.length=n ∧ ∀ (j : Nat) (v : Value),vs[j]? = some v→w.cell? (a.add j)=some v:=by
 simp only [World.cells?,Nat.zero_le,if_true] at h
 have hl:=Go.mapM_some_length h
 simp only [List.length_range] at hl
 refine ⟨hl,fun j v hv=>?_⟩
 have hj : j < n:=by rw [← hl]; exact (List.getElem?_eq_some_iff.1 hv).1
 have := Go.mapM_some_get h j j (by simp [hj])
 rw [this]; exact hv
theorem uMG (b o x y : Nat) : ((⟨b,o,none⟩ : Addr).add x).add y=⟨b,o + x + y,none⟩:=by
 rw [uB5,uB5]
theorem CRep.mk_any {S : Nat→Nat→Prop} {sz : Nat} {es : List (List C)} {a : Addr} {len cap : Nat} (hl : es.length=len) (hc : len≤cap) (hm : len≤9223372036854775807) (hs : cap≠0→a.spot=none)
  (h : ∀ (i : Nat) (row : List C),es[i]? = some row→row.length=sz∧RowAt w S a.block (a.off + i * sz) row) : CRep w S (.sl sz es) (.slice (some a) len cap):=by
 by_cases h0 : cap=0
 ·subst h0
  have : len=0:=by omega
  subst this
  have : es=[]:=List.eq_nil_of_length_eq_zero hl
  subst this
  exact .emp sz _
 ·obtain ⟨b,o,sp⟩:=a
  have := hs h0
  simp only at this
  subst this
  exact CRep.mk_sl hl hc hm h
theorem uJl (hL : uIe P L=true) : ∀ (fuel : Nat) (t : TypeId) (vs : List Value) (d : DataW H) (p : List MemPlace),t ∈ L →
  DataW.trod enc P w 0 (fun _=>true) true fuel t vs=some (d,p) → ∃ cs,uCf P fuel t cs∧All2 (CRep w (topG w).S) cs vs∧cs.length=P.cellsOf t
 | 0,t,vs,d,p,_,h=>by simp [DataW.trod] at h
 | fuel + 1,t,vs,d,p,ht,h=>by
  have IH:=uJl hL fuel
  have hc:=List.all_eq_true.1 hL t ht
  unfold DataW.trod at h
  split at h
  ·rename_i b hu
   simp only [hu,beq_iff_eq] at hc
   exact ⟨[.b b],by simp only [uCf,hu]; exact ⟨_,rfl⟩,⟨.b b,trivial⟩,hc.symm⟩
  ·rename_i k k' n hu
   simp only [hu,beq_iff_eq] at hc
   split at h
   ·rename_i hk
    obtain ⟨rfl,hwf⟩:=hk
    exact ⟨[.i k' n],by simp only [uCf,hu]; exact ⟨n,rfl,hwf⟩,⟨.i _ n,trivial⟩,hc.symm⟩
   ·simp at h
  ·rename_i hu; simp only [hu] at hc; simp at hc
  ·rename_i s hu
   simp only [hu,beq_iff_eq] at hc
   split at h
   ·rename_i hs
    have hs' : s.data.toList.length≤9223372036854775807:=by
     have h1 : s.data.toList.length=s.size:=rfl
     have h2 : maxLen=9223372036854775807:=by decide
     omega
    refine ⟨[.s s.data.toList],by simp only [uCf,hu]; exact ⟨_,rfl⟩,⟨?_,trivial⟩,hc.symm⟩
    have := CRep.s (w := w) (S := (topG w).S) s.data.toList hs'
    rwa [uKB] at this
   ·simp at h
  ·rename_i hu; simp only [hu] at hc; simp at hc
  ·rename_i hu; simp only [hu] at hc; simp at hc
  ·rename_i e hu
   simp only [hu,Bool.and_eq_true,beq_iff_eq] at hc
   exact ⟨[.sl (P.cellsOf e) []],by simp [uCf,hu],⟨.nil _,trivial⟩,hc.1.1.symm⟩
  ·rename_i e a len cap hu
   simp only [hu,Bool.and_eq_true,beq_iff_eq,decide_eq_true_eq,bne_iff_ne] at hc
   obtain ⟨⟨hc1,heL⟩,hsz0⟩:=hc
   simp only at h
   split at h
   ·rename_i hb
    obtain ⟨_,hlc,hcm⟩:=hb
    have hmax : len≤9223372036854775807:=by
     have h2 : maxLen=9223372036854775807:=by decide
     omega
    simp only [Option.bind_eq_some_iff,if_true,Option.map_eq_some_iff] at h
    obtain ⟨elems,h1,rest,h2,_⟩:=h
    have hel : ∀ i,i < cap → ∃ ci y,w.cells? 0 (a.add (i * P.cellsOf e)) (P.cellsOf e)=some ci∧DataW.trod enc P w 0 (fun _=>true) true fuel e ci=some y:=by
     intro i hi
     by_cases hil : i < len
     ·obtain ⟨y,hy,_⟩:=uIf h1 (i:=i) (x:=i) (by simp [hil])
      simp only [Option.bind_eq_some_iff] at hy
      obtain ⟨ci,q1,q2⟩:=hy
      exact ⟨ci,y,q1,q2⟩
     ·obtain ⟨y,hy,_⟩:=uIf h2 (i:=i - len) (x:=i - len) (by simp [show i - len < cap - len by omega])
      rw [show len + (i - len)=i by omega] at hy
      simp only [Option.bind_eq_some_iff] at hy
      obtain ⟨ci,q1,q2⟩:=hy
      exact ⟨ci,y,q1,q2⟩
    have hspot : cap≠0→a.spot=none:=by
     intro h0
     obtain ⟨ci,y,q1,_⟩:=hel 0 (by omega)
     obtain ⟨q3,q4⟩:=uIJ q1
     have hlt : 0 < ci.length:=by omega
     have := q4 0 _ (List.getElem?_eq_getElem hlt)
     simpa [Addr.add] using World.cell?_spot this
    obtain ⟨es,hesl,hes⟩:=uER (R:=fun i row=>uCf P fuel e row∧row.length=P.cellsOf e∧RowAt w (topG w).S a.block (a.off + i * P.cellsOf e) row) len (by
     intro i hi
     obtain ⟨ci,⟨y1,y2⟩,q1,q2⟩:=hel i (by omega)
     obtain ⟨row,r1,r2,r3⟩:=IH e ci y1 y2 heL q2
     refine ⟨row,r1,r3,fun j c hj=>?_⟩
     obtain ⟨v,hv,hrep⟩:=r2.get j c hj
     have hcell:=(uIJ q1).2 j v hv
     have hsp:=hspot (by omega)
     obtain ⟨b,o,sp⟩:=a
     simp only at hsp
     subst hsp
     rw [uMG] at hcell
     exact ⟨uNp (World.block_lt_of_cell? w ⟨b,o + i * P.cellsOf e + j,none⟩ hcell),v,hcell,hrep⟩)
    refine ⟨[.sl (P.cellsOf e) es],?_,⟨?_,trivial⟩,hc1.symm⟩
    ·simp only [uCf,hu]
     refine ⟨es,rfl,fun row hr=>?_⟩
     obtain ⟨i,hi⟩:=List.getElem?_of_mem hr
     exact (hes i row hi).1
    ·exact CRep.mk_any hesl hlc hmax hspot fun i row hi=>(hes i row hi).2
   ·simp at h
  ·rename_i vs _ _ fs hu
   simp only [hu,beq_iff_eq] at hc
   split at h
   ·rename_i hlen
    simp only [Option.map_eq_some_iff] at h
    obtain ⟨xs,hxs,_⟩:=h
    have key : ∀ (fs : List Field) (off : Nat) (xs : List (DataW H × List MemPlace)),uFs P L fs off=some (P.cellsOf t) →
      (fs.mapM fun f=>DataW.trod enc P w 0 (fun _=>true) true fuel f.type ((vs.drop f.offset).take (P.cellsOf f.type)))=some xs →
      ∃ cs,uKl (uCf P fuel) fs cs∧All2 (CRep w (topG w).S) cs (vs.drop off)∧cs.length=P.cellsOf t - off:=by
     intro fs
     induction fs with
     | nil =>
      intro off xs hf _
      simp only [uFs,Option.some.injEq] at hf
      refine ⟨[],rfl,?_,by simp; omega⟩
      rw [List.drop_eq_nil_of_le (by omega)]
      trivial
     | cons f r ih =>
      intro off xs hf hm
      simp only [uFs] at hf
      split at hf
      ·rename_i hfo
       obtain ⟨rfl,hfL⟩:=hfo
       simp only [List.mapM_cons,Option.bind_eq_bind,Option.bind_eq_some_iff] at hm
       obtain ⟨⟨y1,y2⟩,hy,ys,hys,_⟩:=hm
       obtain ⟨a,a1,a2,a3⟩:=IH _ _ _ _ hfL hy
       obtain ⟨b,b1,b2,b3⟩:=ih _ _ hf hys
       have hle:=uIn hf
       refine ⟨a++b,⟨a,b,rfl,a1,b1⟩,?_,by simp; omega⟩
       have := a2.append b2
       rwa [← List.drop_drop,List.take_append_drop] at this
      ·simp at hf
    obtain ⟨cs,c1,c2,c3⟩:=key fs.toList 0 xs hc hxs
    exact ⟨cs,by simp only [uCf,hu]; exact c1,by simpa using c2,by simpa using c3⟩
   ·simp at h
  ·rename_i vs _ _ n e hu
   simp only [hu,Bool.and_eq_true,beq_iff_eq,decide_eq_true_eq] at hc
   obtain ⟨heL,hct⟩:=hc
   split at h
   ·rename_i hlen
    simp only [Option.map_eq_some_iff] at h
    obtain ⟨xs,hxs,_⟩:=h
    have key : ∀ (m k : Nat),k + m=n → ∃ cs,hasN (uCf P fuel e) m cs∧All2 (CRep w (topG w).S) cs (vs.drop (k * P.cellsOf e))∧cs.length=m * P.cellsOf e:=by
     intro m
     induction m with
     | zero =>
      intro k hk
      refine ⟨[],rfl,?_,by simp⟩
      have : k=n:=by omega
      subst this
      rw [List.drop_eq_nil_of_le (by omega)]
      trivial
     | succ m ih =>
      intro k hk
      obtain ⟨⟨y1,y2⟩,hy,_⟩:=uIf hxs (i:=k) (x:=k) (by simp [show k < n by omega])
      obtain ⟨a,a1,a2,a3⟩:=IH _ _ _ _ heL hy
      obtain ⟨b,b1,b2,b3⟩:=ih (k + 1) (by omega)
      refine ⟨a++b,⟨a,b,rfl,a1,b1⟩,?_,by simp [a3,b3,Nat.succ_mul]; omega⟩
      have := a2.append b2
      rwa [Nat.succ_mul,← List.drop_drop,List.take_append_drop] at this
    obtain ⟨cs,c1,c2,c3⟩:=key n 0 (by omega)
    exact ⟨cs,by simp only [uCf,hu]; exact c1,by simpa using c2,by rw [c3,hct]⟩
   ·simp at h
  all_goals first | (rename_i hu; simp only [hu] at hc; simp at hc) | (simp at h) | trace_state
end
end Go.Abs
namespace Go.Abs
open Go.RowKit (Below)
section
variable {H : Type} {enc : TypeId × Value→H} {P : Program} {L : List TypeId} {w : World}
def rowD : TypeDesc→Bool
 | .struct _ | .array _ _=>true
 | _=>false
theorem uJX {t : TypeId} {v : Value} {r : Reach} {base : Nat} {d : TypeDesc} (hd : P.underlying t=some d) (hp : rowD d=true) (h : Value.okWide P w r base t v) : ∃ cs,v = .agg cs:=by
 cases d <;> simp [rowD] at hp <;> simp only [Value.okWide,hd] at h <;> obtain ⟨cs,rfl,_⟩:=h <;> exact ⟨cs,rfl⟩
theorem uMV (hL : uIe P L=true) {t : TypeId} {v : Value} {base : Nat} {d : TypeDesc} {x : DataW H} {p : List MemPlace} (ht : t ∈ L) (hd : P.underlying t=some d) (hp : rowD d=true) (hok : Value.okWide P w .any base t v)
  (h : DataW.Trod enc P w 0 (fun _=>true) true t v x p) : ∃ n cs,uCf P n t cs∧XRep w (topG w) (.v (.agg cs)) v:=by
 obtain ⟨n,hn⟩:=h
 obtain ⟨vs,rfl⟩:=uJX hd hp hok
 obtain ⟨cs,h1,h2,_⟩:=uJl hL n t _ _ _ ht hn
 exact ⟨n,cs,h1,vs.toList,by simp,by simpa [Value.cells] using h2⟩
end
theorem uK3 {Z : Pg} {f : FuncId} {xs : List X} {res : Value} {x : X} (hres : ∀ (w : World) (G : Gh) (v : Value),XRep w G x v→v=res) (hc : Ctr Z f xs [] x none []) {W : World} {vs : List Value} (h : All2 (XRep W (topG W)) xs vs) (hg : ∀ g ∈ Z.gv,g.1 < W.heap.size∧g.2 W.heap[g.1]?) :
  Calls Z.P f vs.toArray W fun e w'=>e = .returned res∧Below W.heap.size W w':=by
 have hno : ∀ b o,¬ ∃ n,(topG W).W b o = .box n:=by
  intro b o ⟨n,hn⟩
  simp only [topG] at hn
  split at hn <;> simp at hn
 have hno2 : ∀ b o p,(topG W).W b o ≠ .own p:=by
  intro b o p hp
  simp only [topG] at hp
  split at hp <;> simp at hp
 refine (hc.2 W (topG W) vs h (fun b o hb=>?_) (fun j cs hj=>by simp at hj) (fun b o n hn=>absurd ⟨n,hn⟩ (hno b o)) (fun b o p hp=>?_) (fun g q=>⟨(hg g q).1,(hg g q).2,fun o n hn=>hno g.1 o ⟨n,hn⟩,hno2 g.1⟩)).mono ?_
 ·simp only [topG] at hb
  split at hb
  ·assumption
  ·simp at hb
 ·simp only [topG] at hp
  split at hp <;> simp at hp
 ·rintro e w' ⟨v,G',rfl,hf,_,_,_,hv,_⟩
  refine ⟨by rw [hres _ _ _ hv],hf.os,hf.tape,hf.output,hf.size,fun k hk=>hf.block k hk fun o ho=>hno k o ho⟩
theorem uJt {Z : Pg} {f : FuncId} {xs : List X} (hc : Ctr Z f xs [] (.v (.c (.b true))) none []) {W : World} {vs : List Value} (h : All2 (XRep W (topG W)) xs vs) (hg : ∀ g ∈ Z.gv,g.1 < W.heap.size∧g.2 W.heap[g.1]? := by intro g hg; exact absurd hg (List.not_mem_nil)) :
  Calls Z.P f vs.toArray W fun e w'=>e = .returned (.bool true)∧Below W.heap.size W w' :=
 uK3 (fun _ _ _ h=>XRep.bool h) hc h hg
end Go.Abs
namespace Go.Abs
variable {Z : Pg} {st : St} {ty : TypeId} {gate : Bool}
theorem uMQ (st : St) (d : Nat) (gate : Bool) (x : X) (sz : Nat) : Sub (st.put d (gate,x)) (st.ret d gate x (some sz)):=by
 cases gate with
 | false=>exact Sub.refl _
 | true =>
  refine ⟨fun _ _ h=>h,fun _ _ h=>h,fun p s h=>?_, .inr rfl⟩
  show ((st.put d (true,x)).addOwn (.t d) sz).own p=some s
  rw [St.addOwn_own]
  split
  ·rename_i he
   subst he
   rw [St.put_own,if_pos rfl] at h
   simp at h
  ·exact h
theorem uG0 {N : Nat} {ops : Array Oper} {rest : List Oper} {K : St→Prop} {o : Oper} {g : Bool} {d : Nat} {t : TypeId} {len : Nat} {parts : Array (Nat × Operand)} {xs : List Operand} {ti : TyI} {e sz by' : Nat} {rs : List (List C)}
  (ho : o.op = .buildSlice t len parts) (hg : uA3 ops st o=some gate) (hd : o.dst=some d) (hN : Nat.ble (d + 1) N=true) (ht : tyAt Z.T t=some ti) (hel : ti.el=some (e,sz,by')) (hp : parts.toList=uDH 0 xs) (hx : Nat.beq xs.length len=true)
  (hrs : uCt Z.T st e sz xs=some (g,rs)) (hga : gate=true→g=true) (hbig : Nat.ble (len * sz) 10000=true)
  (h : AL Z N ops rest K (st.put d (gate, .v (.c (.sl sz rs))))) : AL Z N ops (o :: rest) K st :=
 uCS ((uC6 ho hg hd hN ht hel hp hx hrs hga hbig).sub (uMQ _ _ _ _ _)) h
theorem uBa {s0 : St} {N : Nat} {ops : Array Oper} {B : List Nat} {k : Nat} {rest : List Oper} {acc : List Lnk} {o : Oper} {Q : St→Prop} {d : Nat} {g gf : Bool} {fo : Operand} {args : Array Operand} {ts : Array TypeId} {f : FuncId} {caps : List Y} {xs : List X} {res : X} (hk : ops[k]? = some o)
  (ho : o.op = .call { callee:=.value fo,args:=args,argTypes:=ts }) (hg : uA3 ops (rs (foot ops o [] []) st) o=some gate) (hd : o.dst=some d) (hN : Nat.ble (d + 1) N=true)
  (hf : lk Z.T (rs (foot ops o [] []) st) 0 fo=some (gf, .fn f caps)) (ha : uBV Z.T (rs (foot ops o [] []) st) ts.toList args.toList=some (g,xs)) (hgf : gate=true→gf=true) (hga : gate=true→g=true)
  (hs : Ctr Z f (xs++caps.map .v) [] res none []) (hc : res.clean=true)
  (hr : Draw Z N s0 ops B (k + 1) rest (acc++[(k,{ d:=some (d,gate,res),drop:=[.t d] },foot ops o [] [])]) (ap { d:=some (d,gate,res),drop:=[.t d] } st) Q) :
  Draw Z N s0 ops B k (o :: rest) acc st Q:=uCy hk (by
   have h:=uMO (R:=foot ops o [] []) ho hg hd hN hf ha hgf hga hs hc
   rw [show cond gate (Option.map (fun sz=>(Pl.t d,sz)) none) none=none from by cases gate <;> rfl] at h
   exact h) hr
end Go.Abs
namespace Go.Abs
variable {Z : Pg}
def St.boxes2 (st : St) (n' n : Nm) (cs : List C) : St:={ st with bx:=(n',cs) :: (n,[]) :: st.bx }
theorem St.boxes2_box (st : St) (n' n : Nm) (cs : List C) (m : Nm) : (st.boxes2 n' n cs).box m=if n'=m then some cs else if n=m then some [] else st.box m:=by
 show getB ((n',cs) :: (n,[]) :: st.bx) m=_
 rw [uA0,uA0]; rfl
theorem Rel.intoBox {E : Env} {G : Gh} {st : St} {a : Act} {w w1 : World} (h : Rel E G st a w) {n' n : Nm} {p : Pl} {blk L : Nat} {cs : List C} (hloc : ∃ j,n' = .l j) (hnl : ∃ j,n = .l j)
  (hfr : FreshG st (n',true)) (hfo : FreshG st (n,false)) (hF : ∀ o,o < L→G.W blk o = .box n∨G.W blk o = .own p)
  (h1 : w1.os=w.os) (h2 : w1.tape=w.tape) (h3 : w1.output=w.output) (h4 : w1.heap.size=w.heap.size) (h5 : ∀ b,(∀ o,¬ (b=blk∧o < L∧G.W b o = .own p))→w1.heap[b]? = w.heap[b]?)
  (h6 : ∀ b o,¬ (b=blk∧o < L∧G.W b o = .own p)→w1.cell? ⟨b,o,none⟩=w.cell? ⟨b,o,none⟩) (h8 : ∀ b,uBo w1 b=uBo w b) (h9 : ∀ b,w1.shape? b=w.shape? b) (hold : E.D=0)
  (hcs : ∀ (j : Nat) (c : C),cs[j]? = some c→j < L∧w.frozen? ⟨blk,j,none⟩=false ∧ ∃ v,w1.cell? ⟨blk,j,none⟩=some v∧CRep w G.S c v) :
  Rel E { W:=fun b o=>if b=blk∧o < L then .box n' else G.W b o,A:=fun m=>if m=n' then (blk,0) else G.A m } ((st.unown p).boxes2 n' n cs) a w1:=by
 have hS : ∀ b o,G.S b o→Gh.S { W:=fun b o=>if b=blk∧o < L then .box n' else G.W b o,A:=fun m=>if m=n' then (blk,0) else G.A m } b o:=fun b o hs=>by
  unfold Gh.S at *
  dsimp only
  rw [if_neg (by rintro ⟨rfl,ho⟩; rcases hF o ho with e | e <;> rw [e] at hs <;> simp at hs)]
  exact hs
 have hcell : ∀ b o,G.W b o ≠ .own p→w1.cell? ⟨b,o,none⟩=w.cell? ⟨b,o,none⟩:=fun b o hne=>h6 b o fun hh=>hne hh.2.2
 have hc : ∀ b o,G.S b o→w1.cell? ⟨b,o,none⟩=w.cell? ⟨b,o,none⟩:=fun b o hs=>hcell b o (by unfold Gh.S at hs; rw [hs]; simp)
 constructor
 ·exact h.df
 ·intro k g x hk
  obtain ⟨u,hu,q1,q2⟩:=h.tm k g x hk
  refine ⟨u,hu,fun hg=>(q1 hg).mono hS hc (fun m hm=>?_),q2⟩
  have : m≠n' := fun e=>by subst e; have := hfr.1 rfl k g x hk; rw [hm] at this; simp at this
  simp [this]
 ·intro m ds hm j c hj
  rw [St.boxes2_box] at hm
  split at hm
  ·rename_i he; subst he
   simp only [Option.some.injEq] at hm; subst hm
   obtain ⟨q1,q2,v,q3,q4⟩:=hcs j c hj
   dsimp only
   rw [if_pos rfl]
   dsimp only
   rw [Nat.zero_add,if_pos ⟨rfl,q1⟩]
   exact ⟨rfl,by rw [uBU (h8 _)]; exact q2,v,q3,q4.mono hS hc⟩
  ·rename_i hne
   split at hm
   ·simp only [Option.some.injEq] at hm; subst hm; simp at hj
   ·rename_i hne2
    obtain ⟨q1,q2,u,q3,q4⟩:=h.bx m ds hm j c hj
    have hne' : ¬ m=n':=fun e=>hne e.symm
    dsimp only
    rw [if_neg hne']
    refine ⟨?_,by rw [uBU (h8 _)]; exact q2,u,by rw [hcell _ _ (by rw [q1]; simp)]; exact q3,q4.mono hS hc⟩
    rw [if_neg]
    ·exact q1
    ·rintro ⟨e1,ho⟩
     rcases hF _ ho with e | e <;> rw [← e1,q1] at e
     ·injection e with e; exact hne2 e.symm
     ·simp at e
 ·intro r s hr
  have hr2 : (st.unown p).own r=some s:=hr
  rw [St.unown_own] at hr2
  split at hr2
  ·simp at hr2
  ·rename_i hrp
   obtain ⟨u,hu,ho⟩:=h.ow r s hr2
   refine ⟨u,?_,?_⟩
   ·cases r with
    | t k=>exact hu
    | b m off =>
     have hm1 : ¬ m=n':=fun e=>by
      have := hfr.2 _ _ hr2; subst e; simp [Pl.inBox,Nm.beq_self] at this
     have hm2 : ¬ m=n:=fun e=>by
      have := hfo.2 _ _ hr2; subst e; simp [Pl.inBox,Nm.beq_self] at this
     refine ⟨?_,?_⟩
     ·dsimp only; rw [if_neg hm1,hcell _ _ (by rw [hu.2]; simp)]; exact hu.1
     ·dsimp only
      rw [if_neg hm1,if_neg]
      ·exact hu.2
      ·rintro ⟨e1,ho'⟩
       rcases hF _ ho' with e | e <;> rw [← e1,hu.2] at e
       ·injection e with e; exact hm2 e
       ·simp at e
   ·rcases ho with ho | ⟨b2,len,cap,e,q1,q2,q3,q4⟩
    ·exact .inl ho
    ·refine .inr ⟨b2,len,cap,e,q1,q2,⟨by rw [h9]; exact q3.1,by rw [h8]; exact q3.2⟩,fun o ho1 ho2=>?_⟩
     obtain ⟨q5,q6⟩:=q4 o ho1 ho2
     refine ⟨?_,by rw [uBU (h8 _)]; exact q6⟩
     dsimp only
     rw [if_neg]
     ·exact q5
     ·rintro ⟨e1,ho'⟩
      rcases hF _ ho' with e | e <;> rw [← e1,q5] at e
      ·simp at e
      ·injection e with e; exact hrp e
 ·intro b o hb
  rw [h4]
  dsimp only at hb
  split at hb
  ·rename_i hf
   obtain ⟨rfl,ho⟩:=hf
   refine h.wf b o ?_
   rcases hF o ho with e | e <;> rw [e] <;> simp
  ·exact h.wf b o hb
 ·intro b o m hb hn
  dsimp only at hn
  split at hn
  ·rename_i hf
   obtain ⟨rfl,ho⟩:=hf
   rcases hF o ho with e | e
   ·exact h.olB b o _ hb e
   ·exact .inr (h.olO b o _ hb e)
  ·exact h.olB b o m hb hn
 ·intro b o q hb hn
  dsimp only at hn
  split at hn
  ·simp at hn
  ·exact h.olO b o q hb hn
 ·exact h.nt
 ·intro j
  dsimp only
  rw [if_neg (by obtain ⟨m',rfl⟩:=hloc; simp)]
  exact h.oA j
 ·intro b o hi
  exact hS b o (h.im b o hi)
 ·intro b o hb hi
  dsimp only at hi
  split at hi
  ·simp at hi
  ·exact h.im' b o hb hi
 ·refine h.fr.trans ⟨h1,h2,h3,by rw [h4]; exact Nat.le_refl _,?_,?_,fun b _=>h8 _,fun b _=>h9 _⟩
  ·intro b hb hM
   refine h5 b fun o hf=>hM o (.inr ?_)
   exact h.olO b o p hb hf.2.2
  ·intro b o hb hM
   refine h6 b o fun hf=>hM (.inr ?_)
   exact h.olO b o p hb hf.2.2
 ·exact h.hB
 ·intro b o hb
  dsimp only
  split
  ·rename_i hf
   obtain ⟨rfl,ho⟩:=hf
   exfalso
   rcases hF o ho with e | e
   ·obtain ⟨m,rfl⟩:=hnl
    obtain ⟨j,hj⟩:=(h.lo b o hb).1 _ e
    simp at hj
   ·exact (h.lo b o hb).2 (by rw [E.C_new hold]; exact hb) _ e
  ·exact h.lo b o hb
 ·intro t k ds hm hne
  obtain ⟨m',rfl⟩:=hloc
  obtain ⟨m,rfl⟩:=hnl
  rw [St.boxes2_box,if_neg (by simp),if_neg (by simp)] at hm
  obtain ⟨q1,q2,x,q3,q4⟩:=h.bd t k ds hm hne
  obtain ⟨c0,hc0⟩ : ∃ c0,ds[0]? = some c0:=by
   cases ds with
   | nil=>exact absurd rfl hne
   | cons c0 r=>exact ⟨c0,rfl⟩
  obtain ⟨r1,_⟩:=h.bx _ ds hm 0 c0 hc0
  rw [q1] at r1
  dsimp only
  rw [if_neg (by simp),h9,hcell _ _ (by rw [r1]; simp)]
  exact ⟨q1,q2,x,q3,q4⟩
 ·intro x hx
  obtain ⟨q1,q2,q3⟩:=h.mp x hx
  have hne : ∀ o,¬ (x.1=blk∧o < L):=fun o ⟨e,ho⟩=>by
   rcases hF o ho with q | q
   ·exact (q3 o).1 n (by rw [e]; exact q)
   ·exact (q3 o).2 p (by rw [e]; exact q)
  refine ⟨q1.of_same (h5 _ fun o hh=>hne o ⟨hh.1,hh.2.1⟩),q2,fun o=>?_⟩
  dsimp only
  rw [if_neg (hne o)]
  exact q3 o
theorem Rel.emptyBox {E : Env} {G : Gh} {st : St} {a : Act} {w : World} (h : Rel E G st a w) (n : Nm) : Rel E G { st with bx:=(n,[]) :: st.bx } a w where
 df:=h.df
 tm:=h.tm
 bx:=by
  intro m cs hm
  have : St.box { st with bx:=(n,[]) :: st.bx } m=if n=m then some [] else st.box m:=uA0 _ _ _ _
  rw [this] at hm
  split at hm
  ·simp only [Option.some.injEq] at hm; subst hm; intro j c hj; simp at hj
  ·exact h.bx m cs hm
 ow:=h.ow
 wf:=h.wf
 olB:=h.olB
 olO:=h.olO
 nt:=h.nt
 oA:=h.oA
 im:=h.im
 im':=h.im'
 fr:=h.fr
 hB:=h.hB
 lo:=h.lo
 bd:=by
  intro t k ds hm hne
  have hm2 : getB ((n,[]) :: st.bx) (.bd t k)=some ds:=hm
  rw [uA0] at hm2
  split at hm2
  ·simp only [Option.some.injEq] at hm2; exact absurd hm2.symm hne
  ·exact h.bd t k ds hm2 hne
 mp:=h.mp
theorem Rel.newMs {E : Env} {G : Gh} {st : St} {a : Act} {w : World} (h : Rel E G st a w) (p : Pl) {j' : Nat} (hfr : FreshG st (.l j',true)) {cells : Array Value} {e : TypeId} (hpe : ∀ t k o,p = .b (.bd t k) o→e=t % 4096) {sz len cap : Nat} {cs : List C} (hc : len≤cap) (hsz : cells.size=cap * sz) (hl : cs.length=len * sz)
  (hrep : ∀ (j : Nat) (c : C),cs[j]? = some c → ∃ v,cells[j]? = some v∧CRep w G.S c v) :
  ∃ G1,Rel E G1 ((st.unown p).addBox (.l j') cs) a (w.drew.alloc (.cells cells e))∧G1.A (.l j')=(w.heap.size,0)∧OwnAt E.C (w.drew.alloc (.cells cells e)) G1 p sz (.slice (some ⟨w.heap.size,0,none⟩) len cap):=by
 let f : Nat→Who:=fun o=>if o < len * sz then .box (.l j') else if o < cap * sz then .own p else .none
 have hfr' : Fr (fun _ _=>False) w.heap.size w (w.drew.alloc (.cells cells e)):=by
  have h1:=uCO w.drew (.cells cells e)
  exact ⟨h1.os,h1.tape,h1.output,h1.size,h1.block,h1.cell,h1.mark,h1.shape⟩
 refine ⟨(G.push w.heap.size f).name (.l j') (w.heap.size,0),?_,by simp [Gh.name],?_⟩
 ·refine Rel.addBox ?_ ?_ rfl
  ·refine ((h.sub (st.unown_sub p)).sub (St.drop_sub _ (.l j'))).grow hfr' ?_ (St.drop_same (st:=st.unown p) rfl (fun k g x hk=>hfr.1 rfl k g x hk) _ _) ?_
   ·intro b o hb
    have : ¬ b=w.heap.size:=by omega
    simp [Gh.name,Gh.push,this]
   ·intro b o hne
    simp only [Gh.name,Gh.push] at hne
    split at hne
    ·rename_i hb; subst hb; simp
    ·have := h.wf b o hne; simp; omega
  ·intro j c hj
   have hjl : j < len * sz:=by rw [← hl]; exact (List.getElem?_eq_some_iff.1 hj).1
   obtain ⟨v,hv',hr⟩:=hrep j c hj
   refine ⟨by simp [Gh.name,Gh.push,f,hjl],by simp only [Gh.name,if_true]; exact World.frozen?_alloc_new w.drew cells e _,v,?_,?_⟩
   ·simp only [Gh.name,if_true]
    rw [Nat.zero_add]
    exact (World.cell?_alloc_new w.drew cells e j).trans hv'
   ·refine hr.mono ?_ ?_
    ·intro b o hs
     have hb:=h.wf b o (by unfold Gh.S at hs; rw [hs]; simp)
     have : ¬ b=w.heap.size:=by omega
     simpa [Gh.S,Gh.name,Gh.push,this] using hs
    ·intro b o hs
     have hb:=h.wf b o (by unfold Gh.S at hs; rw [hs]; simp)
     exact hfr'.cell b o hb (fun x=>x)
 ·refine .inr ⟨w.heap.size,len,cap,e,rfl,⟨hc,Nat.le_trans E.C_le (Nat.le_trans h.hB h.fr.size),hpe⟩,⟨?_,uD3 w.drew cells e _⟩,fun o' h1 h2=>?_⟩
  ·unfold World.shape?
   rw [show (w.drew.alloc (.cells cells e)).heap[w.heap.size]? = some (.cells cells e) from Array.getElem?_push_size]
   simp [hsz]
  ·have hn : ¬ o' < len * sz:=by omega
   exact ⟨by simp [Gh.name,Gh.push,f,hn,h2],World.frozen?_alloc_new w.drew cells e o'⟩
theorem uGw {sz : Nat} : ∀ {xs : List (List C)} {m : Nat} {c : C},(∀ (i : Nat) (row : List C),xs[i]? = some row→row.length=sz)→xs.flatten[m]? = some c →
  ∃ (i j : Nat) (row : List C),m=i * sz + j∧j < sz∧xs[i]? = some row∧row[j]? = some c
 | [],m,c,_,h=>by simp at h
 | r :: xs,m,c,hr,h=>by
  have h0 : r.length=sz:=hr 0 r rfl
  rw [List.flatten_cons,List.getElem?_append] at h
  split at h
  ·rename_i hm
   exact ⟨0,m,r,by simp,by omega,rfl,h⟩
  ·rename_i hm
   obtain ⟨i,j,row,e,hj,h1,h2⟩:=uGw (xs:=xs) (fun i row hi=>hr (i + 1) row (by simpa using hi)) h
   exact ⟨i + 1,j,row,by rw [Nat.succ_mul]; omega,hj,by simpa using h1,h2⟩
theorem uI1 {sz : Nat} : ∀ {xs : List (List C)},(∀ (i : Nat) (row : List C),xs[i]? = some row→row.length=sz)→xs.flatten.length=xs.length * sz
 | [],_=>by simp
 | r :: xs,hr=>by
  have h0 : r.length=sz:=hr 0 r rfl
  rw [List.flatten_cons,List.length_append,uI1 (xs:=xs) (fun i row hi=>hr (i + 1) row (by simpa using hi)),List.length_cons,Nat.succ_mul]; omega
theorem uLx {E : Env} {G : Gh} {st : St} {a : Act} {w : World} (hr : Rel E G st a w) (hold : E.D=0) {p : Pl} {j' : Nat} {n : Nm} {sz e by' L : Nat} {cs : List C} {xs : List (List C)} {v' xv : Value} {t ty : TypeId} {jf : TypeInfo} {ze : Value}
  (hu : Z.P.underlying t=some (.slice e)) (hinfo : Z.P.info? e=some jf) (hsz : jf.size=sz) (hby : jf.bytes=by') (hsz0 : sz≠0) (hze : jf.zero=some ze) (hzec : ze.cells.size=sz)
  (hown : OwnAt E.C w G p sz v') (hnlo : ∃ j,n = .l j) (hfr : FreshG st (.l j',true)) (hfo : FreshG st (n,false))
  (hv : (v' = .slice none 0 0∧L=0∧cs=[]) ∨ ∃ blk cap,v' = .slice (some ⟨blk,0,none⟩) L cap ∧ ∀ (j : Nat) (c : C),cs[j]? = some c→G.W blk j = .box n∧w.frozen? ⟨blk,j,none⟩=false ∧ ∃ v,w.cell? ⟨blk,j,none⟩=some v∧CRep w G.S c v)
  (hcl : cs.length=L * sz) (hxr : CRep w G.S (.sl sz xs) xv) (hx1 : 1≤xs.length) (hbig : (L + xs.length) * by'≤140737488355328) (hmax : L + xs.length≤9223372036854775807) (hpe : ∀ t k o,p = .b (.bd t k) o→e=t % 4096:=by intro _ _ _ hh; simp at hh) :
  ∃ G1 w1 u cap',(Builtin.append_ #[t,t] ty #[v',xv]).run Z.P w = .ok u w1∧Rel E G1 ((st.unown p).boxes2 (.l j') n (cs++xs.flatten)) a w1 ∧
   u = .slice (some ⟨(G1.A (.l j')).1,(G1.A (.l j')).2 + 0,none⟩) (L + xs.length) cap'∧L + xs.length≤cap'∧OwnAt E.C w1 G1 p sz u:=by
 rcases CRep.sl_cases hxr with ⟨xa,hxv,rfl⟩ | ⟨xb,xo,m,mc,hxv,hxl⟩
 ·simp at hx1
 rw [hxv] at hxr
 obtain ⟨news,hnl,hncell,hnone,hnrep⟩:=uDw hxr
 subst hxl
 have hrow : ∀ (i : Nat) (row : List C),xs[i]? = some row→row.length=sz:=fun i row hi=>(hxr.elem.2.2.2 i row hi).1
 have hfl:=uI1 hrow
 have hnew : ∀ (j : Nat) (c : C),xs.flatten[j]? = some c → ∃ v,news[j]? = some v∧CRep w G.S c v:=by
  intro j c hj
  obtain ⟨i,k,row,rfl,hk,h1,h2⟩:=uGw hrow hj
  exact hnrep i k row c h1 h2
 have grow : ∀ (olds : List Value) (cap : Nat),olds.length=L * sz→(∀ (j : Nat) (c : C),cs[j]? = some c → ∃ v,olds[j]? = some v∧CRep w G.S c v)→L + xs.length≤cap →
   ∃ G1,Rel E G1 ((st.unown p).boxes2 (.l j') n (cs++xs.flatten)) a (w.drew.alloc (.cells (olds.toArray++news.toArray++Builtin.zeroCells ze.cells (cap - (L + xs.length))) e)) ∧
    G1.A (.l j')=(w.heap.size,0)∧OwnAt E.C (w.drew.alloc (.cells (olds.toArray++news.toArray++Builtin.zeroCells ze.cells (cap - (L + xs.length))) e)) G1 p sz (.slice (some ⟨w.heap.size,0,none⟩) (L + xs.length) cap):=by
  intro olds cap hol horep hge
  obtain ⟨G1,q1,q2,q3⟩:=hr.newMs p hfr (e:=e) hpe (sz:=sz) (len:=L + xs.length) (cap:=cap) (cs:=cs++xs.flatten) (cells:=olds.toArray++news.toArray++Builtin.zeroCells ze.cells (cap - (L + xs.length))) hge
   (by simp only [Array.size_append,List.size_toArray,size_zeroCells,hzec,hnl,hol,← Nat.add_mul]; congr 1; omega) (by rw [List.length_append,hcl,hfl,Nat.add_mul]) (fun j c hj=>by
    rw [List.getElem?_append] at hj
    split at hj
    ·obtain ⟨v,h1,h2⟩:=horep j c hj
     have hlt:=(List.getElem?_eq_some_iff.1 h1).1
     refine ⟨v,?_,h2⟩
     rw [Array.getElem?_append_left (by simp; omega),Array.getElem?_append_left (by simpa using hlt)]
     simpa using h1
    ·rename_i hge2
     obtain ⟨v,h1,h2⟩:=hnew _ c hj
     have hlt:=(List.getElem?_eq_some_iff.1 h1).1
     refine ⟨v,?_,h2⟩
     rw [Array.getElem?_append_left (by simp; omega),Array.getElem?_append_right (by simp; omega)]
     have : j - olds.toArray.size=j - cs.length:=by simp [hol,hcl]
     rw [this]
     simpa using h1)
  refine ⟨G1,?_,q2,q3⟩
  by_cases hnn : n = .l j'
  ·refine Rel.sub (st:=(st.unown p).addBox (.l j') (cs++xs.flatten)) (st':=(st.unown p).boxes2 (.l j') n (cs++xs.flatten)) ⟨fun k e hk=>hk,fun m ds hm=>?_,fun q s hq=>?_, .inr rfl⟩ q1
   ·rw [St.boxes2_box] at hm
    have hb : ((st.unown p).addBox (.l j') (cs++xs.flatten)).box m=if Nm.l j'=m then some (cs++xs.flatten) else ((st.unown p).drop (.l j')).box m:=uA0 _ _ _ _
    rw [hb]
    split at hm
    ·rename_i he; rw [if_pos he]; exact hm
    ·rename_i he
     rw [hnn,if_neg he] at hm
     rw [if_neg he,St.drop_box,if_neg (fun e=>he e.symm)]; exact hm
   ·show ((st.unown p).drop (.l j')).own q=_
    rw [St.drop_own]
    have hq' : (st.unown p).own q=some s:=hq
    have hq2:=hq'
    rw [St.unown_own] at hq2
    split at hq2
    ·simp at hq2
    ·rw [if_neg (by rw [hfr.2 _ _ hq2]; simp)]; exact hq'
  ·refine Rel.sub (st:={ (st.unown p).addBox (.l j') (cs++xs.flatten) with bx:=(n,[]) :: ((st.unown p).addBox (.l j') (cs++xs.flatten)).bx }) (st':=(st.unown p).boxes2 (.l j') n (cs++xs.flatten)) ⟨fun k e hk=>hk,fun m ds hm=>?_,fun q s hq=>?_, .inr rfl⟩ (q1.emptyBox n)
   ·rw [St.boxes2_box] at hm
    show getB ((n,[]) :: (Nm.l j',cs++xs.flatten) :: _) m=_
    rw [uA0,uA0]
    split at hm
    ·rename_i he
     subst he
     rw [if_neg hnn,if_pos rfl]; exact hm
    ·rename_i he
     split at hm
     ·rename_i he2; rw [if_pos he2]; exact hm
     ·rename_i he2
      rw [if_neg he2,if_neg he]
      show ((st.unown p).drop (.l j')).box m=_
      rw [St.drop_box,if_neg (fun e=>he e.symm)]; exact hm
   ·show ((st.unown p).drop (.l j')).own q=_
    rw [St.drop_own]
    have hq' : (st.unown p).own q=some s:=hq
    have hq2:=hq'
    rw [St.unown_own] at hq2
    split at hq2
    ·simp at hq2
    ·rw [if_neg (by rw [hfr.2 _ _ hq2]; simp)]; exact hq'
 rcases hv with ⟨hvn,hL,hcs⟩ | ⟨blk,cap,hvs,hbox⟩
 ·subst hvn; subst hL; subst hcs
  have hrun:=run_append_nil (P:=Z.P) w t ty e jf ze hu hinfo hze ⟨xb,xo,none⟩ xs.length mc news (by rw [hnl,hsz]) hncell (by omega) (by omega) (by rw [hby]; simp only [Nat.zero_add] at hbig; omega)
  have hge:=grownCap_ge w xs.length 0 e
  obtain ⟨G1,q1,q2,q3⟩:=grow [] (grownCap w xs.length 0 e) (by simp) (fun j c hj=>by simp at hj) (by omega)
  rw [Nat.zero_add] at q1 q3 ⊢
  refine ⟨G1,_,_,_,by rw [hxv]; exact hrun,by simpa using q1,?_,hge,by simpa using q3⟩
  rw [q2]
 ·subst hvs
  rcases hown with ha0 | ⟨blk2,len2,cap2,e2,hv2,hlc2,⟨hshape,hfr0⟩,hspare⟩
  ·simp at ha0
  simp only [Value.slice.injEq,Option.some.injEq,Addr.mk.injEq] at hv2
  obtain ⟨⟨rfl,_⟩,rfl,rfl⟩:=hv2
  by_cases hroom : L + xs.length≤cap
  ·have hfit : (L + xs.length) * sz≤cap * sz:=Nat.mul_le_mul_right _ hroom
   rw [Nat.add_mul] at hfit
   have hsome : ∀ j,j < news.length→(w.cell? ⟨blk,L * sz + j,none⟩).isSome=true:=by
    intro j hj
    unfold World.shape? at hshape
    unfold World.cell?
    split at hshape
    ·rename_i c e3 fz hheap
     simp only [Option.some.injEq,Prod.mk.injEq] at hshape
     obtain ⟨_,hcs⟩:=hshape
     simp only [hheap]
     simp
     omega
    ·simp at hshape
   have hst:=run_storeCells_cells (P:=Z.P) blk (L * sz) news 0 w (by simpa using hsome) (fun j hj=>by
    simpa using (hspare (L * sz + j) (by omega) (by omega)).2) hnone
   rw [Nat.add_zero] at hst
   obtain ⟨f1,f2,f3,f4,f5,f6,f7,f8,f9⟩:=uCz blk news (L * sz) w hsome
   have hrun : (Builtin.append_ #[t,t] ty #[.slice (some ⟨blk,0,none⟩) L cap, .slice (some ⟨xb,xo,none⟩) xs.length mc]).run Z.P w = .ok (.slice (some ⟨blk,0,none⟩) (L + xs.length) cap) (w.setCells blk (L * sz) news):=by
    have hf:=run_firstCells_some (P:=Z.P) w sz xs.length ⟨xb,xo,none⟩ xs.length mc news hnl hncell
    simp [Builtin.append_,run_underlying hu,sizeOf,typeInfo,hinfo,hsz,Builtin.lenOf,hroom,hf,uB5,hst]
   have hF : ∀ o,o < (L + xs.length) * sz→G.W blk o = .box n∨G.W blk o = .own p:=by
    intro o ho
    rw [Nat.add_mul] at ho
    by_cases hol : o < L * sz
    ·exact .inl (hbox o _ (List.getElem?_eq_getElem (by omega))).1
    ·exact .inr (hspare o (by omega) (by omega)).1
   have hrange : ∀ b o,¬ (b=blk∧o < (L + xs.length) * sz∧G.W b o = .own p) → ¬ (b=blk∧L * sz≤o∧o < L * sz + news.length):=by
    rintro b o hn ⟨rfl,h1,h2⟩
    exact hn ⟨rfl,by rw [Nat.add_mul]; omega,(hspare o h1 (by omega)).1⟩
   have hrel:=hr.intoBox (n':=.l j') (n:=n) (p:=p) (blk:=blk) (L:=(L + xs.length) * sz) (cs:=cs++xs.flatten) (w1:=w.setCells blk (L * sz) news) ⟨_,rfl⟩ hnlo hfr hfo hF f1 f2 f3 f4 (fun b hb=>by
     by_cases hbb : b=blk
     ·subst hbb
      by_cases hz : news.length=0
      ·have hn0 : news=[]:=List.eq_nil_of_length_eq_zero hz
       rw [hn0]; rfl
      ·exact absurd ⟨rfl,Nat.le_refl _,by omega⟩ (hrange b (L * sz) (hb (L * sz)))
     ·exact f5 b hbb) (fun b o hb=>f6 b o (hrange b o hb)) f8 f9 hold (fun j c hj=>by
      rw [List.getElem?_append] at hj
      split at hj
      ·rename_i hlt
       obtain ⟨q1,q2,v,q3,q4⟩:=hbox j c hj
       refine ⟨by rw [Nat.add_mul]; omega,q2,v,?_,q4⟩
       rw [f6 blk j (by rintro ⟨_,h1,_⟩; omega)]; exact q3
      ·rename_i hge
       obtain ⟨v,h1,h2⟩:=hnew _ c hj
       have hlt:=(List.getElem?_eq_some_iff.1 h1).1
       have hj2 : j=L * sz + (j - cs.length):=by omega
       refine ⟨by rw [Nat.add_mul]; omega,(hspare j (by omega) (by omega)).2,v,?_,h2⟩
       rw [hj2]; exact f7 _ v h1)
   refine ⟨_,_,_,_,by rw [hxv]; exact hrun,hrel,?_,hroom, .inr ⟨blk,L + xs.length,cap,e2,rfl,⟨hroom,hlc2.2⟩,⟨by rw [f9]; exact hshape,by rw [f8]; exact uEG hfr0 (by rw [Nat.add_mul]; omega)⟩,fun o' h1 h2=>?_⟩⟩
   ·dsimp only; rw [if_pos rfl]
   ·have h1':=h1
    rw [Nat.add_mul] at h1
    obtain ⟨q5,q6⟩:=hspare o' (by omega) h2
    refine ⟨?_,by rw [uBU (f8 _)]; exact q6⟩
    dsimp only
    rw [if_neg (by rintro ⟨_,h3⟩; omega)]
    exact q5
  ·obtain ⟨olds,hol,hor⟩:=uDo (R:=fun j v=>w.cell? ⟨blk,j,none⟩=some v ∧ ∃ c,cs[j]? = some c∧CRep w G.S c v) (L * sz) fun j hj=>by
    have hc:=List.getElem?_eq_getElem (l:=cs) (i:=j) (by omega)
    obtain ⟨_,_,v,q3,q4⟩:=hbox j _ hc
    exact ⟨v,q3,_,hc,q4⟩
   have hrun:=run_append_grow (P:=Z.P) w t ty e jf ze hu hinfo hze ⟨blk,0,none⟩ L cap olds (by rw [hol,hsz]) (fun j v hj=>by rw [uB5,Nat.zero_add]; exact (hor j v hj).1) ⟨xb,xo,none⟩ xs.length mc news (by rw [hnl,hsz]) hncell (by omega) (by omega) (growslice_fits (by omega) (by rw [hby]; exact hbig))
   have hge:=grownCap_ge w (L + xs.length) cap e
   obtain ⟨G1,q1,q2,q3⟩:=grow olds (grownCap w (L + xs.length) cap e) hol (fun j c hj=>by
    have hlt:=(List.getElem?_eq_some_iff.1 hj).1
    have hv:=List.getElem?_eq_getElem (l:=olds) (i:=j) (by omega)
    obtain ⟨_,c',h1,h2⟩:=hor j _ hv
    rw [hj] at h1; simp only [Option.some.injEq] at h1; subst h1
    exact ⟨_,hv,h2⟩) hge
   refine ⟨G1,_,_,_,by rw [hxv]; exact hrun,q1,?_,hge,q3⟩
   rw [q2]
section
variable {N : Nat} {st : St} {ty : TypeId}
def St.msApp (st : St) (d k j' : Nat) (n : Nm) (sz L : Nat) (cs : List C) : St:=(((st.unown (.t k)).boxes2 (.l j') n cs).put d (true, .v (.ms (.l j') sz 0 L))).addOwn (.t d) sz
theorem uJw {d k j' : Nat} {x : Operand} {t : TypeId} {sz e by' L : Nat} {n : Nm} {cs : List C} {xs : List (List C)} {ti : TyI} {y : Y} (hs : st.get k=some (true, .v y)) (hw : st.own (.t k)=some sz)
  (hx : lk Z.T st t x=some (true, .v (.c (.sl sz xs)))) (ht : tyAt Z.T t=some ti) (hel : ti.el=some (e,sz,by')) (hN : Nat.ble (d + 1) N=true) (hkd : Nat.beq k d=false)
  (hnl : ∃ j,n = .l j) (hfr : FreshG st (.l j',true)) (hfo : FreshG st (n,false)) (hcl : cs.length=L * sz) (hx1 : 1≤xs.length) (hbig : (L + xs.length) * by'≤140737488355328) (hmax : L + xs.length≤9223372036854775807)
  (hy : ∀ (E : Env) (G : Gh) (a : Act) (w : World) (v' : Value),Rel E G st a w→YRep w G y v'→OwnAt E.C w G (.t k) sz v'→(v' = .slice none 0 0∧L=0∧cs=[]) ∨ ∃ blk cap,v' = .slice (some ⟨blk,0,none⟩) L cap ∧ ∀ (j : Nat) (c : C),cs[j]? = some c→G.W blk j = .box n∧w.frozen? ⟨blk,j,none⟩=false ∧ ∃ v,w.cell? ⟨blk,j,none⟩=some v∧CRep w G.S c v) (hz : Z.old=false:=by rfl) :
  Does Z N st (some d) (.call { callee:=.builtin .append,args:=#[.tmp k,x],argTypes:=#[t,t] }) ty (st.msApp d k j' n sz (L + xs.length) (cs++xs.flatten)):=by
 intro o E G a w hd ho _ hr hE K Q hK
 have hdN : d < E.nt:=by rw [hE.nt]; exact Nat.le_of_ble_eq_true hN
 have hkd' : ¬ d=k:=fun e=>by subst e; simp at hkd
 obtain ⟨hu,jf,ze,hinfo,hsz,hby,hsz0,hze,hzec⟩:=(Z.tyOk ht).sl e sz by' hel
 obtain ⟨v,hv,hv1,_⟩:=hr.tm k true _ hs
 obtain ⟨v',hv',hown⟩:=hr.ow _ _ hw
 have : v'=v:=by
  have hv2 : a.tmps[k]? = some v':=hv'
  rw [hv] at hv2; simpa using hv2.symm
 subst this
 have hxr : CRep w G.S (.sl sz xs) (a.eval x):=uAS hr hx rfl
 have hev : a.eval (.tmp k)=v':=by simp [Act.eval,Array.getD_eq_getD_getElem?,hv]
 have hexec : (execOp a.eval o).run Z.P w=((Builtin.append_ #[t,t] o.type #[v',a.eval x]).run Z.P w).andThen fun u w'=>.ok (.value u) w':=by
  simp [execOp,ho,Go.resolve,invoke,builtin,hev]
 obtain ⟨G1,w1,u,cap',hrun,hrel,hu1,hcap,ho'⟩:=uLx hr (hE.old hz) (p:=.t k) (ty:=o.type) hu hinfo hsz hby hsz0 hze hzec hown hnl hfr hfo (hy E G a w v' hr (hv1 rfl) hown) hcl hxr hx1 hbig hmax
 unfold Oper.wp
 rw [hexec,hrun]
 simp only [Result.andThen_ok]
 rw [Oper.upon_value,hd]
 have hput:=hrel.put hdN (g:=true) (x:=.v (.ms (.l j') sz 0 (L + xs.length))) (v:=u) (fun _=>.inr ⟨cap',hcap,hu1⟩) (fun hf=>by simp at hf)
 have := hput.relabel (q := .t d) ho' (by rw [St.put_own,if_pos rfl]) (by
  show (a.put (some d) u).tmps[d]? = _
  rw [uBx (by rw [hr.nt]; exact hdN)]; simp)
 refine hK (G1.relabel (.t k) (.t d)) u w1 (Rel.sub (st:=(((((st.unown (.t k)).boxes2 (.l j') n (cs++xs.flatten)).put d (true, .v (.ms (.l j') sz 0 (L + xs.length)))).unown (.t k)).addOwn (.t d) sz)) (st':=st.msApp d k j' n sz (L + xs.length) (cs++xs.flatten)) ⟨fun _ _ q=>q,fun _ _ q=>q,?_, .inr rfl⟩ this)
 intro r s hrs
 unfold St.msApp at hrs
 rw [St.addOwn_own] at hrs ⊢
 split at hrs
 ·rename_i he; rw [if_pos he]; exact hrs
 ·rename_i he
  rw [if_neg he,St.unown_own]
  split
  ·rename_i hk
   subst hk
   rw [St.put_own,if_neg (by simp; exact fun e=>hkd' e.symm)] at hrs
   have h2 : (st.unown (.t k)).own (.t k)=some s:=hrs
   rw [St.unown_own,if_pos rfl] at h2
   simp at h2
  ·exact hrs
theorem uND {k L sz : Nat} {n : Nm} {cs : List C} {st : St} (hb : st.box n=some cs) (hcl : cs.length=L * sz) : ∀ (E : Env) (G : Gh) (a : Act) (w : World) (v' : Value),Rel E G st a w→YRep w G (.ms n sz 0 L) v'→OwnAt E.C w G (.t k) sz v' →
  (v' = .slice none 0 0∧L=0∧cs=[]) ∨ ∃ blk cap,v' = .slice (some ⟨blk,0,none⟩) L cap ∧ ∀ (j : Nat) (c : C),cs[j]? = some c→G.W blk j = .box n∧w.frozen? ⟨blk,j,none⟩=false ∧ ∃ v,w.cell? ⟨blk,j,none⟩=some v∧CRep w G.S c v:=by
 intro E G a w v' hr hy ho
 rcases hy with ⟨rfl,rfl⟩ | ⟨cap,hcap,rfl⟩
 ·exact .inl ⟨rfl,rfl,List.eq_nil_of_length_eq_zero (by rw [hcl,Nat.zero_mul])⟩
 rcases ho with ho | ⟨blk,len,cap2,e,hv,_⟩
 ·simp at ho
 ·simp only [Value.slice.injEq,Option.some.injEq,Addr.mk.injEq,Nat.add_zero] at hv
  obtain ⟨⟨h1,h2,_⟩,_⟩:=hv
  refine .inr ⟨(G.A n).1,cap,by simp [h2],fun j c hj=>?_⟩
  have := hr.bx n cs hb j c hj
  rw [h2,Nat.zero_add] at this
  exact this
section
variable {s0 : St} {ops : Array Oper} {B : List Nat} {q : Nat} {rest : List Oper} {acc : List Lnk} {o : Oper} {Q : St→Prop} {d : Nat}
end
theorem uJR {x : Operand} {t : TypeId} {g gate : Bool} {n : Nm} {sz off L : Nat} {ti : TyI} {el : Nat × Nat × Nat} (h : lk Z.T st ty x=some (g, .v (.ms n sz off L))) (hg : gate=true→g=true)
  (ht : tyAt Z.T t=some ti) (hel : ti.el=some el) : PureOk Z st (.call { callee:=.builtin .len,args:=#[x],argTypes:=#[t] }) ty gate (.v (.c (.i .i64 (L : Int)))):=by
 intro o E G a w ho _ hr hgt
 obtain ⟨e,s,by'⟩:=el
 have hu:=((Z.tyOk ht).sl e s by' hel).1
 refine ⟨.int .i64 L,CRep.i _ _,?_⟩
 rcases uAS hr h (hg hgt) with ⟨rfl,h2⟩ | ⟨cap,_,h2⟩
 ·simp [execOp,ho,h2,Go.resolve,invoke,builtin,Builtin.len_,underlying,hu,goInt]
 ·simp [execOp,ho,h2,Go.resolve,invoke,builtin,Builtin.len_,underlying,hu,goInt]
theorem uH5 {x i : Operand} {t : TypeId} {g gi gate : Bool} {n : Nm} {sz off L : Nat} {k : IntKind} {m : Int} {j : Nat} {ti : TyI} {e by' : Nat} (h : lk Z.T st ty x=some (g, .v (.ms n sz off L))) (hi : lk Z.T st ty i=some (gi, .v (.c (.i k m))))
  (hg : gate=true→g=true) (hgi : gate=true→gi=true) (ht : tyAt Z.T t=some ti) (hel : ti.el=some (e,sz,by')) (hn : m=(j : Int)) (hj : gate=true→j < L) : PureOk Z st (.indexAddr t x i) ty gate (.v (.ptr n (off + j * sz))):=by
 intro o E G a w ho _ hr hgt
 have hj:=hj hgt
 rcases uAS hr h (hg hgt) with ⟨rfl,h1⟩ | ⟨cap,_,h1⟩
 ·omega
 have h2:=XRep.int (uAS hr hi (hgi hgt))
 subst hn
 obtain ⟨hu,jf,ze,hinfo,hsz,_,_,_,_⟩:=(Z.tyOk ht).sl e sz by' hel
 refine ⟨.pointer (some ⟨(G.A n).1,(G.A n).2 + (off + j * sz),none⟩),rfl,?_⟩
 simp [execOp,ho,h1,h2,Instr.indexAt,asIntOf,underlying,hu,hj,sizeOf,typeInfo,hinfo,hsz,uB5,Nat.add_assoc]
end
end Go.Abs
namespace Go.Abs
variable {Z : Pg}
def St.frz (st : St) (k m sz : Nat) (es : List (List C)) : St:={ st with t:=(k,true, .v (.c (.sl sz es))) :: st.t,bx:=(.l m,[]) :: st.bx }
open Classical in
noncomputable def Gh.frz (G : Gh) (n : Nm) : Gh:={ G with W:=fun b o=>if G.W b o = .box n then .imm else G.W b o }
theorem uKp {sz : Nat} : ∀ {xs : List (List C)} {i j : Nat} {row : List C} {c : C},(∀ (i : Nat) (row : List C),xs[i]? = some row→row.length=sz)→xs[i]? = some row→row[j]? = some c→xs.flatten[i * sz + j]? = some c
 | [],i,j,row,c,_,h,_=>by simp at h
 | x :: xs,0,j,row,c,hr,h,hc=>by
  simp only [List.getElem?_cons_zero,Option.some.injEq] at h
  subst h
  have hj:=(List.getElem?_eq_some_iff.1 hc).1
  rw [List.flatten_cons,Nat.zero_mul,Nat.zero_add,List.getElem?_append_left hj,hc]
 | x :: xs,i + 1,j,row,c,hr,h,hc=>by
  have hx:=hr 0 x rfl
  rw [List.flatten_cons,List.getElem?_append_right (by rw [hx,Nat.add_mul]; omega)]
  have := uKp (xs := xs) (i := i) (fun i row hi=>hr (i + 1) row (by simpa using hi)) (by simpa using h) hc
  rw [← this]
  congr 1
  rw [hx,Nat.add_mul]; omega
theorem Gh.frz_S {G : Gh} {n : Nm} {b o : Nat} (h : G.S b o) : (G.frz n).S b o:=by
 unfold Gh.S Gh.frz at *
 dsimp only
 rw [if_neg (by rw [h]; simp)]
 exact h
theorem Rel.freeze {E : Env} {G : Gh} {st : St} {a : Act} {w : World} (h : Rel E G st a w) {k m sz L : Nat} {es : List (List C)} (hs : st.get k=some (true, .v (.ms (.l m) sz 0 L)))
  (hb : st.box (.l m)=some es.flatten) (hL : es.length=L) (hm : L≤9223372036854775807) (hrow : ∀ (i : Nat) (row : List C),es[i]? = some row→row.length=sz) (hfo : FreshG st (.l m,false)) :
  Rel E (G.frz (.l m)) (st.frz k m sz es) a w:=by
 have hmono : ∀ {y : C} {v : Value},CRep w G.S y v→CRep w (G.frz (.l m)).S y v:=fun hc=>hc.mono (fun _ _=>Gh.frz_S) (fun _ _ _=>rfl)
 have hbox:=h.bx _ _ hb
 have hne : ∀ {b o : Nat} {x : Who},G.W b o=x→x ≠ .box (.l m)→(G.frz (.l m)).W b o=x:=fun {b o x} e hx=>by
  unfold Gh.frz; dsimp only; rw [if_neg (by rw [e]; exact hx)]; exact e
 constructor
 ·exact h.df
 ·intro j g x hj
  have hj2 : getT ((k,true, .v (.c (.sl sz es))) :: st.t) j=some (g,x):=hj
  rw [uBF] at hj2
  split at hj2
  ·rename_i he; subst he
   simp only [Option.some.injEq,Prod.mk.injEq] at hj2
   obtain ⟨rfl,rfl⟩:=hj2
   obtain ⟨v,hv,hv1,_⟩:=h.tm _ _ _ hs
   refine ⟨v,hv,fun _=>?_,fun hg=>by simp at hg⟩
   rcases hv1 rfl with ⟨rfl,rfl⟩ | ⟨cap,hc,rfl⟩
   ·rw [List.eq_nil_of_length_eq_zero hL]; exact CRep.nil sz
   refine CRep.mk_sl hL hc hm fun i row hi=>⟨hrow i row hi,fun j' c hj'=>?_⟩
   obtain ⟨q1,q2,v,q3,q4⟩:=hbox _ c (uKp hrow hi hj')
   rw [Nat.add_zero,Nat.add_assoc]
   refine ⟨?_,v,q3,hmono q4⟩
   unfold Gh.S Gh.frz; dsimp only; rw [if_pos q1]
  ·obtain ⟨u,hu,q1,q2⟩:=h.tm j g x hj2
   exact ⟨u,hu,fun hg=>(q1 hg).mono (fun _ _=>Gh.frz_S) (fun _ _ _=>rfl) (fun _ _=>rfl),q2⟩
 ·intro n ds hn j c hj
  have hn2 : getB ((.l m,[]) :: st.bx) n=some ds:=hn
  rw [uA0] at hn2
  split at hn2
  ·simp only [Option.some.injEq] at hn2; subst hn2; simp at hj
  ·rename_i hx
   obtain ⟨q1,q2,v,q3,q4⟩:=h.bx n ds hn2 j c hj
   exact ⟨hne q1 (by intro e; injection e with e; exact hx e.symm),q2,v,q3,hmono q4⟩
 ·intro p s hp
  have hp2 : st.own p=some s:=hp
  obtain ⟨u,hu,ho⟩:=h.ow p s hp2
  refine ⟨u,?_,?_⟩
  ·cases p with
   | t k'=>exact hu
   | b n off =>
    refine ⟨hu.1,hne hu.2 ?_⟩
    intro e; injection e with e
    have := hfo.2 _ _ hp2
    subst e; simp [Pl.inBox,Nm.beq_self] at this
  ·rcases ho with ho | ⟨b2,len,cap,e,q1,q2,q3,q4⟩
   ·exact .inl ho
   ·exact .inr ⟨b2,len,cap,e,q1,q2,q3,fun o h1 h2=>⟨hne (q4 o h1 h2).1 (by simp),(q4 o h1 h2).2⟩⟩
 ·intro b o hw
  refine h.wf b o fun e=>hw (hne e (by simp))
 ·intro b o n hb' hn
  unfold Gh.frz at hn; dsimp only at hn
  split at hn
  ·simp at hn
  ·exact h.olB b o n hb' hn
 ·intro b o p hb' hn
  unfold Gh.frz at hn; dsimp only at hn
  split at hn
  ·simp at hn
  ·exact h.olO b o p hb' hn
 ·exact h.nt
 ·exact h.oA
 ·intro b o hi
  exact hne (h.im b o hi) (by simp)
 ·intro b o hb' hi
  unfold Gh.frz at hi; dsimp only at hi
  split at hi
  ·rename_i e
   obtain ⟨j,hj⟩:=(h.lo b o hb').1 _ e
   simp at hj
  ·exact h.im' b o hb' hi
 ·exact h.fr
 ·exact h.hB
 ·intro b o hb'
  unfold Gh.frz; dsimp only
  split
  ·simp
  ·exact h.lo b o hb'
 ·intro t j ds hn hne2
  have hn2 : getB ((.l m,[]) :: st.bx) (.bd t j)=some ds:=hn
  rw [uA0,if_neg (by simp)] at hn2
  exact h.bd t j ds hn2 hne2
 ·intro x hx
  obtain ⟨q1,q2,q3⟩:=h.mp x hx
  refine ⟨q1,q2,fun o=>?_⟩
  unfold Gh.frz; dsimp only
  split
  ·exact ⟨fun n=>by simp,fun q=>by simp⟩
  ·exact q3 o
theorem uLj {N : Nat} {ops : Array Oper} {rest : List Oper} {K : St→Prop} {st : St} (k m : Nat) {sz L : Nat} (es : List (List C)) (hs : st.get k=some (true, .v (.ms (.l m) sz 0 L)))
  (hb : st.box (.l m)=some es.flatten) (hL : es.length=L) (hm : L≤9223372036854775807) (hrow : ∀ (i : Nat) (row : List C),es[i]? = some row→row.length=sz) (hfo : st.freshO (.l m,false)=true)
  (h : AL Z N ops rest K (st.frz k m sz es)) : AL Z N ops rest K st :=
 fun E G a w hr hE=>h E _ a w (hr.freeze hs hb hL hm hrow (St.freshO_ok hfo)) hE
def St.ren (st : St) (k m m' sz L : Nat) (cs : List C) : St :=
 {t:=(k,true, .v (.ms (.l m') sz 0 L)) :: st.t.filter (fun q=>!Nat.beq q.1 k),bx:=(.l m',cs) :: st.bx.filter (fun q=>!Nm.beq q.1 (.l m)),ow:=st.ow,mp:=st.mp }
theorem uDj (k : Nat) : ∀ (l : List (Nat × Bool × X)) (j : Nat),getT (l.filter fun q=>!Nat.beq q.1 k) j=if j=k then none else getT l j
 | [],j=>by simp [getT]
 | (i,e) :: r,j=>by
  by_cases hi : i=k
  ·subst hi
   have hb : Nat.beq i i=true:=Nat.beq_refl i
   rw [List.filter_cons,if_neg (by simp [hb]),uDj i r j,uBF]
   by_cases hj : j=i
   ·subst hj; simp
   ·have : ¬ i=j:=fun e=>hj e.symm
    simp [hj,this]
  ·rw [List.filter_cons,if_pos (by simp [uGB hi]),uBF,uBF,uDj k r j]
   by_cases hj : i=j
   ·subst hj; simp [hi]
   ·simp [hj]
open Classical in
theorem Rel.rename {E : Env} {G : Gh} {st : St} {a : Act} {w : World} (h : Rel E G st a w) {k m m' sz L : Nat} {cs : List C} (hs : st.get k=some (true, .v (.ms (.l m) sz 0 L))) (hb : st.box (.l m)=some cs)
  (hfr : FreshG st (.l m',true)) (hfo : FreshG st (.l m,false)) :
  Rel E { W:=fun b o=>if G.W b o = .box (.l m) then .box (.l m') else G.W b o,A:=fun n=>if n = .l m' then G.A (.l m) else G.A n } (st.ren k m m' sz L cs) a w:=by
 have hS : ∀ b o,G.S b o→Gh.S { W:=fun b o=>if G.W b o = .box (.l m) then .box (.l m') else G.W b o,A:=fun n=>if n = .l m' then G.A (.l m) else G.A n } b o:=fun b o hs=>by
  unfold Gh.S at *
  dsimp only
  rw [if_neg (by rw [hs]; simp)]
  exact hs
 constructor
 ·exact h.df
 ·intro j g x hj
  have hj2 : getT ((k,true, .v (.ms (.l m') sz 0 L)) :: st.t.filter (fun q=>!Nat.beq q.1 k)) j=some (g,x):=hj
  rw [uBF] at hj2
  split at hj2
  ·rename_i he; subst he
   simp only [Option.some.injEq,Prod.mk.injEq] at hj2
   obtain ⟨rfl,rfl⟩:=hj2
   obtain ⟨u,hu,q1,q2⟩:=h.tm _ _ _ hs
   refine ⟨u,hu,fun _=>?_,fun hg=>by simp at hg⟩
   rcases q1 rfl with e | ⟨cap,hc,e⟩
   ·exact .inl e
   ·exact .inr ⟨cap,hc,by dsimp only; rw [if_pos rfl]; exact e⟩
  ·rw [uDj] at hj2
   split at hj2
   ·simp at hj2
   ·obtain ⟨u,hu,q1,q2⟩:=h.tm j g x hj2
    refine ⟨u,hu,fun hg=>(q1 hg).mono hS (fun _ _ _=>rfl) fun n hn=>?_,q2⟩
    have : ¬ n = .l m' := fun e=>by subst e; have := hfr.1 rfl j g x hj2; rw [hn] at this; simp at this
    dsimp only; rw [if_neg this]
 ·intro n ds hn j c hj
  have hn2 : getB ((.l m',cs) :: st.bx.filter (fun q=>!Nm.beq q.1 (.l m))) n=some ds:=hn
  rw [uA0] at hn2
  split at hn2
  ·rename_i he; subst he
   simp only [Option.some.injEq] at hn2; subst hn2
   obtain ⟨q1,q2,u,q3,q4⟩:=h.bx _ _ hb j c hj
   dsimp only
   rw [if_pos rfl,if_pos q1]
   exact ⟨rfl,q2,u,q3,q4.mono hS (fun _ _ _=>rfl)⟩
  ·rename_i hne
   rw [uCw (fun q=>!Nm.beq q (.l m))] at hn2
   split at hn2
   ·rename_i hf2
    have hne2 : ¬ n = .l m:=fun e=>by subst e; simp [Nm.beq_self] at hf2
    obtain ⟨q1,q2,u,q3,q4⟩:=h.bx n ds hn2 j c hj
    have hn3 : ¬ n = .l m':=fun e=>hne e.symm
    dsimp only
    rw [if_neg hn3,if_neg (by rw [q1]; intro e; injection e with e; exact hne2 e)]
    exact ⟨q1,q2,u,q3,q4.mono hS (fun _ _ _=>rfl)⟩
   ·simp at hn2
 ·intro p s hp
  have hp2 : st.own p=some s:=hp
  obtain ⟨u,hu,ho⟩:=h.ow p s hp2
  refine ⟨u,?_,?_⟩
  ·cases p with
   | t k'=>exact hu
   | b n off =>
    have h1 : ¬ n = .l m' := fun e=>by have := hfr.2 _ _ hp2; subst e; simp [Pl.inBox,Nm.beq_self] at this
    have h2 : ¬ n = .l m := fun e=>by have := hfo.2 _ _ hp2; subst e; simp [Pl.inBox,Nm.beq_self] at this
    refine ⟨?_,?_⟩
    ·dsimp only; rw [if_neg h1]; exact hu.1
    ·dsimp only; rw [if_neg h1,if_neg (by rw [hu.2]; intro e; injection e with e; exact h2 e)]; exact hu.2
  ·rcases ho with ho | ⟨b2,len,cap,e,q1,q2,q3,q4⟩
   ·exact .inl ho
   ·exact .inr ⟨b2,len,cap,e,q1,q2,q3,fun o h1 h2=>⟨by dsimp only; rw [if_neg (by rw [(q4 o h1 h2).1]; simp)]; exact (q4 o h1 h2).1,(q4 o h1 h2).2⟩⟩
 ·intro b o hw
  refine h.wf b o fun e=>hw ?_
  dsimp only; rw [if_neg (by rw [e]; simp)]; exact e
 ·intro b o n hb' hn
  dsimp only at hn
  split at hn
  ·rename_i e; exact h.olB b o _ hb' e
  ·exact h.olB b o n hb' hn
 ·intro b o p hb' hn
  dsimp only at hn
  split at hn
  ·simp at hn
  ·exact h.olO b o p hb' hn
 ·exact h.nt
 ·intro j
  dsimp only
  rw [if_neg (by simp)]
  exact h.oA j
 ·intro b o hi
  exact hS b o (h.im b o hi)
 ·intro b o hb' hi
  dsimp only at hi
  split at hi
  ·simp at hi
  ·exact h.im' b o hb' hi
 ·exact h.fr
 ·exact h.hB
 ·intro b o hb'
  dsimp only
  split
  ·rename_i e
   obtain ⟨j,hj⟩:=(h.lo b o hb').1 _ e
   simp at hj
  ·exact h.lo b o hb'
 ·intro t j ds hn hne2
  have hn2 : getB ((.l m',cs) :: st.bx.filter (fun q=>!Nm.beq q.1 (.l m))) (.bd t j)=some ds:=hn
  rw [uA0,if_neg (by simp),uCw (fun q=>!Nm.beq q (.l m))] at hn2
  split at hn2
  ·dsimp only
   rw [if_neg (by simp)]
   exact h.bd t j ds hn2 hne2
  ·simp at hn2
 ·intro x hx
  obtain ⟨q1,q2,q3⟩:=h.mp x hx
  refine ⟨q1,q2,fun o=>?_⟩
  dsimp only
  rw [if_neg ((q3 o).1 _)]
  exact q3 o
theorem uHd : ∀ (ds p m s : List C),m.length=ds.length→uBB (p++(m++s)) p.length ds=p++(ds++s)
 | [],p,m,s,h=>by rw [List.eq_nil_of_length_eq_zero h]; rfl
 | d :: ds,p,[],s,h=>by simp at h
 | d :: ds,p,x :: m,s,h=>by
  have h' : m.length=ds.length:=by simpa using h
  rw [uBB,List.cons_append,List.set_append_right _ _ (Nat.le_refl _),Nat.sub_self,List.set_cons_zero]
  have := uHd ds (p++[d]) m s h'
  rw [List.append_assoc,List.length_append] at this
  simpa using this
end Go.Abs
namespace Go.Abs
variable {Z : Pg}
theorem uMn {E : Env} {G : Gh} {st : St} {a : Act} {w : World} (hr : Rel E G st a w) {p : Pl} {sz e by' : Nat} {es xs : List (List C)} {v' xv : Value} {t tx ty : TypeId} {jf : TypeInfo} {ze : Value} {news : List Value}
  (hu : Z.P.underlying t=some (.slice e)) (hinfo : Z.P.info? e=some jf) (hsz : jf.size=sz) (hby : jf.bytes=by') (hsz0 : sz≠0) (hze : jf.zero=some ze) (hzec : ze.cells.size=sz)
  (hcr : CRep w G.S (.sl sz es) v') (hown : OwnAt E.C w G p sz v') (hsrc : Src Z.P sz tx xv xs.length news w) (hxrow : ∀ (i : Nat) (row : List C),xs[i]? = some row→row.length=sz)
  (hnrep : ∀ (i j : Nat) (row : List C) (c : C),xs[i]? = some row→row[j]? = some c → ∃ v,news[i * sz + j]? = some v∧CRep w G.S c v)
  (hbig : (es.length + xs.length) * by'≤140737488355328) (hmax : es.length + xs.length≤9223372036854775807) (hpe : ∀ t k o,p = .b (.bd t k) o→e=t % 4096) :
  ∃ G1 w1 uo un uc,(Builtin.append_ #[t,tx] ty #[v',xv]).run Z.P w = .ok (.slice uo un uc) w1∧Rel E G1 (st.unown p) a w1∧CRep w1 G1.S (.sl sz (es++xs)) (.slice uo un uc)∧OwnAt E.C w1 G1 p sz (.slice uo un uc)∧G1.A=G.A ∧
   (∀ b o,b < w.heap.size→G.W b o ≠ .own p→w1.cell? ⟨b,o,none⟩=w.cell? ⟨b,o,none⟩):=by
 have hpos : 0 < sz:=by omega
 have hunown : Rel E G (st.unown p) a w:=hr.sub (st.unown_sub _)
 have hexl : (es++xs).length=es.length + xs.length:=List.length_append
 have hnl:=hsrc.newsLen
 have hcase : (v' = .slice none 0 0∧es=[]) ∨ ∃ blk len cap,v' = .slice (some ⟨blk,0,none⟩) len cap∧es.length=len:=by
  rcases hown with hn | ⟨blk2,len2,cap2,e2,hv2,_⟩
  ·subst hn
   refine .inl ⟨rfl,?_⟩
   rcases CRep.sl_cases hcr with ⟨_,_,h⟩ | ⟨_,_,_,_,h,_⟩
   ·exact h
   ·simp at h
  ·refine .inr ⟨blk2,len2,cap2,hv2,?_⟩
   rw [hv2] at hcr
   exact hcr.elem.1
 have grow : ∀ (base : Option Addr) (cap : Nat) (olds : List Value),v' = .slice base es.length cap→olds.length=es.length * sz→(Builtin.firstCells jf.size es.length (.slice base es.length cap)).run Z.P w.drew = .ok olds.toArray w.drew→cap < es.length + xs.length →
   (∀ (i j : Nat) (row : List C) (c : C),es[i]? = some row→row[j]? = some c → ∃ v,olds[i * sz + j]? = some v∧CRep w G.S c v)→(∀ (i : Nat) (row : List C),es[i]? = some row→row.length=sz) →
   ∃ G1 w1 uo un uc,(Builtin.append_ #[t,tx] ty #[v',xv]).run Z.P w = .ok (.slice uo un uc) w1∧Rel E G1 (st.unown p) a w1∧CRep w1 G1.S (.sl sz (es++xs)) (.slice uo un uc)∧OwnAt E.C w1 G1 p sz (.slice uo un uc)∧G1.A=G.A ∧
   (∀ b o,b < w.heap.size→G.W b o ≠ .own p→w1.cell? ⟨b,o,none⟩=w.cell? ⟨b,o,none⟩):=by
  intro base cap olds hv hol hold hg horep herow
  subst hv
  have hrun:=run_append_grow_src (P:=Z.P) w t tx ty e jf ze hu hinfo hze base es.length cap olds hold xv xs.length news (by rw [hsz]; exact hsrc) hg (by omega) (growslice_fits (by omega) (by rw [hby]; exact hbig))
  have hge:=grownCap_ge w (es.length + xs.length) cap e
  have harr : (olds++news).toArray=olds.toArray++news.toArray:=by simp
  rw [harr] at hrun
  obtain ⟨G1,q0,q1,q2,q3⟩:=hr.newRow p (e:=e) hpe (sz:=sz) (len:=es.length + xs.length) (cap:=grownCap w (es.length + xs.length) cap e) (es:=es++xs) (cells:=olds.toArray++news.toArray++Builtin.zeroCells ze.cells (grownCap w (es.length + xs.length) cap e - (es.length + xs.length))) hge
   hmax (by simp only [Array.size_append,List.size_toArray,size_zeroCells,hzec,hnl,hol,← Nat.add_mul]; congr 1; omega) hexl (fun i row hi=>by
    rw [List.getElem?_append] at hi
    split at hi
    ·exact herow _ row hi
    ·exact hxrow _ row hi) (uFF hol horep hnrep _)
  refine ⟨G1,_,_,_,_,hrun,q1,q2,q3,q0,fun b o hb _=>?_⟩;exact World.cell?_alloc_lt w.drew _ _ hb
 rcases hcase with ⟨hvn,rfl⟩ | ⟨blk,len,cap,hvs,hlen⟩
 ·by_cases hm : xs.length=0
  ·have hx0 : xs=[]:=List.eq_nil_of_length_eq_zero hm
   subst hx0
   subst hvn
   refine ⟨G,w,none,0,0,?_,hunown,CRep.nil sz, .inl rfl,rfl,fun _ _ _ _=>rfl⟩
   have hn0 : news=[]:=List.eq_nil_of_length_eq_zero (by rw [hnl]; simp)
   subst hn0
   have hc:=hsrc.cells
   have hl:=hsrc.len w
   simp only [List.length_nil] at hc hl
   rcases hsrc.kind with ⟨e',hk⟩ | hk <;> simp [Builtin.append_,run_underlying hu,run_underlying hk,sizeOf,typeInfo,hinfo,hl,hsz,hc]
  ·exact grow none 0 [] hvn (by simp) (by rw [hsz]; simp [Builtin.firstCells]) (by simp; omega) (fun i j row c hi _=>by simp at hi) (fun i row hi=>by simp at hi)
 ·subst hlen
  have hcr2:=hcr
  rw [hvs] at hcr2
  obtain ⟨olds,hol,hocell,_,horep⟩:=uDw hcr2
  have herow : ∀ (i : Nat) (row : List C),es[i]? = some row→row.length=sz:=fun i row hi=>(hcr2.elem.2.2.2 i row hi).1
  by_cases hroom : es.length + xs.length≤cap
  ·rcases hown with ha0 | ⟨blk2,len2,cap2,e2,hv2,hlc2,⟨hshape,hfr0⟩,hspare⟩
   ·rw [ha0] at hvs; simp at hvs
   ·subst hvs
    simp only [Value.slice.injEq,Option.some.injEq,Addr.mk.injEq] at hv2
    obtain ⟨⟨rfl,_⟩,rfl,rfl⟩:=hv2
    have hfit : (es.length + xs.length) * sz≤cap * sz:=Nat.mul_le_mul_right _ hroom
    rw [Nat.add_mul] at hfit
    have hsome : ∀ j,j < news.length→(w.cell? ⟨blk,es.length * sz + j,none⟩).isSome=true:=by
     intro j hj
     unfold World.shape? at hshape
     unfold World.cell?
     split at hshape
     ·rename_i c e3 fz hheap
      simp only [Option.some.injEq,Prod.mk.injEq] at hshape
      obtain ⟨_,hcs⟩:=hshape
      simp only [hheap]
      simp
      omega
     ·simp at hshape
    obtain ⟨f1,f2,f3,f4,f5,f6,f7,f8,f9⟩:=uCz blk news (es.length * sz) w hsome
    have hrun:=run_append_room_src (P:=Z.P) w t tx ty e jf hu hinfo blk 0 es.length cap xv xs.length news (by rw [hsz]; exact hsrc) hroom (by rw [hsz,Nat.zero_add]; exact hsome) (fun j hj=>by
     rw [hsz,Nat.zero_add]
     exact (hspare (es.length * sz + j) (by omega) (by omega)).2)
    rw [hsz,Nat.zero_add] at hrun
    let F : Nat→Nat→Prop:=fun b o=>b=blk∧es.length * sz≤o∧o < es.length * sz + news.length
    have hF : ∀ b o,F b o→G.W b o = .own p:=by
     rintro b o ⟨rfl,h1,h2⟩
     exact (hspare o h1 (by omega)).1
    have hrel:=hr.write (F:=F) (w1:=w.setCells blk (es.length * sz) news) hF f1 f2 f3 f4 (fun b hb=>by
      by_cases hbb : b=blk
      ·subst hbb
       by_cases hz : news.length=0
       ·have hn0 : news=[]:=List.eq_nil_of_length_eq_zero hz
        rw [hn0]; rfl
       ·exact absurd ⟨rfl,Nat.le_refl _,by omega⟩ (hb (es.length * sz))
      ·exact f5 b hbb) (fun b o hb=>f6 b o hb) f8 f9
    have hnF : ∀ b o,G.S b o → ¬ F b o:=fun b o hs hf=>by
     unfold Gh.S at hs; rw [hF b o hf] at hs; simp at hs
    have hS : ∀ b o,G.S b o→Gh.S { G with W:=fun b o=>if F b o then .imm else G.W b o } b o:=fun b o hs=>by
     have := hnF b o hs
     unfold Gh.S at *
     dsimp only
     rw [if_neg this]; exact hs
    have hc : ∀ b o,G.S b o→(w.setCells blk (es.length * sz) news).cell? ⟨b,o,none⟩=w.cell? ⟨b,o,none⟩:=fun b o hs=>f6 b o (hnF b o hs)
    refine ⟨_,_,_,_,_,hrun,hrel,CRep.mk_sl hexl hroom hmax fun i row hi=>?_, .inr ⟨blk,es.length + xs.length,cap,e2,rfl,⟨hroom,hlc2.2⟩,⟨by rw [f9]; exact hshape,by rw [f8]; exact uEG hfr0 (by rw [Nat.add_mul]; omega)⟩,fun o' h1 h2=>?_⟩,rfl,fun b o hb hw=>f6 b o fun hf=>hw (hF b o hf)⟩
    ·rw [List.getElem?_append] at hi
     split at hi
     ·obtain ⟨q1,q2⟩:=hcr2.elem.2.2.2 _ row hi
      exact ⟨q1,q2.mono hS hc⟩
     ·rename_i hge
      refine ⟨hxrow _ row hi,fun j c hj=>?_⟩
      obtain ⟨v,hv,hrep⟩:=hnrep _ j row c hi hj
      have hlt:=(List.getElem?_eq_some_iff.1 hv).1
      have hidx : 0 + i * sz + j=es.length * sz + ((i - es.length) * sz + j):=by
       rw [Nat.sub_mul]
       have : es.length * sz≤i * sz:=Nat.mul_le_mul_right sz (by omega)
       omega
      rw [hidx]
      refine ⟨?_,v,f7 _ v hv,hrep.mono hS hc⟩
      unfold Gh.S
      dsimp only
      rw [if_pos ⟨rfl,by omega,by omega⟩]
    ·rw [Nat.add_mul] at h1
     obtain ⟨q5,q6⟩:=hspare o' (by omega) h2
     refine ⟨?_,by rw [uBU (f8 _)]; exact q6⟩
     dsimp only
     rw [if_neg (by rintro ⟨_,_,h3⟩; omega)]
     exact q5
  ·exact grow (some ⟨blk,0,none⟩) cap olds hvs hol (by rw [hsz]; exact run_firstCells_some (P:=Z.P) w.drew sz es.length ⟨blk,0,none⟩ es.length cap olds hol hocell) (by omega) horep herow
def uBh (l : List UInt8) : List (List C):=l.map fun b=>[.i .u8 (b.toNat : Int)]
theorem uBw (l : List UInt8) : (uBh l).length=l.length:=by simp [uBh]
theorem uJN (l m : List UInt8) : uBh (l++m)=uBh l++uBh m:=by simp [uBh]
theorem uF7 {l : List UInt8} {i : Nat} {row : List C} (h : (uBh l)[i]? = some row) : ∃ b,l[i]? = some b∧row=[.i .u8 (b.toNat : Int)]:=by
 unfold uBh at h
 rw [List.getElem?_map,Option.map_eq_some_iff] at h
 obtain ⟨b,h1,h2⟩:=h
 exact ⟨b,h1,h2.symm⟩
end Go.Abs
namespace Go.Abs
variable {Z : Pg}
def uCQ (b : Nat) (w w0 : World) : Prop :=
 (w.cell? ⟨b,0,none⟩=some (.pointer none)∧w0=w.setCell ⟨b,0,none⟩ (.pointer (some ⟨b,0,none⟩)))∨(w.cell? ⟨b,0,none⟩=some (.pointer (some ⟨b,0,none⟩))∧w0=w)
structure BdSys (Z : Pg) where
 tB : TypeId
 tS : TypeId
 tStr : TypeId
 tU : TypeId
 tPU : TypeId
 tI : TypeId
 tN : Nat
 hN1 : tN / 4096=tB
 hN2 : tN % 4096=tU
 fW : FuncId
 fB : FuncId
 hasB : Bool
 fS : FuncId
 jf : TypeInfo
 hu : Z.P.underlying tS=some (.slice tU)
 hstr : Z.P.underlying tStr=some .string
 hpu : Z.P.underlying tPU=some (.pointer tU)
 hinfo : Z.P.info? tU=some jf
 hsz : jf.size=1
 hby : jf.bytes=1
 hze : jf.zero=some (.int .u8 0)
 hcells : Z.P.cellsOf tU=1
 enW : Enters Z fW
 enB : hasB=true→Enters Z fB
 enS : Enters Z fS
 ws : ∀ (b : Nat) (w w0 w1 : World) (v' : Value) (uo : Option Addr) (un uc : Nat) (s : ByteArray),uCQ b w w0→w.shape? b=some (tB,2)→w.frozen? ⟨b,0,none⟩=false →
  w0.cell? ⟨b,1,none⟩=some v'→(Builtin.append_ #[tS,tStr] tS #[v', .string s]).run Z.P w0 = .ok (.slice uo un uc) w1→w1.cell? ⟨b,1,none⟩=some v'→w1.frozen? ⟨b,1,none⟩=false →
  Calls Z.P fW #[.pointer (some ⟨b,0,none⟩), .string s] w fun e w'=>e = .returned (.tuple #[.int .i64 s.size, .nilIface])∧w'=w1.setCell ⟨b,1,none⟩ (.slice uo un uc)
 wb : hasB=true → ∀ (b : Nat) (w w0 w1 : World) (v' : Value) (uo : Option Addr) (un uc : Nat) (c : Int),uCQ b w w0→w.shape? b=some (tB,2)→w.frozen? ⟨b,0,none⟩=false →
  w0.cell? ⟨b,1,none⟩=some v'→(Builtin.append_ #[tS,tS] tS #[v', .slice (some ⟨w0.heap.size,0,none⟩) 1 1]).run Z.P (w0.alloc (.cells #[.int .u8 c] tU)) = .ok (.slice uo un uc) w1→w1.cell? ⟨b,1,none⟩=some v'→w1.frozen? ⟨b,1,none⟩=false →
  Calls Z.P fB #[.pointer (some ⟨b,0,none⟩), .int .u8 c] w fun e w'=>e = .returned .nilIface∧w'=w1.setCell ⟨b,1,none⟩ (.slice uo un uc)
 st : ∀ (b : Nat) (w w1 w2 : World) (ao : Option Addr) (n cap : Nat) (p : Value) (s : ByteArray),w.cell? ⟨b,1,none⟩=some (.slice ao n cap) →
  (Builtin.unsafeSliceData_ #[tS] tPU #[.slice ao n cap]).run Z.P w.drew = .ok p w1→w1.cell? ⟨b,1,none⟩=some (.slice ao n cap) →
  (Builtin.unsafeString_ #[tPU,tI] tStr #[p, .int .i64 n]).run Z.P w1 = .ok (.string s) w2 →
  Calls Z.P fS #[.pointer (some ⟨b,0,none⟩)] w fun e w'=>e = .returned (.string s)∧w'=w2
def St.newBd (st : St) (t d : Nat) : St:=((st.addBox (.bd t d) [.bl, .sl 1 (uBh [])]).addOwn (.b (.bd t d) 1) 1).put d (true, .v (.ptr (.bd t d) 0))
theorem uIh {N : Nat} {st : St} {ty d t u : Nat} {ti : TyI} (hu : u / 4096=t) (ht : tyAt Z.T t=some ti) (hz : ti.z=[.o (.pointer none), .sl 1 []]) (hN : Nat.ble (d + 1) N=true) (hfr : st.fresh (.bd u d)=true) :
  Does Z N st (some d) (.alloc t) ty (st.newBd u d):=by
 intro o E G a w hd ho _ hr hE K Q hK
 have hdN : d < E.nt:=by rw [hE.nt]; exact Nat.le_of_ble_eq_true hN
 obtain ⟨i,dd,zv,hi,_,_,_,hzv,_,hall⟩:=(Z.tyOk ht).info
 rw [hz] at hall
 have hcs : zv.cells = #[.pointer none, .slice none 0 0]:=by
  cases hl : zv.cells.toList with
  | nil=>rw [hl] at hall; exact hall.elim
  | cons x r =>
   rw [hl] at hall
   cases r with
   | nil=>exact hall.2.elim
   | cons y r2 =>
    cases r2 with
    | cons _ _=>exact hall.2.2.elim
    | nil =>
     have h1 : CRep w G.S (.o (.pointer none)) x:=CRep.ofConst hall.1
     have h2 : CRep w G.S (.sl 1 []) y:=CRep.ofConst hall.2.1
     have hx : x = .pointer none:=by
      have : uCR (.o (.pointer none)) x=true:=hall.1
      unfold uCR at this
      split at this <;> simp_all
     have hy : y = .slice none 0 0:=by
      have : uCR (.sl 1 []) y=true:=hall.2.1
      unfold uCR at this
      split at this <;> simp_all
     rw [← Array.toArray_toList (xs:=zv.cells),hl,hx,hy]
 have hnew : ∀ j,(w.alloc (.cells zv.cells t)).cell? ⟨w.heap.size,j,none⟩=zv.cells[j]? := fun j=>World.cell?_alloc_new w _ _ _
 let n : Nm:=.bd u d
 let G1:=(G.push w.heap.size fun o=>if o < 2 then .box n else .none).name n (w.heap.size,0)
 have hgrow : Rel E G1 (st.drop n) a (w.alloc (.cells zv.cells t)):=by
  refine (hr.sub (St.drop_sub st n)).grow (uCO w _) ?_ ?_ ?_
  ·intro b o hb
   have : ¬ b=w.heap.size:=by omega
   simp [G1,Gh.name,Gh.push,this]
  ·have hne : ∀ k g x,(st.drop n).get k=some (g,x)→x.has n=false:=fun k g x hk=>St.fresh_has hfr hk
   constructor
   ·intro k g x hk m hm
    have : ¬ m=n:=fun e=>by subst e; rw [hne k g x hk] at hm; simp at hm
    simp [G1,Gh.name,this]; rfl
   ·intro m cs hm
    rw [St.drop_box] at hm
    split at hm
    ·simp at hm
    ·rename_i hmn
     simp [G1,Gh.name,hmn]; rfl
   ·intro m off sz hm
    rw [St.drop_own] at hm
    split at hm
    ·simp at hm
    ·rename_i hmn
     have : m≠n:=fun e=>hmn (by subst e; simp [Pl.inBox,Nm.beq_self])
     simp [G1,Gh.name,this]; rfl
   ·intro j
    have : ¬ (Nm.o j=n):=by simp [n]
    simp [G1,Gh.name,this]; rfl
  ·intro b o hne
   simp only [G1,Gh.name,Gh.push] at hne
   split at hne
   ·rename_i hb; subst hb; simp
   ·have := hr.wf b o hne; simp; omega
 have hA : G1.A n=(w.heap.size,0):=by simp [G1,Gh.name]
 have hbox : uCF (w.alloc (.cells zv.cells t)) G1 n [.bl, .sl 1 []]:=by
  intro j c hj
  rw [hA]
  have hj2 : j < 2:=(List.getElem?_eq_some_iff.1 hj).1
  refine ⟨by simp [G1,Gh.name,Gh.push,hj2],World.frozen?_alloc_new w zv.cells t _,?_⟩
  dsimp only
  rw [Nat.zero_add,hnew,hcs]
  match j,hj with
  | 0,hj=>simp only [List.getElem?_cons_zero,Option.some.injEq] at hj; subst hj; exact ⟨_,rfl,CRep.bl none⟩
  | 1,hj=>simp only [List.getElem?_cons_succ,List.getElem?_cons_zero,Option.some.injEq] at hj; subst hj; exact ⟨_,rfl,CRep.nil 1⟩
  | j + 2,hj=>omega
 have hrel : Rel E G1 (st.addBox n [.bl, .sl 1 []]) a (w.alloc (.cells zv.cells t)):={
  df:=hgrow.df
  tm:=hgrow.tm
  bx:=by
   intro m ds hm
   have : (st.addBox n [.bl, .sl 1 []]).box m=if n=m then some [.bl, .sl 1 []] else (st.drop n).box m:=uA0 _ _ _ _
   rw [this] at hm
   split at hm
   ·rename_i he; subst he; simp only [Option.some.injEq] at hm; subst hm; exact hbox
   ·exact hgrow.bx m ds hm
  ow:=hgrow.ow
  wf:=hgrow.wf
  olB:=hgrow.olB
  olO:=hgrow.olO
  nt:=hgrow.nt
  oA:=hgrow.oA
  im:=hgrow.im
  im':=hgrow.im'
  fr:=hgrow.fr
  hB:=hgrow.hB
  lo:=hgrow.lo
  bd:=by
   intro t' k' ds hm hne
   have : (st.addBox n [.bl, .sl 1 []]).box (.bd t' k')=if n = .bd t' k' then some [.bl, .sl 1 []] else (st.drop n).box (.bd t' k'):=uA0 _ _ _ _
   rw [this] at hm
   split at hm
   ·rename_i he
    rw [← he,hA]
    have he2 : t=t' / 4096:=by simp [n] at he; rw [← he.1]; exact hu.symm
    refine ⟨rfl,?_,none,?_, .inl rfl⟩
    ·unfold World.shape?
     rw [show (w.alloc (.cells zv.cells t)).heap[w.heap.size]? = some (.cells zv.cells t) from Array.getElem?_push_size]
     simp [hcs,he2]
    ·rw [hnew,hcs]; rfl
   ·exact hgrow.bd t' k' ds hm hne
  mp:=hgrow.mp }
 have hown:=hrel.addOwn (p:=.b n 1) (sz:=1) (v:=.slice none 0 0) (by
  obtain ⟨q1,_,v,q3,_⟩:=hbox 1 _ rfl
  refine ⟨?_,q1⟩
  rw [hA] at q3 ⊢
  dsimp only
  rw [Nat.zero_add,hnew,hcs]; rfl) (.inl rfl)
 have hput:=hown.put hdN (g:=true) (x:=.v (.ptr n 0)) (v:=.pointer (some ⟨w.heap.size,0,none⟩)) (fun _=>by show _=_; rw [hA]) (fun hf=>by simp at hf)
 unfold Oper.wp
 have : (execOp a.eval o).run Z.P w = .ok (.value (.pointer (some ⟨w.heap.size,0,none⟩))) (w.alloc (.cells zv.cells t)):=by
  simp [execOp,ho,Instr.alloc,zeroValue,typeInfo,hi,hzv,newVar,newRow]
 rw [this,Oper.upon_value,hd]
 exact hK G1 _ _ hput
end Go.Abs
namespace Go.Abs
variable {Z : Pg}
theorem Rel.checked {E : Env} {G : Gh} {st : St} {a : Act} {w : World} (hr : Rel E G st a w) {t k : Nat} {cs : List C} (hb : st.box (.bd t k)=some (.bl :: cs)) :
  ∃ w0,uCQ (G.A (.bd t k)).1 w w0∧Rel E G (st.store (.bd t k) (.bl :: cs) 0 1) a w0:=by
 obtain ⟨q1,q2,x,q3,q4⟩:=hr.bd t k _ hb (by simp)
 rcases q4 with rfl | rfl
 ·refine ⟨_, .inl ⟨q3,rfl⟩,?_⟩
  have := hr.store1 hb (k := 0) (c := .bl) (v := .pointer (some ⟨(G.A (.bd t k)).1,0,none⟩)) (by simp) (CRep.bl _) (fun _ _=>⟨_,rfl, .inr rfl⟩)
  rw [q1] at this
  exact this
 ·refine ⟨w, .inr ⟨q3,rfl⟩,?_⟩
  refine Rel.sub (st:=st) (st':=st.store (.bd t k) (.bl :: cs) 0 1) ⟨fun _ _ h=>h,fun m ds hm=>?_,fun p s hp=>?_, .inr rfl⟩ hr
  ·rw [St.store_box] at hm
   split at hm
   ·rename_i he; subst he; rw [hb]; exact hm
   ·exact hm
  ·rw [St.store_own] at hp
   split at hp
   ·simp at hp
   ·exact hp
theorem Rel.bdPut {E : Env} {G : Gh} {st : St} {a : Act} {w : World} {t k : Nat} {old : C} {rows : List (List C)} {u : Value} (hr : Rel E G (st.unown (.b (.bd t k) 1)) a w) (hb : st.box (.bd t k)=some [.bl,old])
  (hc : CRep w G.S (.sl 1 rows) u) (ho : OwnAt E.C w G (.b (.bd t k) 1) 1 u) :
  Rel E G (((st.unown (.b (.bd t k) 1)).store (.bd t k) [.bl, .sl 1 rows] 1 1).addOwn (.b (.bd t k) 1) 1) a (w.setCell ⟨(G.A (.bd t k)).1,1,none⟩ u):=by
 have hb' : (st.unown (.b (.bd t k) 1)).box (.bd t k)=some [.bl,old]:=hb
 obtain ⟨q1,_,_,_,_⟩:=hr.bd t k _ hb' (by simp)
 have h1:=hr.store1 hb' (k:=1) (c:=.sl 1 rows) (v:=u) (by simp) hc (fun _ e=>by simp at e)
 obtain ⟨r1,r2,v,r3,r4⟩:=hr.bx _ _ hb' 1 old rfl
 rw [q1,Nat.zero_add] at h1 r1 r3
 refine h1.addOwn (v:=u) ⟨?_,?_⟩ ?_
 ·rw [q1,Nat.zero_add]; exact World.cell?_setCell_same _ _ _ r3
 ·rw [q1,Nat.zero_add]; exact r1
 ·rcases ho with ho | ⟨blk,len,cap,e,q1,q2,q3,q4⟩
  ·exact .inl ho
  ·exact .inr ⟨blk,len,cap,e,q1,q2,⟨by rw [uBE]; exact q3.1,by rw [uCC]; exact q3.2⟩,fun o ho1 ho2=>by rw [World.frozen?_setCell]; exact q4 o ho1 ho2⟩
def St.bw (st : St) (t k : Nat) (l : List UInt8) : St:=(st.store (.bd t k) [.bl, .sl 1 (uBh l)] 0 2).addOwn (.b (.bd t k) 1) 1
theorem uNu {st : St} {t k : Nat} {cs : List C} {l : List UInt8} : Sub (st.bw t k l) ((((st.store (.bd t k) cs 0 1).unown (.b (.bd t k) 1)).store (.bd t k) [.bl, .sl 1 (uBh l)] 1 1).addOwn (.b (.bd t k) 1) 1) where
 t:=fun _ _ h=>h
 bx:=fun m ds hm=>by
  have h1 : (st.store (.bd t k) [.bl, .sl 1 (uBh l)] 0 2).box m=some ds:=hm
  show (((st.store (.bd t k) cs 0 1).unown (.b (.bd t k) 1)).store (.bd t k) [.bl, .sl 1 (uBh l)] 1 1).box m=_
  rw [St.store_box] at h1 ⊢
  split at h1
  ·rename_i he; rw [if_pos he]; exact h1
  ·rename_i he
   rw [if_neg he]
   show (st.store (.bd t k) cs 0 1).box m=_
   rw [St.store_box,if_neg he]; exact h1
 ow:=fun p s hp=>by
  unfold St.bw at hp
  rw [St.addOwn_own] at hp ⊢
  split at hp
  ·rename_i he; rw [if_pos he]; exact hp
  ·rename_i he
   rw [if_neg he]
   rw [St.store_own] at hp ⊢
   split at hp
   ·simp at hp
   ·rename_i hin
    have hin1 : ¬ Pl.inCells (.bd t k) 1 1 p=true:=by
     intro h; apply hin
     cases p with
     | t j=>simp [Pl.inCells] at h
     | b m j =>
      simp only [Pl.inCells,Bool.and_eq_true] at h ⊢
      refine ⟨h.1,Nat.ble_eq_true_of_le (Nat.zero_le _),Nat.ble_eq_true_of_le ?_⟩
      have := Nat.le_of_ble_eq_true h.2.2; omega
    have hin0 : ¬ Pl.inCells (.bd t k) 0 1 p=true:=by
     intro h; apply hin
     cases p with
     | t j=>simp [Pl.inCells] at h
     | b m j =>
      simp only [Pl.inCells,Bool.and_eq_true] at h ⊢
      refine ⟨h.1,Nat.ble_eq_true_of_le (Nat.zero_le _),Nat.ble_eq_true_of_le ?_⟩
      have := Nat.le_of_ble_eq_true h.2.2; omega
    rw [if_neg hin1,St.unown_own,if_neg (fun e=>he e.symm),St.store_own,if_neg hin0]
    exact hp
theorem uK1 (l : List UInt8) : ∀ (i : Nat) (row : List C),(uBh l)[i]? = some row→row.length=1:=by
 intro i row hi
 obtain ⟨b,h1,rfl⟩:=uF7 hi
 rfl
section
variable {N : Nat} {st : St} {ops : Array Oper} {rest : List Oper} {K : St→Prop} {o : Oper} {d k : Nat} {fo x y : Operand} {ts : Array TypeId} {m : List UInt8}
theorem uMk (B : BdSys Z) {E : Env} {G : Gh} {a : Act} {w : World} (hr : Rel E G st a w) (hb : st.box (.bd B.tN k)=some [.bl, .sl 1 (uBh m)]) (hw : st.own (.b (.bd B.tN k) 1)=some 1) {l : List UInt8} {tx : TypeId} {xv : World→Value} {news : List Value} {pre : World→World}
  (hpre : ∀ w0,Rel E G (st.store (.bd B.tN k) [.bl, .sl 1 (uBh m)] 0 1) a w0→Rel E G (st.store (.bd B.tN k) [.bl, .sl 1 (uBh m)] 0 1) a (pre w0)∧Src Z.P 1 tx (xv w0) (uBh l).length news (pre w0) ∧
   ∀ b o,b < w0.heap.size→(pre w0).cell? ⟨b,o,none⟩=w0.cell? ⟨b,o,none⟩)
  (hrep : ∀ (w' : World) (i j : Nat) (row : List C) (c : C),(uBh l)[i]? = some row→row[j]? = some c → ∃ v,news[i * 1 + j]? = some v∧CRep w' G.S c v) (hlen : m.length + l.length≤140737488355328) :
  ∃ w0 v' uo un uc w1,uCQ (G.A (.bd B.tN k)).1 w w0∧w.shape? (G.A (.bd B.tN k)).1=some (B.tB,2)∧w.frozen? ⟨(G.A (.bd B.tN k)).1,0,none⟩=false∧(G.A (.bd B.tN k)).2=0∧w0.cell? ⟨(G.A (.bd B.tN k)).1,1,none⟩=some v' ∧
   (Builtin.append_ #[B.tS,tx] B.tS #[v',xv w0]).run Z.P (pre w0) = .ok (.slice uo un uc) w1∧w1.cell? ⟨(G.A (.bd B.tN k)).1,1,none⟩=some v'∧w1.frozen? ⟨(G.A (.bd B.tN k)).1,1,none⟩=false ∧
   ∃ G1,Rel E G1 (st.bw B.tN k (m++l)) a (w1.setCell ⟨(G.A (.bd B.tN k)).1,1,none⟩ (.slice uo un uc)):=by
 obtain ⟨q1,q2,x0,q3,_⟩:=hr.bd _ _ _ hb (by simp)
 obtain ⟨_,f0,_⟩:=hr.bx _ _ hb 0 _ rfl
 rw [q1,Nat.zero_add] at f0
 obtain ⟨w0,hck,hr0⟩:=hr.checked hb
 obtain ⟨hr1,hsrc,hsame⟩:=hpre w0 hr0
 have hin : Pl.inCells (.bd B.tN k) 0 1 (.b (.bd B.tN k) 1)=false:=by simp [Pl.inCells,Nm.beq_self]; rfl
 have hown0 : (st.store (.bd B.tN k) [.bl, .sl 1 (uBh m)] 0 1).own (.b (.bd B.tN k) 1)=some 1:=by rw [St.store_own,if_neg (by rw [hin]; simp)]; exact hw
 have hbox0 : (st.store (.bd B.tN k) [.bl, .sl 1 (uBh m)] 0 1).box (.bd B.tN k)=some [.bl, .sl 1 (uBh m)]:=by rw [St.store_box,if_pos rfl]
 obtain ⟨v',hv',hown⟩:=hr1.ow _ _ hown0
 obtain ⟨r1,r2,u,r3,r4⟩:=hr1.bx _ _ hbox0 1 _ rfl
 obtain ⟨b1,b2,b3,b4,b5⟩ : w0.cell? ⟨(G.A (.bd B.tN k)).1,1,none⟩=(pre w0).cell? ⟨(G.A (.bd B.tN k)).1,1,none⟩∧u=v'∧(pre w0).cell? ⟨(G.A (.bd B.tN k)).1,1,none⟩=some v'∧(G.A (.bd B.tN k)).1 < (pre w0).heap.size∧G.W (G.A (.bd B.tN k)).1 1 = .box (.bd B.tN k):=by
  obtain ⟨s1,_,u0,s3,_⟩:=hr0.bx _ _ hbox0 1 _ rfl
  rw [q1,Nat.zero_add] at s1 s3
  have hlt : (G.A (.bd B.tN k)).1 < w0.heap.size:=World.block_lt_of_cell? (a:=⟨(G.A (.bd B.tN k)).1,1,none⟩) w0 s3
  have h2:=hv'.1
  rw [q1,Nat.zero_add] at h2 r3
  have hlt2 : (G.A (.bd B.tN k)).1 < (pre w0).heap.size:=World.block_lt_of_cell? (a:=⟨(G.A (.bd B.tN k)).1,1,none⟩) _ r3
  refine ⟨(hsame _ _ hlt).symm,?_,h2,hlt2,s1⟩
  rw [r3] at h2; exact Option.some.inj h2
 subst b2
 obtain ⟨G1,w1,uo,un,uc,hrun,hrel,hc,ho,hA,hcell⟩:=uMn hr1 (p:=.b (.bd B.tN k) 1) (tx:=tx) (ty:=B.tS) (xs:=uBh l) (news:=news) B.hu B.hinfo B.hsz B.hby (by omega) B.hze rfl r4 hown hsrc (uK1 l) (fun i j row c h1 h2=>hrep _ i j row c h1 h2) (by
   rw [uBw,uBw]; omega) (by rw [uBw,uBw]; omega) (fun t' k' o' hh=>by simp at hh; rw [← hh.1.1]; exact B.hN2.symm)
 rw [← uJN] at hc
 have hc1 : w1.cell? ⟨(G.A (.bd B.tN k)).1,1,none⟩=some u:=by
  rw [hcell _ _ b4 (by rw [b5]; simp)]; exact b3
 have hput:=Rel.bdPut hrel hbox0 hc ho
 obtain ⟨_,f1,_⟩:=hrel.bx (.bd B.tN k) _ hbox0 1 _ rfl
 rw [hA] at hput f1
 rw [q1,Nat.zero_add] at f1
 exact ⟨w0,u,uo,un,uc,w1,hck,(B.hN1 ▸ q2),f0,q1,by rw [b1]; exact b3,hrun,hc1,f1,G1,hput.sub uNu⟩
theorem uE4 (B : BdSys Z) {c : UInt8} {cv : Int} (ho : o.op = .call { callee:=.value fo,args:=#[x,y],argTypes:=ts }) (hg : uA3 ops st o=some true) (hd : o.dst=some d) (hN : Nat.ble (d + 1) N=true)
  (hf : lk Z.T st 0 fo=some (true, .fn B.fB [])) (ha : uBV Z.T st ts.toList [x,y]=some (true,[.v (.ptr (.bd B.tN k) 0), .v (.c (.i .u8 cv))])) (hcv : cv=(c.toNat : Int))
  (hb : st.box (.bd B.tN k)=some [.bl, .sl 1 (uBh m)]) (hw : st.own (.b (.bd B.tN k) 1)=some 1) (hlen : m.length + 1≤140737488355328)
  (h : AL Z N ops rest K ((st.bw B.tN k (m++[c])).put d (true, .v (.c (.o .nilIface))))) (hB : B.hasB=true:=by rfl) : AL Z N ops (o :: rest) K st:=by
 refine uCS (fun E G a w hr hE K' Q' hK=>?_) h
 have hdN : d < E.nt:=by rw [hE.nt]; exact Nat.le_of_ble_eq_true hN
 rw [uBs hr hg]
 simp only [if_true]
 obtain ⟨cvs,hfv,hcv'⟩:=uAS hr hf rfl
 have hcv0 : cvs=[]:=by cases cvs with
  | nil=>rfl
  | cons _ _=>exact hcv'.elim
 subst hcv0
 obtain ⟨hx,hy,_⟩:=uCI hr ha rfl
 have hx1 : a.eval x=_:=hx
 have hy1:=XRep.int hy
 unfold Oper.wp
 rw [uDm ho hfv (B.enB hB),Oper.upon_enter]
 obtain ⟨w0,v',uo,un,uc,w1,hck,hsh,hfz,hA0,hc0,hrun,hc1,hf1,G1,hrel⟩:=uMk B hr hb hw (l:=[c]) (tx:=B.tS) (xv:=fun w=>.slice (some ⟨w.heap.size,0,none⟩) 1 1) (news:=[.int .u8 cv]) (pre:=fun w=>w.alloc (.cells #[.int .u8 cv] B.tU))
  (fun w0 h0=>⟨h0.grow (uCO w0 _) (fun _ _ _=>rfl) (SameA.refl _ _) (fun b o hb=>by have := h0.wf b o hb; simp; omega),by
   have := Src.ofSlice (P := Z.P) (size := 1) (w0.alloc (.cells #[.int .u8 cv] B.tU)) B.hu ⟨w0.heap.size,0,none⟩ 1 1 [.int .u8 cv] rfl (fun j u hj=>by
    rw [uB5,World.cell?_alloc_new,Nat.zero_add]
    match j,hj with
    | 0,hj=>simpa using hj
    | j + 1,hj=>simp at hj) (fun u hu=>by simp at hu; subst hu; rfl)
   rw [uBw]; exact this,fun b o hb=>World.cell?_alloc_lt w0 _ _ hb⟩) (fun w' i j row c' hi hj=>by
   obtain ⟨b,h1,rfl⟩:=uF7 hi
   have hi0 : i=0 := by have := (List.getElem?_eq_some_iff.1 h1).1; simp at this; omega
   subst hi0
   have hj0 : j=0 := by have := (List.getElem?_eq_some_iff.1 hj).1; simp at this; omega
   subst hj0
   simp only [List.getElem?_cons_zero,Option.some.injEq] at h1 hj
   subst h1; subst hj
   exact ⟨_,rfl,by rw [hcv]; exact CRep.i _ _⟩) (by simpa using hlen)
 have hcall:=B.wb hB (G.A (.bd B.tN k)).1 w w0 w1 v' uo un uc cv hck hsh hfz hc0 hrun hc1 hf1
 have hargs : ((#[x,y] : Array Operand).toList.map a.eval++[]).toArray = #[.pointer (some ⟨(G.A (.bd B.tN k)).1,0,none⟩), .int .u8 cv]:=by
  simp [hx1,hy1,hA0]
 rw [hargs]
 refine hcall.mono ?_
 rintro e w' ⟨rfl,rfl⟩
 dsimp only
 rw [hd] at hK ⊢
 exact hK G1 _ _ (hrel.put hdN (g:=true) (fun _=>CRep.o _ rfl) (fun hf=>by simp at hf))
end
end Go.Abs
namespace Go.Abs
variable {Z : Pg}
theorem uAW {N : Nat} {ι : Type} {c : Code} {Q : Exit→St→Prop} {st : St} (F : St) (V : ι→List (Nat × Bool × X)) (VB : ι→List (Nm × List C)) (ok : ι→Prop) (m : ι→Nat) (i0 : ι) (h0 : ok i0)
  (hs : Sub { t:=V i0++F.t,bx:=VB i0++F.bx,ow:=F.ow,mp:=F.mp } st)
  (round : ∀ i,ok i→AWP Z N c (uHw (fun s=>∃ j,ok j∧m j < m i∧Sub { t:=V j++F.t,bx:=VB j++F.bx,ow:=F.ow,mp:=F.mp } s) Q) { t:=V i++F.t,bx:=VB i++F.bx,ow:=F.ow,mp:=F.mp }) : AWP Z N (.loop c) Q st :=
 uCA (fun i=>{ t:=V i++F.t,bx:=VB i++F.bx,ow:=F.ow,mp:=F.mp }) ok m i0 h0 hs round
section
variable {st : St} {ty : TypeId} {gate : Bool}
theorem uHm {t t' : TypeId} {x y : Operand} {gx gy : Bool} {k : IntKind} {m n s : Int} (hx : lk Z.T st ty x=some (gx, .v (.c (.i k m)))) (hy : lk Z.T st ty y=some (gy, .v (.c (.i k n))))
  (hgx : gate=true→gx=true) (hgy : gate=true→gy=true) (hn : gate=true→n≠0) (hs : gate=true→k.wrap (m.tdiv n)=s) : PureOk Z st (.binOp .quo t x y t') ty gate (.v (.c (.i k s))):=by
 intro o E G a w ho hty hr hgt
 exact uMm hx hy hgx hgy (hn hgt) (hs hgt) o E G a w ho hty hr hgt
theorem uG5 {x : Operand} {src dst e : TypeId} {g : Bool} {l : List UInt8} {es : List (List C)} (h : lk Z.T st ty x=some (g, .v (.c (.sl 1 es)))) (hes : es=uBh l) (hg : gate=true→g=true)
  (hs : Z.P.underlying src=some (.slice e)) (he : Z.P.underlying e=some (.int .u8)) (hd : Z.P.underlying dst=some .string) : PureOk Z st (.convert src dst x) ty gate (.v (.c (.s l))):=by
 subst hes
 intro o E G a w ho hty hr hgt
 have hc : CRep w G.S (.sl 1 (uBh l)) _:=uAS hr h (hg hgt)
 have hlm:=hc.lenMax
 rw [uBw] at hlm
 refine ⟨.string ⟨l.toArray⟩,CRep.s l hlm,?_⟩
 have hrun : (convert src dst (a.eval x)).run Z.P w = .ok (.string ⟨l.toArray⟩) w:=by
  generalize a.eval x=v at hc
  rcases hc.sl_cases with ⟨a',rfl,he0⟩ | ⟨blk,off,len,cap,rfl,hlen⟩
  ·have hl0 : l=[]:=by
    cases l with
    | nil=>rfl
    | cons b l=>simp [uBh] at he0
   subst hl0
   cases a' with
   | none =>
    rw [run_convert_bytes_string w src dst e none 0 0 hs he hd]
    simp [Conv.bytesToString]
    rfl
   | some a'=>exact run_convert_bytes_back w src dst e a' 0 [] hs he hd (fun j hj=>by simp at hj)
  ·obtain ⟨h1,h2,h3,h4⟩:=hc.elem
   rw [uBw] at h1
   subst h1
   refine run_convert_bytes_back w src dst e _ cap l hs he hd fun j hj=>?_
   obtain ⟨_,hrow⟩:=h4 j [.i .u8 (l[j].toNat : Int)] (by simp [uBh,List.getElem?_eq_getElem hj])
   obtain ⟨_,u,q1,q2⟩:=hrow 0 _ rfl
   cases q2
   rw [uB5]
   simpa using q1
 simp only [execOp,ho,Sem.run_bind,hrun,Result.andThen_ok]
 rfl
end
end Go.Abs
namespace Go.Abs
variable {Z : Pg}
def C.ex : C→C
 | .sl _ []=>.o (.slice none 0 0)
 | c=>c
theorem uNd {w : World} {S : Nat→Nat→Prop} {c : C} {v : Value} (h : uCR c v=true) : CRep w S c.ex v:=by
 unfold C.ex
 split
 ·unfold uCR at h
  split at h <;> first
   | (rename_i he; simp at he; done)
   | skip
  all_goals first
   | exact CRep.o _ rfl
   | simp_all
 ·exact CRep.ofConst h
theorem All2.exs {w : World} {S : Nat→Nat→Prop} : ∀ {cs : List C} {vs : List Value},All2 (fun c v=>uCR c v=true) cs vs→All2 (CRep w S) (cs.map C.ex) vs
 | [],[],_=>trivial
 | _ :: _,_ :: _,h=>⟨uNd h.1,All2.exs h.2⟩
 | [],_ :: _,h=>h.elim
 | _ :: _,[],h=>h.elim
section
variable {N : Nat} {st : St} {ty : TypeId} {gate : Bool} {ops : Array Oper} {rest : List Oper} {K : St→Prop}
theorem uHY {d : Nat} {t : TypeId} {ti : TyI} (ht : tyAt Z.T t=some ti) (hN : Nat.ble (d + 1) N=true) (hfr : ∀ k g x,st.get k=some (g,x)→x.has (.l d)=false) :
  Does Z N st (some d) (.alloc t) ty ((st.addBox (.l d) (ti.z.map C.ex)).put d (true, .v (.ptr (.l d) 0))):=by
 intro o E G a w hd ho _ hr hE K Q hK
 have hdN : d < E.nt:=by rw [hE.nt]; exact Nat.le_of_ble_eq_true hN
 obtain ⟨i,dd,zv,hi,_,_,_,hz,_,hall⟩:=(Z.tyOk ht).info
 obtain ⟨G',hr'⟩:=hr.boxed hdN hfr (t:=t) (All2.exs (w:=w) (S:=G.S) hall)
 unfold Oper.wp
 have : (execOp a.eval o).run Z.P w = .ok (.value (.pointer (some ⟨w.heap.size,0,none⟩))) (w.alloc (.cells zv.cells t)):=by
  simp [execOp,ho,Instr.alloc,zeroValue,typeInfo,hi,hz,newVar,newRow]
 rw [this,Oper.upon_value,hd]
 exact hK G' _ _ hr'
theorem uFD {d : Nat} {t : TypeId} {ti : TyI} {cs : List C} (ht : tyAt Z.T t=some ti) (hz : ti.z.map C.ex=cs) (hN : Nat.ble (d + 1) N=true) (hfr : st.fresh (.l d)=true) :
  Does Z N st (some d) (.alloc t) ty ((st.addBox (.l d) cs).put d (true, .v (.ptr (.l d) 0))):=by
 subst hz; exact uHY ht hN fun _ _ _ hk=>St.fresh_has hfr hk
def St.own0 (st : St) (n : Nm) (cs : List C) (off sz : Nat) : St:=({ st with bx:=(n,cs.set off (.sl sz [])) :: st.bx } : St).addOwn (.b n off) sz
theorem Rel.own0 {E : Env} {G : Gh} {st : St} {a : Act} {w : World} (h : Rel E G st a w) {n : Nm} {cs : List C} {off sz : Nat} (hb : st.box n=some cs) (hc : cs[off]? = some (.o (.slice none 0 0))) : Rel E G (st.own0 n cs off sz) a w:=by
 have hlt : off < cs.length:=(List.getElem?_eq_some_iff.1 hc).1
 have hbox:=h.bx n cs hb
 have hr : Rel E G { st with bx:=(n,cs.set off (.sl sz [])) :: st.bx } a w:={
  df:=h.df
  tm:=h.tm
  bx:=by
   intro m ds hm
   have : getB ((n,cs.set off (.sl sz [])) :: st.bx) m=some ds:=hm
   rw [uA0] at this
   split at this
   ·rename_i he; subst he
    simp only [Option.some.injEq] at this; subst this
    intro j c hj
    rw [List.getElem?_set] at hj
    split at hj
    ·rename_i he; subst he
     simp only [Option.some.injEq] at hj; subst hj
     obtain ⟨q1,q2,v,q3,q4⟩:=hbox off _ hc
     cases q4
     exact ⟨q1,q2,_,q3,CRep.nil sz⟩
    ·exact hbox j c hj
   ·exact h.bx m ds this
  ow:=h.ow
  wf:=h.wf
  olB:=h.olB
  olO:=h.olO
  nt:=h.nt
  oA:=h.oA
  im:=h.im
  im':=h.im'
  fr:=h.fr
  hB:=h.hB
  lo:=h.lo
  bd:=by
   intro t k ds hm hne
   have : getB ((n,cs.set off (.sl sz [])) :: st.bx) (.bd t k)=some ds:=hm
   rw [uA0] at this
   split at this
   ·rename_i he; subst he
    exact h.bd t k cs hb (by intro e; subst e; simp at hlt)
   ·exact h.bd t k ds this hne
  mp:=h.mp }
 obtain ⟨q1,q2,v,q3,q4⟩:=hbox off _ hc
 cases q4
 exact hr.addOwn (p:=.b n off) (v:=.slice none 0 0) ⟨q3,q1⟩ (.inl rfl)
theorem uD5 {c : Code} {Q : Exit→St→Prop} (n : Nm) (off sz : Nat) {cs ds : List C} (hb : st.box n=some cs) (hc : cs[off]? = some (.o (.slice none 0 0))) (hds : cs.set off (.sl sz [])=ds)
  (h : AWP Z N c Q (({ st with bx:=(n,ds) :: st.bx } : St).addOwn (.b n off) sz)) : AWP Z N c Q st:=by
 subst hds
 exact fun E G a w hr hE=>h E G a w (hr.own0 hb hc) hE
end
end Go.Abs
namespace Go.Abs
variable {Z : Pg}
theorem cell?_freeze (w : World) (p a : Addr) (n : Nat) : (w.freeze p n).cell? a=w.cell? a:=by
 unfold World.freeze
 split
 ·rfl
 ·simp only [World.cell?,Array.getElem?_modify]
  by_cases h : p.block=a.block
  ·rw [if_pos h]
   cases hh : w.heap[a.block]? with
   | none=>rfl
   | some o=>cases o <;> rfl
  ·rw [if_neg h]
theorem shape?_freeze (w : World) (p : Addr) (n b : Nat) : (w.freeze p n).shape? b=w.shape? b:=by
 unfold World.freeze
 split
 ·rfl
 ·simp only [World.shape?,Array.getElem?_modify]
  by_cases h : p.block=b
  ·rw [if_pos h]
   cases hh : w.heap[b]? with
   | none=>rfl
   | some o=>cases o <;> rfl
  ·rw [if_neg h]
theorem uCE (w : World) (p : Addr) (n b : Nat) (h : p.block≠b) : (w.freeze p n).heap[b]? = w.heap[b]? := by
 unfold World.freeze
 split
 ·rfl
 ·simp only [Array.getElem?_modify,if_neg h]
theorem uCc (w : World) (p : Addr) (n b : Nat) (h : p.block≠b) : uBo (w.freeze p n) b=uBo w b:=by
 unfold uBo
 rw [uCE w p n b h]
theorem uEN {w : World} {b k n : Nat} (h : uF5 (uBo w b) k) (hn : n≤k) : uF5 (uBo (w.freeze ⟨b,0,none⟩ n) b) k:=by
 unfold World.freeze
 split
 ·exact h
 ·rename_i hne
  unfold uBo at h ⊢
  dsimp only
  rw [Array.getElem?_modify,if_pos rfl]
  cases hh : w.heap[b]? with
  | none=>intro lo hi e; simp at e
  | some ob =>
   rw [hh] at h
   cases ob with
   | cells c e fr =>
    obtain ⟨lo,hi⟩:=fr
    have := h lo hi rfl
    intro lo' hi' e'
    simp only [Option.map_some,Option.some.injEq] at e'
    split at e'
    ·simp at e'; omega
    ·rename_i hlh
     have hlh' : lo≠hi:=by simpa using hlh
     simp at e'; omega
   | _=>intro lo hi e; simp at e
theorem uFL (w : World) (p : Addr) (n : Nat) : (w.freeze p n).heap.size=w.heap.size:=by
 unfold World.freeze; split <;> simp
theorem uKU (w : World) (p : Addr) (n : Nat) : (w.freeze p n).os=w.os∧(w.freeze p n).tape=w.tape∧(w.freeze p n).output=w.output:=by
 unfold World.freeze; split <;> exact ⟨rfl,rfl,rfl⟩
theorem Rel.frz0 {E : Env} {G : Gh} {st : St} {a : Act} {w : World} (h : Rel E G st a w) {p : Pl} {sz blk len cap : Nat} {es : List (List C)} (hsz : sz≠0) (ho : OwnAt E.C w G p sz (.slice (some ⟨blk,0,none⟩) len cap))
  (hc : CRep w G.S (.sl sz es) (.slice (some ⟨blk,0,none⟩) len cap)) (n : Nat) (hn : n≤len * sz) (hold : E.D=0) : Rel E G st a (w.freeze ⟨blk,0,none⟩ n):=by
 rw [E.C_new hold] at ho
 rcases ho with ho | ⟨blk2,len2,cap2,e,hv,⟨hlc,hB,_⟩,⟨hsh,hfr⟩,hsp⟩
 ·simp at ho
 ·simp only [Value.slice.injEq,Option.some.injEq,Addr.mk.injEq] at hv
  obtain ⟨⟨rfl,_⟩,rfl,rfl⟩:=hv
  have himm : ∀ o,o < len * sz→G.W blk o = .imm:=by
   intro o ho
   obtain ⟨hl,_,_,hrow⟩:=hc.elem
   have hi : o / sz < len:=Nat.div_lt_of_lt_mul (by rw [Nat.mul_comm]; exact ho)
   have hj : o % sz < sz:=Nat.mod_lt _ (by omega)
   obtain ⟨h1,h2⟩:=hrow (o / sz) _ (List.getElem?_eq_getElem (by omega))
   obtain ⟨h3,_⟩:=h2 (o % sz) _ (List.getElem?_eq_getElem (by omega))
   have : 0 + o / sz * sz + o % sz=o:=by rw [Nat.zero_add,Nat.mul_comm]; exact Nat.div_add_mod o sz
   rw [this] at h3
   exact h3
  have hout : ∀ o,cap * sz≤o→w.cell? ⟨blk,o,none⟩=none:=by
   intro o ho
   unfold World.shape? at hsh
   unfold World.cell?
   split at hsh
   ·rename_i c e3 fz hheap
    simp only [Option.some.injEq,Prod.mk.injEq] at hsh
    simp only [hheap]
    simp; omega
   ·simp at hsh
  have hlcs : len * sz≤cap * sz:=Nat.mul_le_mul_right _ hlc
  have hnobox : ∀ o m,G.W blk o = .box m→w.cell? ⟨blk,o,none⟩=none:=by
   intro o m hm
   rcases Nat.lt_or_ge o (len * sz) with h1 | h1
   ·rw [himm o h1] at hm; simp at hm
   ·rcases Nat.lt_or_ge o (cap * sz) with h2 | h2
    ·rw [(hsp o h1 h2).1] at hm; simp at hm
    ·exact hout o h2
  have hcell : ∀ b o,(w.freeze ⟨blk,0,none⟩ n).cell? ⟨b,o,none⟩=w.cell? ⟨b,o,none⟩:=fun b o=>cell?_freeze w _ _ n
  constructor
  ·exact h.df
  ·intro k g x hk
   obtain ⟨u,hu,h1,h2⟩:=h.tm k g x hk
   exact ⟨u,hu,fun hg=>(h1 hg).mono (fun _ _ hs=>hs) (fun b o _=>hcell b o) (fun _ _=>rfl),h2⟩
  ·intro m cs hm j c hj
   obtain ⟨q1,q2,u,q3,q4⟩:=h.bx m cs hm j c hj
   have hne : blk≠(G.A m).1:=by
    intro e
    rw [← e] at q1 q3
    rw [hnobox _ _ q1] at q3; simp at q3
   refine ⟨q1,?_,u,by rw [hcell]; exact q3,q4.mono (fun _ _ hs=>hs) fun b o _=>hcell b o⟩
   rw [uBU (uCc w _ n _ hne)]; exact q2
  ·intro q s hq
   obtain ⟨v,hv,hown⟩:=h.ow q s hq
   refine ⟨v,?_,?_⟩
   ·cases q with
    | t k=>exact hv
    | b m off=>exact ⟨by rw [hcell]; exact hv.1,hv.2⟩
   ·rcases hown with hown | ⟨b2,l2,c2,e2,q1,q2,q3,q4⟩
    ·exact .inl hown
    ·refine .inr ⟨b2,l2,c2,e2,q1,q2,⟨by rw [shape?_freeze]; exact q3.1,?_⟩,fun o h1 h2=>?_⟩
     ·by_cases hb : blk=b2
      ·subst hb
       refine uEN q3.2 ?_
       have hcc : cap * sz=c2 * s:=by
        have := q3.1
        rw [hsh] at this
        simp at this; exact this.2
       have hl2 : l2 * s≤c2 * s:=Nat.mul_le_mul_right _ q2.1
       rcases Nat.lt_or_ge (l2 * s) (len * sz) with hlt | hge
       ·have hw:=(q4 (l2 * s) (Nat.le_refl _) (by omega)).1
        rw [himm _ hlt] at hw; simp at hw
       ·omega
      ·rw [uCc _ _ _ _ hb]; exact q3.2
     ·obtain ⟨q5,q6⟩:=q4 o h1 h2
      refine ⟨q5,?_⟩
      by_cases hb : blk=b2
      ·subst hb
       have hge : len * sz≤o:=by
        rcases Nat.lt_or_ge o (len * sz) with hlt | hge
        ·rw [himm _ hlt] at q5; simp at q5
        ·exact hge
       exact uH4 (uEN hfr hn) o hge
      ·rw [uBU (uCc w _ n _ hb)]; exact q6
  ·intro b o hb; rw [uFL]; exact h.wf b o hb
  ·exact h.olB
  ·exact h.olO
  ·exact h.nt
  ·exact h.oA
  ·exact h.im
  ·exact h.im'
  ·obtain ⟨f1,f2,f3⟩:=uKU w ⟨blk,0,none⟩ n
   refine h.fr.trans ⟨f1,f2,f3,by rw [uFL]; exact Nat.le_refl _,fun b hb _=>uCE w _ n b (by show blk≠b; omega),fun b o _ _=>hcell b o,fun b hb=>uCc w _ n b (by show blk≠b; omega),fun b _=>shape?_freeze w _ n b⟩
  ·exact h.hB
  ·exact h.lo
  ·intro t k cs hb hne
   obtain ⟨q1,q2,x,q3,q4⟩:=h.bd t k cs hb hne
   exact ⟨q1,by rw [shape?_freeze]; exact q2,x,by rw [hcell]; exact q3,q4⟩
  ·intro x hx
   obtain ⟨q1,q2,q3⟩:=h.mp x hx
   refine ⟨q1.of_same (uCE w _ n _ ?_),q2,q3⟩
   intro e
   obtain ⟨ms,clock,r1,_⟩:=q1
   have e : blk=x.1:=e
   rw [← e] at r1
   simp [World.shape?,r1] at hsh
section
variable {N : Nat} {st : St} {ops : Array Oper} {rest : List Oper} {K : St→Prop} {o : Oper} {d k : Nat} {fo x : Operand} {ts : Array TypeId} {m : List UInt8}
theorem uNt (B : BdSys Z) (ho : o.op = .call { callee:=.value fo,args:=#[x],argTypes:=ts }) (hg : uA3 ops st o=some true) (hd : o.dst=some d) (hN : Nat.ble (d + 1) N=true)
  (hf : lk Z.T st 0 fo=some (true, .fn B.fS [])) (ha : uBV Z.T st ts.toList [x]=some (true,[.v (.ptr (.bd B.tN k) 0)]))
  (hb : st.box (.bd B.tN k)=some [.bl, .sl 1 (uBh m)]) (hw : st.own (.b (.bd B.tN k) 1)=some 1)
  (h : AL Z N ops rest K (st.put d (true, .v (.c (.s m))))) (hz : Z.old=false:=by rfl) : AL Z N ops (o :: rest) K st:=by
 refine uCS (fun E G a w hr hE K' Q' hK=>?_) h
 have hdN : d < E.nt:=by rw [hE.nt]; exact Nat.le_of_ble_eq_true hN
 rw [uBs hr hg]
 simp only [if_true]
 obtain ⟨cvs,hfv,hcv⟩:=uAS hr hf rfl
 have hcv0 : cvs=[]:=by cases cvs with
  | nil=>rfl
  | cons _ _=>exact hcv.elim
 subst hcv0
 obtain ⟨hx,_⟩:=uCI hr ha rfl
 have hx1 : a.eval x=_:=hx
 obtain ⟨q1,q2,x0,q3,_⟩:=hr.bd _ _ _ hb (by simp)
 rw [q1] at hx1
 have hargs : ((#[x] : Array Operand).toList.map a.eval++[]).toArray = #[.pointer (some ⟨(G.A (.bd B.tN k)).1,0,none⟩)]:=by
  simp [hx1]
 unfold Oper.wp
 rw [uDm ho hfv B.enS,Oper.upon_enter,hargs]
 obtain ⟨v',hv',hown⟩:=hr.ow _ _ hw
 obtain ⟨r1,r2,u,r3,r4⟩:=hr.bx _ _ hb 1 _ rfl
 have h2:=hv'.1
 rw [q1,Nat.zero_add] at h2 r3
 obtain rfl : u=v':=by rw [r3] at h2; exact Option.some.inj h2
 have hlm:=r4.lenMax
 rw [uBw] at hlm
 have hbd:=hr.drew
 have key : ∃ w2,Calls Z.P B.fS #[.pointer (some ⟨(G.A (.bd B.tN k)).1,0,none⟩)] w (fun e w'=>e = .returned (.string ⟨m.toArray⟩)∧w'=w2)∧Rel E G st a w2:=by
  have hbd : Rel E G st a w.drew:=hr.drew
  rcases hown with rfl | ⟨blk,len,cap,e,rfl,h5,h6,h7⟩
  ·have hm0 : m=[]:=by
    cases m with
    | nil=>rfl
    | cons c l=>have := r4; cases this with
     | _=>simp_all [uBh]
   subst hm0
   exact ⟨w.drew,B.st _ w w.drew w.drew none 0 0 (.pointer none) .empty r3 (Lib.run_unsafeSliceData_nil _ _ _ _ _) r3 (Lib.run_unsafeString_none _ _ _ _ _),hbd⟩
  ·have hml : m.length=len := by have := r4.elem.1; rw [uBw] at this; exact this
   have heU : e=B.tU:=by rw [h5.2.2 B.tN k 1 rfl]; exact B.hN2
   subst heU
   by_cases hm0 : m=[]
   ·subst hm0
    simp only [List.length_nil] at hml
    subst hml
    by_cases hc0 : cap=0
    ·subst hc0
     have hz:=Lib.run_unsafeSliceData_zero (P:=Z.P) w.drew #[B.tS] B.tPU B.tU B.hpu ⟨blk,0,none⟩ 0 _ h6.1
     refine ⟨_,B.st _ w _ _ (some ⟨blk,0,none⟩) 0 0 _ .empty r3 hz ?_ (Lib.run_unsafeString_none _ _ _ _ _),hbd.grow (uCO w.drew _) (fun _ _ _=>rfl) (SameA.refl _ _) (fun b o hb=>by have := hbd.wf b o hb; simp at this ⊢; omega)⟩
     rw [World.cell?_alloc_lt _ _ _ (by
      have := World.block_lt_of_cell? (a := ⟨(G.A (.bd B.tN k)).1,1,none⟩) w r3
      exact this)]
     exact r3
    ·exact ⟨w.drew,B.st _ w w.drew w.drew (some ⟨blk,0,none⟩) 0 cap _ .empty r3 (Lib.run_unsafeSliceData_row _ _ _ _ _ _ hc0) r3 (Lib.run_unsafeString_none _ _ _ _ _),hbd⟩
   ·have hne : m.length≠0:=by simpa using hm0
    have hc0 : cap≠0:=by omega
    subst hml
    refine ⟨w.drew.freeze ⟨blk,0,none⟩ m.length,B.st _ w w.drew _ (some ⟨blk,0,none⟩) m.length cap _ ⟨m.toArray⟩ r3 (Lib.run_unsafeSliceData_row _ _ _ _ _ _ hc0) r3 (Lib.run_unsafeString_row (P:=Z.P) w.drew _ _ _ B.tU B.hpu B.hcells blk (cap * 1) h6.1 m hm0 (by omega) hlm ?_),?_⟩
    ·intro j y hj
     obtain ⟨_,hrow⟩:=r4.elem.2.2.2 j [.i .u8 (y.toNat : Int)] (by simp [uBh,hj])
     obtain ⟨_,z,s1,s2⟩:=hrow 0 _ rfl
     cases s2
     rw [uB5]
     simpa using s1
    ·exact hbd.frz0 (p:=.b (.bd B.tN k) 1) (sz:=1) (by omega) (.inr ⟨blk,m.length,cap,B.tU,rfl,h5,h6,h7⟩) (CRep.mono (w:=w) (w':=w.drew) (S:=G.S) (S':=G.S) (fun _ _ h=>h) (fun _ _ _=>rfl) r4) m.length (by omega) (hE.old hz)
 obtain ⟨w2,hcall,hrel⟩:=key
 refine hcall.mono ?_
 rintro e w' ⟨rfl,rfl⟩
 dsimp only
 rw [hd] at hK ⊢
 exact hK G _ _ (hrel.put hdN (g:=true) (fun _=>CRep.s m hlm) (fun hf=>by simp at hf))
end
end Go.Abs
namespace Go.Abs
theorem uKa {T : List (Option TyI)} {rs : List ResultVar} {res x : X} {bs' : List (List C)} {s : St} (h : resX T s rs=some x) (hx : x=res) (hb : subB s (uC1 0 bs')) : retS T rs res none bs' .normal s :=
 uAq (rs:=rs) h hx hb
theorem sx {α : Type} {o : Option α} {e : α} (h : o=some e) : ∃ x,o=some x∧x=e:=⟨e,h,rfl⟩
theorem gU {p : Prop} {b : Bool} (_ : p) : b=b:=rfl
theorem tR {next : St→Prop} {Q : Exit→St→Prop} {s : St} (h : Q .ret s) : uHw next Q .ret s:=h
theorem bR {id : Nat} {Q : Exit→St→Prop} {s : St} (h : Q .ret s) : uEu id Q .ret s:=h
theorem ak {e : Eff} {s : St} {p : Pl} {sz : Nat} (hk : (!(e.drop.any (Pl.beq p)) && e.gain.isNone)=true) (h : s.own p=some sz) : (ap e s).own p=some sz:=by
 rw [Bool.and_eq_true] at hk
 obtain ⟨h1,h2⟩:=hk
 have hg : e.gain=none:=by simpa using h2
 rw [uCb,Eff.go,hg]
 dsimp only
 have : ¬ p ∈ e.drop:=by
  intro hp
  have : e.drop.any (Pl.beq p)=true:=List.any_eq_true.2 ⟨p,hp,Pl.beq_self p⟩
  rw [this] at h1; simp at h1
 rw [if_neg this]
 exact h
theorem uFG {cs ds : List C} (h : ds.length=cs.length) : uBB cs 0 ds=ds:=by
 apply List.ext_getElem?
 intro j
 rw [uD9 cs ds 0 j (by omega)]
 split
 ·rfl
 ·rename_i hj
  rw [List.getElem?_eq_none (by omega),List.getElem?_eq_none (by omega)]
theorem uHH {n : Nm} {cs ds : List C} (h : ds.length=cs.length) : (⟨n,0,cs,ds⟩ : Pass).old=cs:=by
 simp [Pass.old,h]
section
variable {Z : Pg} {N : Nat} {ops : Array Oper} {K : St→Prop} {st : St} {o : Oper} {d : Nat}
theorem uAI {rest : List Oper} {fo : Operand} {args : Array Operand} {ts : Array TypeId} {f : FuncId} {xs cxs : List X} {res : X} (n : Nm) {cs ds : List C}
  (ho : o.op = .call { callee:=.value fo,args:=args,argTypes:=ts }) (hg : uA3 ops st o=some true)
  (hf : lk Z.T st 0 fo=some (true, .fn f [])) (ha : uBV Z.T st ts.toList args.toList=some (true,xs)) (hb : st.box n=some cs) (hd : o.dst=some d)
  (hs : Ctr Z f cxs [cs] res none [ds]) (hl : ds.length=cs.length) (htr : cxs.map (X.tr [⟨n,0,cs,ds⟩])=xs) (htrok : uDI [⟨n,0,cs,ds⟩] cxs=true) (hnb : n.isBd=false) (hc : res.clean=true) (hN : Nat.ble (d + 1) N=true)
  (h : AL Z N ops rest K ((st.store n ds 0 ds.length).put d (true,res))) : AL Z N ops (o :: rest) K st:=by
 refine uGd [⟨n,0,cs,ds⟩] ho hg hf ha htr htrok (by intro p hp; simp at hp; subst hp; exact hb) ?_ ?_ hc hd hN ?_
 ·simp [uB1,hl,hnb]
 ·simpa [uHH hl] using hs
 ·simpa [St.stores,uFG hl] using h
theorem uEg {rest : List Oper} {B : List Nat} {s0 : St} {k : Nat} {acc : List (Nat × Eff × Foot)} {Q : St→Prop} {fo : Operand} {args : Array Operand} {ts : Array TypeId} {f : FuncId} {xs cxs : List X} {res : X} (n : Nm) {cs ds : List C} (hk : ops[k]? = some o)
  (ho : o.op = .call { callee:=.value fo,args:=args,argTypes:=ts }) (hg : uA3 ops (rs (foot ops o [n] []) st) o=some true)
  (hf : lk Z.T (rs (foot ops o [n] []) st) 0 fo=some (true, .fn f [])) (ha : uBV Z.T (rs (foot ops o [n] []) st) ts.toList args.toList=some (true,xs)) (hb : (rs (foot ops o [n] []) st).box n=some cs) (hd : o.dst=some d)
  (hs : Ctr Z f cxs [cs] res none [ds]) (hl : ds.length=cs.length) (htr : cxs.map (X.tr [⟨n,0,cs,ds⟩])=xs) (htrok : uDI [⟨n,0,cs,ds⟩] cxs=true) (hnb : n.isBd=false) (hc : res.clean=true) (hN : Nat.ble (d + 1) N=true)
  (hr : Draw Z N s0 ops B (k + 1) rest (acc++[(k,{ d:=some (d,true,res),b:=some (n,ds),drop:=.t d :: uCD n 0 ds.length },foot ops o [n] [])]) (ap { d:=some (d,true,res),b:=some (n,ds),drop:=.t d :: uCD n 0 ds.length } st) Q) :
  Draw Z N s0 ops B k (o :: rest) acc st Q:=by
 refine uMt ⟨n,0,cs,ds⟩ hk ho hg hf ha htr htrok hb (by simp [hl]) ?_ hc hd hN ?_ hnb
 ·simpa [uHH hl] using hs
 ·simpa [uFG hl] using hr
end
end Go.Abs
namespace Go.Abs
variable {Z : Pg}
theorem uJo {f : FuncId} {args : List X} (us : List Value) {res : X} {v : Value} (hen : Enters Z f) (ha : ∀ (w : World) (G : Gh) (vs : List Value),All2 (XRep w G) args vs→vs=us)
  (hc : ∀ w,Calls Z.P f us.toArray w fun e w'=>e = .returned v∧w'=w) (hr : ∀ w G,XRep w G res v) : Ctr Z f args [] res none []:=by
 refine ⟨hen,fun w G vs hvs hwf hbx hbox hown _=>?_⟩
 obtain rfl:=ha w G vs hvs
 refine (hc w).mono ?_
 rintro e w' ⟨rfl,rfl⟩
 exact ⟨v,G,rfl,Fr.refl _ _ _,fun _ _ h=>h,fun _ _ _ h=>h,hwf,hr _ _,fun _=>rfl,fun j cs h=>by simp at h,fun sz h=>by simp at h,fun b o h=>absurd h (hown b o _)⟩
def St.val (st : St) (k : Nat) (n : Nm) (sz off len : Nat) (u : Value) : St:={ st with t:=(k,true, .v (.msv n sz off len u)) :: st.t }
theorem Rel.val {E : Env} {G : Gh} {st : St} {a : Act} {w : World} (h : Rel E G st a w) {k sz off len : Nat} {n : Nm} (hs : st.get k=some (true, .v (.ms n sz off len))) (hl : 0 < len) : ∃ u,Rel E G (st.val k n sz off len u) a w:=by
 obtain ⟨v,hv,hv1,_⟩:=h.tm _ _ _ hs
 refine ⟨v,{ df:=h.df,tm:=?_,bx:=h.bx,ow:=h.ow,wf:=h.wf,olB:=h.olB,olO:=h.olO,nt:=h.nt,oA:=h.oA,im:=h.im,im':=h.im',fr:=h.fr,hB:=h.hB,lo:=h.lo,bd:=h.bd,mp:=h.mp }⟩
 intro j g x hj
 have hj2 : getT ((k,true, .v (.msv n sz off len v)) :: st.t) j=some (g,x):=hj
 rw [uBF] at hj2
 split at hj2
 ·rename_i he; subst he
  simp only [Option.some.injEq,Prod.mk.injEq] at hj2
  obtain ⟨rfl,rfl⟩:=hj2
  refine ⟨v,hv,fun _=>?_,fun hg=>by simp at hg⟩
  rcases hv1 rfl with ⟨e,_⟩ | e
  ·omega
  ·exact ⟨rfl,e⟩
 ·exact h.tm _ _ _ hj2
def St.same (st : St) (j : Nat) (n : Nm) (sz off len : Nat) : St:={ st with t:=(j,true, .v (.ms n sz off len)) :: st.t }
theorem Rel.same {E : Env} {G : Gh} {st : St} {a : Act} {w : World} (h : Rel E G st a w) {j k sz off len : Nat} {n : Nm} {u : Value} (hj : st.get j=some (true, .v (.c (.o u)))) (hs : st.get k=some (true, .v (.msv n sz off len u))) :
  Rel E G (st.same j n sz off len) a w:=by
 obtain ⟨v,hv,hv1,_⟩:=h.tm _ _ _ hj
 obtain ⟨v',hv',hv2,_⟩:=h.tm _ _ _ hs
 have e1 : v=u:=by
  have : CRep w G.S (.o u) v:=hv1 rfl
  cases this; rfl
 subst e1
 refine { df:=h.df,tm:=?_,bx:=h.bx,ow:=h.ow,wf:=h.wf,olB:=h.olB,olO:=h.olO,nt:=h.nt,oA:=h.oA,im:=h.im,im':=h.im',fr:=h.fr,hB:=h.hB,lo:=h.lo,bd:=h.bd,mp:=h.mp }
 intro i g x hi
 have hj2 : getT ((j,true, .v (.ms n sz off len)) :: st.t) i=some (g,x):=hi
 rw [uBF] at hj2
 split at hj2
 ·rename_i he; subst he
  simp only [Option.some.injEq,Prod.mk.injEq] at hj2
  obtain ⟨rfl,rfl⟩:=hj2
  refine ⟨v,hv,fun _=>?_,fun hg=>by simp at hg⟩
  obtain ⟨e,q⟩:=hv2 rfl
  subst e
  exact .inr q
 ·exact h.tm _ _ _ hj2
section
variable {st : St} {ty : TypeId} {gate : Bool}
end
structure SetFn (Z : Pg) (f : FuncId) : Prop where
 en : Enters Z f
 run : ∀ (w : World) (pb po qb qo : Nat) (m n c : Int) (blk off len cap : Nat),w.cell? ⟨pb,po,none⟩=some (.int .i64 n)→w.cell? ⟨qb,qo,none⟩=some (.slice (some ⟨blk,off,none⟩) len cap)→0≤m→(len : Int)=n + 1→(len : Int) < 9223372036854775807 →
  (∀ j,j < len→(w.cell? ⟨blk,off + j,none⟩).isSome=true)→(∀ j,j < len→w.frozen? ⟨blk,off + j,none⟩=false) →
  Calls Z.P f #[.int .i64 m, .int .u64 c, .pointer (some ⟨pb,po,none⟩), .pointer (some ⟨qb,qo,none⟩)] w fun e w'=>e = .returned (.tuple #[])∧w'=if m≤n then w.setCell ⟨blk,off + m.toNat,none⟩ (.int .u64 c) else w
end Go.Abs
namespace Go.Abs
variable {Z : Pg}
def arr (k : IntKind) (g : Nat→Int) (n : Nat) : List C:=(List.range n).map fun m=>C.i k (g m)
section
variable {N : Nat} {ops : Array Oper} {rest : List Oper} {K : St→Prop} {st : St} {o : Oper} {d : Nat} {ty : TypeId}
end
section
variable {N : Nat} {ops : Array Oper} {rest : List Oper} {st : St} {o : Oper} {s0 : St} {B : List Nat} {q : Nat} {acc : List Lnk} {Q : St→Prop}
end
theorem uK8 {N : Nat} {ops : Array Oper} {rest : List Oper} {K : St→Prop} {st : St} (k m m' : Nat) {sz L : Nat} {cs : List C} (hs : st.get k=some (true, .v (.ms (.l m) sz 0 L))) (hb : st.box (.l m)=some cs)
  (hfr : st.freshO (.l m',true)=true) (hfo : st.freshO (.l m,false)=true) (h : AL Z N ops rest K (st.ren k m m' sz L cs)) : AL Z N ops rest K st :=
 fun E G a w hr hE=>h E _ a w (hr.rename hs hb (St.freshO_ok hfr) (St.freshO_ok hfo)) hE
end Go.Abs
namespace Go.Abs
theorem rko {ops : Array Oper} {o : Oper} {rb : List Nm} {st : St} {p : Pl} {sz : Nat} (h : st.own p=some sz) : (rs (foot ops o rb [p]) st).own p=some sz:=by
 show getO (uFw st [p]) p=some sz
 simp only [uFw,h]
 rw [uBL,if_pos rfl]
theorem ak2 {e : Eff} {s : St} {p : Pl} {sz : Nat} (hk : e.keeps p=true) (h : s.own p=some sz) : (ap e s).own p=some sz:=by
 unfold Eff.keeps at hk
 rw [Bool.and_eq_true] at hk
 obtain ⟨h1,h2⟩:=hk
 rw [uCb,Eff.go]
 have hd : ¬ p ∈ e.drop:=by
  intro hp
  have : e.drop.any (Pl.beq p)=true:=List.any_eq_true.2 ⟨p,hp,Pl.beq_self p⟩
  rw [this] at h1; simp at h1
 cases hg : e.gain with
 | none=>dsimp only; rw [if_neg hd]; exact h
 | some x =>
  obtain ⟨q,y⟩:=x
  rw [hg] at h2
  dsimp only at h2 ⊢
  have hq : ¬ q=p:=by
   intro z; subst z; rw [Pl.beq_self] at h2; simp at h2
  rw [if_neg hq,if_neg hd]; exact h
end Go.Abs
namespace Go.Abs
open Go.RowKit (Below)
variable {Z : Pg}
def intAt (b : Option Obj) : Prop:=∃ cs t s m,b=some (.cells cs t s)∧cs[0]? = some (.int .i64 m)
theorem intAt.cell {w : World} {g : Nat} (h : intAt w.heap[g]?) : ∃ m,w.cell? ⟨g,0,none⟩=some (.int .i64 m):=by
 obtain ⟨cs,t,s,m,h1,h2⟩:=h
 exact ⟨m,by unfold World.cell?; rw [h1]; simpa using h2⟩
theorem intAt.of {w : World} {g : Nat} {m : Int} (h : w.cell? ⟨g,0,none⟩=some (.int .i64 m)) : intAt w.heap[g]? := by
 unfold World.cell? at h
 dsimp only at h
 split at h
 ·rename_i cs t s hb
  exact ⟨cs,t,s,m,hb,by simpa using h⟩
 ·simp at h
theorem Fr.ofBelow {M : Nat→Nat→Prop} {w w' : World} (h : Below w.heap.size w w') : Fr M w.heap.size w w' where
 os:=h.os
 tape:=h.tape
 output:=h.output
 size:=h.size
 block:=fun b hb _=>h.block b hb
 cell:=fun b o hb _=>by unfold World.cell?; rw [h.block b hb]
 mark:=fun b hb=>by unfold uBo; rw [h.block b hb]
 shape:=fun b hb=>by unfold World.shape?; rw [h.block b hb]
theorem uHz {f : FuncId} {args : List X} {res : X} {v : Value} (hen : Enters Z f)
  (hc : ∀ (w : World) (G : Gh) (vs : List Value),All2 (XRep w G) args vs→(∀ b o,G.W b o ≠ .none→b < w.heap.size)→GlOk Z w G→Calls Z.P f vs.toArray w fun e w'=>e = .returned v∧Below w.heap.size w w') (hr : ∀ w G,XRep w G res v) : Ctr Z f args [] res none []:=by
 refine ⟨hen,fun w G vs hvs hwf hbx hbox hown hgl=>?_⟩;refine (hc w G vs hvs hwf hgl).mono ?_
 rintro e w' ⟨rfl,hb⟩
 exact ⟨v,G,rfl,Fr.ofBelow hb,fun _ _ h=>h,fun _ _ _ h=>h,fun b o h=>Nat.lt_of_lt_of_le (hwf b o h) hb.size,hr _ _,fun _=>rfl,fun j cs h=>by simp at h,fun sz h=>by simp at h,fun b o h=>absurd h (hown b o _)⟩
theorem uIT (w : World) (o : Obj) : Below w.heap.size w (w.alloc o):=(Below.refl _ w).alloc (Nat.le_refl _) o
theorem uLb {f : FuncId} {args : List X} {cs : List C} {vals : List Value} {ty : TypeId} (hen : Enters Z f) (hlen : vals.length≤9223372036854775807) (hv : ∀ w S,All2 (CRep w S) cs vals)
  (hc : ∀ (w : World) (G : Gh) (vs : List Value),All2 (XRep w G) args vs→GlOk Z w G→Calls Z.P f vs.toArray w fun e w'=>e = .returned (.slice (some ⟨w.heap.size,0,none⟩) vals.length vals.length)∧w'=w.alloc (.cells vals.toArray ty)) :
  Ctr Z f args [] (.v (.c (.sl 1 (cs.map fun c=>[c])))) none []:=by
 refine ⟨hen,fun w G vs hvs hwf hbx hbox hown hgl=>?_⟩;refine (hc w G vs hvs hgl).mono ?_
 rintro e w' ⟨rfl,rfl⟩
 have hb:=uIT w (.cells vals.toArray ty)
 have hnew : ∀ j,(w.alloc (.cells vals.toArray ty)).cell? ⟨w.heap.size,j,none⟩=vals[j]? := by
  intro j
  unfold World.cell?
  rw [World.alloc_heap_new]
  simp
 have hsz : (w.alloc (.cells vals.toArray ty)).heap.size=w.heap.size + 1:=by simp
 let G' : Gh:={ G with W:=fun b o=>if b=w.heap.size then .imm else G.W b o }
 have hl : cs.length=vals.length:=(hv w G.S).len
 refine ⟨_,G',rfl,Fr.ofBelow hb,fun b o h=>?_,fun b o hlt h=>?_,fun b o h=>?_,?_,fun _=>rfl,fun j cs h=>by simp at h,fun sz h=>by simp at h,fun b o h=>?_⟩
 ·show (if b=w.heap.size then Who.imm else G.W b o) = .imm
  split
  ·rfl
  ·exact h
 ·have h2 : (if b=w.heap.size then Who.imm else G.W b o) = .imm:=h
  rwa [if_neg (Nat.ne_of_lt hlt)] at h2
 ·have h2 : (if b=w.heap.size then Who.imm else G.W b o) ≠ .none:=h
  split at h2
  ·rw [hsz]; omega
  ·have := hwf b o h2; rw [hsz]; omega
 ·show CRep _ _ (.sl 1 (cs.map fun c=>[c])) _
  refine .sl 1 _ w.heap.size 0 vals.length vals.length (fun i j=>vals.getD i (.bool false)) (by simpa using hl) (Nat.le_refl _) hlen (fun i row h=>?_) (fun i j hi hj=>?_) (fun i row j c h1 h2=>?_)
  ·rw [List.getElem?_map,Option.map_eq_some_iff] at h
   obtain ⟨a,_,rfl⟩:=h
   rfl
  ·refine ⟨?_,?_⟩
   ·show (if w.heap.size=w.heap.size then Who.imm else _) = .imm
    rw [if_pos rfl]
   ·rw [hnew,List.getD_eq_getElem?_getD]
    obtain rfl : j=0:=by omega
    rw [show 0 + i * 1 + 0=i by omega,List.getElem?_eq_getElem hi]; rfl
  ·rw [List.getElem?_map,Option.map_eq_some_iff] at h1
   obtain ⟨a,ha,rfl⟩:=h1
   cases j with
   | succ j=>simp at h2
   | zero =>
    simp only [List.getElem?_cons_zero,Option.some.injEq] at h2
    subst h2
    obtain ⟨v,hv1,hv2⟩:=(hv (w.alloc (.cells vals.toArray ty)) G'.S).get i a ha
    rw [List.getD_eq_getElem?_getD,hv1]
    exact hv2
 ·have h2 : (if b=w.heap.size then Who.imm else G.W b o) = .own (.t 0):=h
  split at h2
  ·cases h2
  ·exact absurd h2 (hown b o _)
theorem Ctr.wk {Z Z' : Pg} {f : FuncId} {args : List X} {bs bs' : List (List C)} {res : X} {ro : Option Nat} (hP : Z'.P=Z.P) (hg : ∀ g ∈ Z.gv,g ∈ Z'.gv) (h : Ctr Z f args bs res ro bs') : Ctr Z' f args bs res ro bs':=by
 obtain ⟨⟨fn,h1,h2,h3⟩,h4⟩:=h
 refine ⟨⟨fn,by rw [hP]; exact h1,h2,h3⟩,fun w G vs a b c d e g=>?_⟩
 rw [hP]
 exact h4 w G vs a b c d e fun x hx=>g x (hg x hx)
end Go.Abs
namespace Go.Abs
variable {Z : Pg}
section
variable {N : Nat} {st : St} {ops : Array Oper} {o : Oper} {d k : Nat} {fo x y : Operand} {ts : Array TypeId} {m : List UInt8}
end
end Go.Abs
namespace Go.Abs
variable {Z : Pg}
section
variable {N : Nat} {ops : Array Oper} {rest : List Oper} {K : St→Prop} {st : St} {o : Oper} {d : Nat}
theorem Rel.mem_map {E : Env} {G : Gh} {a : Act} {w : World} (h : Rel E G st a w) {i b : Nat} {f : Bool} {es : List (List UInt8 × Value)} (hm : st.mp[i]? = some (b,f,es)) : MapAt w b es∧(f=true→E.B≤b) ∧ ∀ o,(∀ n,G.W b o ≠ .box n) ∧ ∀ p,G.W b o ≠ .own p :=
 h.mp _ (List.mem_of_getElem? hm)
end
end Go.Abs
namespace Go.Abs
variable {Z : Pg} {st : St}
end Go.Abs
namespace Go.Abs
variable {Z : Pg}
inductive Loc where
 | box
 | res
def uLE (loc : Loc) (w' : World) (G' : Gh) (v : Value) (j off : Nat) (u : Value) : Prop :=
 match loc with
 | .box=>w'.cell? ⟨(G'.A (.o j)).1,(G'.A (.o j)).2 + off,none⟩=some u
 | .res=>∃ us ws : Array Value,v = .tuple us∧us[0]? = some (.agg ws)∧ws[off]? = some u
abbrev OS:=List (Nat × Nat × Nat)
def CtrO (Z : Pg) (f : FuncId) (args : List X) (bs : List (List C)) (os : OS) (res : X) (bs' : List (List C)) (loc : Loc) : Prop :=
 Enters Z f ∧ ∀ (cc : Nat) (w : World) (G : Gh) (vs : List Value),cc≤w.heap.size→All2 (XRep w G) args vs→(∀ b o,G.W b o ≠ .none→b < w.heap.size)→(∀ (j : Nat) (cs : List C),bs[j]? = some cs→uCF w G (.o j) cs) →
  (∀ b o n,G.W b o = .box n → ∃ j cs k,n = .o j∧bs[j]? = some cs∧k < cs.length∧b=(G.A n).1∧o=(G.A n).2 + k) →
  (∀ b o p,G.W b o = .own p→cc≤b) →
  (∀ e ∈ os,∃ u,w.cell? ⟨(G.A (.o e.1)).1,(G.A (.o e.1)).2 + e.2.1,none⟩=some u∧G.W (G.A (.o e.1)).1 ((G.A (.o e.1)).2 + e.2.1) = .box (.o e.1)∧OwnAt cc w G (.b (.o e.1) e.2.1) e.2.2 u)→GlOk Z w G →
  Calls Z.P f vs.toArray w fun e w'=>∃ v G',e = .returned v∧Fr (fun b o=>(∃ n,G.W b o = .box n) ∨ ∃ p,G.W b o = .own p) w.heap.size w w' ∧
   (∀ b o,G.W b o = .imm→G'.W b o = .imm)∧(∀ b o,b < w.heap.size→G'.W b o = .imm→G.W b o = .imm ∨ ∃ p,G.W b o = .own p)∧(∀ b o,G'.W b o ≠ .none→b < w'.heap.size)∧XRep w' G' res v ∧
   (∀ j,G'.A (.o j)=G.A (.o j))∧(∀ (j : Nat) (cs : List C),bs'[j]? = some cs→uCF w' G' (.o j) cs) ∧
   (∀ e ∈ os,∃ u,uLE loc w' G' v e.1 e.2.1 u∧OwnAt cc w' G' (.b (.o e.1) e.2.1) e.2.2 u)∧(∀ b o q,b < w.heap.size→G'.W b o = .own q → ∃ p,G.W b o = .own p)
def CtrX (Z : Pg) (H : List Value→Prop) (f : FuncId) (args : List X) (bs : List (List C)) (os : OS) (res : X) (bs' : List (List C)) (loc : Loc) : Prop :=
 Enters Z f ∧ ∀ (cc : Nat) (w : World) (G : Gh) (vs : List Value),cc≤w.heap.size→H vs→All2 (XRep w G) args vs→(∀ b o,G.W b o ≠ .none→b < w.heap.size)→(∀ (j : Nat) (cs : List C),bs[j]? = some cs→uCF w G (.o j) cs) →
  (∀ b o n,G.W b o = .box n → ∃ j cs k,n = .o j∧bs[j]? = some cs∧k < cs.length∧b=(G.A n).1∧o=(G.A n).2 + k) →
  (∀ b o p,G.W b o = .own p→cc≤b) →
  (∀ e ∈ os,∃ u,w.cell? ⟨(G.A (.o e.1)).1,(G.A (.o e.1)).2 + e.2.1,none⟩=some u∧G.W (G.A (.o e.1)).1 ((G.A (.o e.1)).2 + e.2.1) = .box (.o e.1)∧OwnAt cc w G (.b (.o e.1) e.2.1) e.2.2 u)→GlOk Z w G →
  Calls Z.P f vs.toArray w fun e w'=>∃ v G',e = .returned v∧Fr (fun b o=>(∃ n,G.W b o = .box n) ∨ ∃ p,G.W b o = .own p) w.heap.size w w' ∧
   (∀ b o,G.W b o = .imm→G'.W b o = .imm)∧(∀ b o,b < w.heap.size→G'.W b o = .imm→G.W b o = .imm ∨ ∃ p,G.W b o = .own p)∧(∀ b o,G'.W b o ≠ .none→b < w'.heap.size)∧XRep w' G' res v ∧
   (∀ j,G'.A (.o j)=G.A (.o j))∧(∀ (j : Nat) (cs : List C),bs'[j]? = some cs→uCF w' G' (.o j) cs) ∧
   (∀ e ∈ os,∃ u,uLE loc w' G' v e.1 e.2.1 u∧OwnAt cc w' G' (.b (.o e.1) e.2.1) e.2.2 u)∧(∀ b o q,b < w.heap.size→G'.W b o = .own q → ∃ p,G.W b o = .own p)
def st0O (args : List X) (bs : List (List C)) (os : OS) : St:={ t:=uHo 0 args,bx:=uC1 0 bs,ow:=os.map fun e=>(.b (.o e.1) e.2.1,e.2.2) }
theorem uKc : ∀ {os : OS} {p : Pl} {sz : Nat},getO (os.map fun e=>((.b (.o e.1) e.2.1 : Pl),e.2.2)) p=some sz → ∃ e ∈ os,p = .b (.o e.1) e.2.1∧sz=e.2.2
 | [],p,sz,h=>by simp [getO] at h
 | e :: r,p,sz,h=>by
  rw [List.map_cons,uBL] at h
  split at h
  ·rename_i he; subst he; simp at h; exact ⟨e,by simp,rfl,h.symm⟩
  ·obtain ⟨e',h1,h2⟩:=uKc h
   exact ⟨e',by simp [h1],h2⟩
def ownO (T : List (Option TyI)) (rs : List ResultVar) (s : St) (os : OS) : Loc→Prop
 | .box=>∀ e ∈ os,s.own (.b (.o e.1) e.2.1)=some e.2.2
 | .res=>∃ b t r n cs ti,rs = .cell b t :: r∧r≠[]∧s.get b=some (true, .v (.ptr n 0))∧s.box n=some cs∧tyAt T t=some ti∧ti.agg=true∧Nat.beq cs.length ti.n=true ∧ ∀ e ∈ os,e.1=0∧s.own (.b n e.2.1)=some e.2.2∧e.2.1 < cs.length
theorem uL6 {w : World} {G : Gh} : ∀ {ys : List Y} {us : List Value},All2 (YRep w G) ys us→XRep w G (uCg ys) (if h : us.toArray.size=1 then us.toArray[0] else .tuple us.toArray)
 | [],[],_=>⟨[],rfl,trivial⟩
 | [y],[u],h=>h.1
 | y :: y' :: r,u :: u' :: q,h=>by
  simp only [List.size_toArray,List.length_cons]
  rw [dif_neg (by omega)]
  exact ⟨_,rfl,h⟩
 | [],_ :: _,h=>h.elim
 | _ :: _,[],h=>h.elim
 | [_],_ :: _ :: _,h=>h.2.elim
 | _ :: _ :: _,[_],h=>h.2.elim
def retO (T : List (Option TyI)) (rs : List ResultVar) (res : X) (bs' : List (List C)) (os : OS) (loc : Loc) : Exit→St→Prop
 | .normal,s | .ret,s=>resX T s rs=some res∧(∀ (j : Nat) (cs : List C),bs'[j]? = some cs→s.box (.o j)=some cs)∧ownO T rs s os loc
 | _,_=>False
def plO (loc : Loc) (n : Nm) : Pl→Option Pl
 | .b m off=>match loc with
  | .box=>(match m with | .o j=>some (.b (.o j) off) | _=>none)
  | .res=>if Nm.beq m n=true then some (.b (.o 0) off) else none
 | .t _=>none
theorem uJh {E : Env} {G : Gh} {s : St} {a : Act} {w : World} (hr : Rel E G s a w) {b t : Nat} {n : Nm} {cs : List C} {ti : TyI} (hg : s.get b=some (true, .v (.ptr n 0))) (hb : s.box n=some cs) (ht : tyAt Z.T t=some ti) (hagg : ti.agg=true) (hln : cs.length=ti.n) :
  ∃ us : List Value,(uDD a.tmps (.cell b t)).run Z.P w = .ok (.agg us.toArray) w∧us.length=cs.length ∧ ∀ j u,us[j]? = some u→w.cell? ⟨(G.A n).1,(G.A n).2 + j,none⟩=some u:=by
 obtain ⟨v,hv,h1,_⟩:=hr.tm b _ _ hg
 have h1' : v=_:=h1 rfl
 subst h1'
 have hbox:=hr.bx n cs hb
 obtain ⟨us,hul,hus⟩:=uDo (R:=fun j v=>w.cell? ⟨(G.A n).1,(G.A n).2 + 0 + j,none⟩=some v) ti.n fun j hj=>by
  have hj' : cs[j]? = some (cs[j]'(by omega)):=List.getElem?_eq_getElem (by omega)
  obtain ⟨_,_,v,hv,hcr⟩:=hbox _ _ hj'
  exact ⟨v,by simpa using hv⟩
 have hrun:=uCU (Z:=Z) (w:=w) ht hagg hul fun j v hv=>hus j v hv
 simp only [Instr.loadAt,Instr.sureAddr,Sem.run_bind,Sem.run_pure,Result.andThen_ok] at hrun
 refine ⟨us,?_,by omega,fun j u hj=>by simpa using hus j u hj⟩
 simp [uDD,Array.getD_eq_getD_getElem?,hv,asAddr]
 simpa using hrun
theorem uFr {H : List Value→Prop} {f : FuncId} {fn : Func} {c : Code} {N : Nat} {rs : List ResultVar} {args : List X} {bs bs' : List (List C)} {os : OS} {res : X} {loc : Loc}
  (hf : Z.P.funcs[f]? = some fn) (hb : fn.body = some c) (hname : (fn.name == "runtime.NumGoroutine") = false) (hN : fn.ntmps = N) (hrs : fn.results = rs.toArray) (hlen' : Nat.ble args.length N = true) (hc : res.clean = true) (hz : Z.old = true)
  (h : AWP Z N c (retO Z.T rs res bs' os loc) (st0O args bs os)) (hx : ∀ (w : World) (G : Gh) (vs : List Value),H vs→All2 (XRep w G) args vs→Z.ex fun j=>G.A (.o j)) : CtrX Z H f args bs os res bs' loc:=by
 have hlen : args.length≤N:=Nat.le_of_ble_eq_true hlen'
 refine ⟨⟨fn,hf,by rw [hb]; rfl,hname⟩,?_⟩
 intro cc w G vs hcc hH hvs hwf hbx hbox hown hos hgl
 let E : Env:={ B:=w.heap.size,w0:=w,W0:=G.W,A0:=fun j=>G.A (.o j),nt:=N,D:=w.heap.size - cc }
 have hEC : E.C=cc:=by show w.heap.size - (w.heap.size - cc)=cc; omega
 let a : Act:={ tmps:=vs.toArray++Array.replicate (fn.ntmps - vs.toArray.size) undef,defers:=[] }
 have hal : args.length=vs.length:=hvs.len
 have hrel : Rel E G (st0O args bs os) a w:={
  df:=rfl
  tm:=by
   intro k g x hk
   obtain ⟨i,y,h1,h2,h3⟩:=uFg 0 args k (g,x) hk
   simp only [Prod.mk.injEq] at h3
   obtain ⟨rfl,rfl⟩:=h3
   obtain ⟨v,hv,hx⟩:=hvs.get i x h2
   have hi : i < vs.length:=(List.getElem?_eq_some_iff.1 hv).1
   refine ⟨v,?_,fun _=>hx,fun hg=>by simp at hg⟩
   show (vs.toArray++_)[k]? = _
   rw [h1,Nat.zero_add,Array.getElem?_append_left (by simpa using hi)]
   simpa using hv
  bx:=by
   intro n cs hn
   obtain ⟨i,h1,h2⟩:=uC8 0 bs n cs hn
   rw [h1,Nat.zero_add]
   exact hbx i cs h2
  ow:=by
   intro p sz hp
   obtain ⟨e,he,rfl,rfl⟩:=uKc hp
   obtain ⟨u,h1,h2,h3⟩:=hos e he
   exact ⟨u,⟨h1,h2⟩,by rw [hEC]; exact h3⟩
  wf:=hwf
  olB:=fun b o n _ hn=>.inl ⟨n,hn⟩
  olO:=fun b o p _ hn=>⟨p,hn⟩
  nt:=by
   show (vs.toArray++Array.replicate (fn.ntmps - vs.toArray.size) undef).size=N
   simp; omega
  oA:=fun _=>rfl
  im:=fun b o h=>h
  im':=fun b o _ h=>.inl h
  fr:=Fr.refl _ _ _
  hB:=Nat.le_refl _
  lo:=fun b o _=>⟨fun n hn=>by obtain ⟨j,_,_,e,_⟩:=hbox b o n hn; exact ⟨j,e⟩,fun hb p hp=>by
   rw [hEC] at hb
   have := hown b o p hp; omega⟩
  bd:=fun t k cs hn=>by
   obtain ⟨i,h1,_⟩:=uC8 0 bs _ cs hn
   simp at h1
  mp:=fun x hx=>by cases hx }
 refine calls_of_wp hf hb ?_
 have hwp:=h E G a w hrel ⟨rfl,fun q=>(by rw [hz] at q; simp at q),fun g hg=>⟨(hgl g hg).1,(hgl g hg).2.1,fun o hm=>by
  rcases hm with ⟨n,hn⟩ | ⟨p,hp⟩
  ·exact (hgl g hg).2.2.1 o n hn
  ·exact (hgl g hg).2.2.2 o p hp⟩,hx w G vs hH hvs⟩
 refine wp_mono hwp ?_
 rintro e a' w' ⟨G',s,hq,hr'⟩
 have key : (resX Z.T s rs=some res∧(∀ (j : Nat) (cs : List C),bs'[j]? = some cs→s.box (.o j)=some cs)∧ownO Z.T rs s os loc) →
   a'.defers=[] ∧ ∃ v,(results fn a'.tmps).run Z.P w' = .ok v w' ∧ ∃ u G',Ending.returned v = .returned u∧Fr (fun b o=>(∃ n,G.W b o = .box n) ∨ ∃ p,G.W b o = .own p) w.heap.size w w' ∧
    (∀ b o,G.W b o = .imm→G'.W b o = .imm)∧(∀ b o,b < w.heap.size→G'.W b o = .imm→G.W b o = .imm ∨ ∃ p,G.W b o = .own p)∧(∀ b o,G'.W b o ≠ .none→b < w'.heap.size)∧XRep w' G' res u ∧
    (∀ j,G'.A (.o j)=G.A (.o j))∧(∀ (j : Nat) (cs : List C),bs'[j]? = some cs→uCF w' G' (.o j) cs) ∧
    (∀ e ∈ os,∃ u',uLE loc w' G' u e.1 e.2.1 u'∧OwnAt cc w' G' (.b (.o e.1) e.2.1) e.2.2 u')∧(∀ b o q,b < w.heap.size→G'.W b o = .own q → ∃ p,G.W b o = .own p):=by
  rintro ⟨hres,hbs,hro⟩
  refine ⟨hr'.df,?_⟩
  unfold resX at hres
  have hys : ∃ ys,uDS Z.T s rs=some ys∧res=uCg ys:=by
   split at hres
   ·rename_i ys hy; simp only [Option.some.injEq] at hres; exact ⟨ys,hy,hres.symm⟩
   ·simp at hres
  obtain ⟨ys,hys,rfl⟩:=hys
  obtain ⟨us,hrun,hall,hone⟩:=uDV hr' hys
  have hr0 : (results fn a'.tmps).run Z.P w' = .ok (if h : us.toArray.size=1 then us.toArray[0] else .tuple us.toArray) w':=by
   rw [uGq,hrs,List.mapM_toArray]
   simp only [Sem.run_bind,Sem.run_map,hrun,Result.andThen_ok,Sem.run_pure]
  have hv2:=uL6 hall
  refine ⟨_,hr0,?_⟩
  have hfr : Fr (fun b o=>(∃ n,G.W b o = .box n) ∨ ∃ p,G.W b o = .own p) w.heap.size w w':=hr'.fr
  obtain ⟨n0,hn0⟩ : ∃ n0 : Nm,match loc with
    | .box=>∀ e ∈ os,s.own (.b (.o e.1) e.2.1)=some e.2.2
    | .res=>(∀ e ∈ os,e.1=0∧s.own (.b n0 e.2.1)=some e.2.2) ∧ ∃ ws : List Value,∃ r',us = .agg ws.toArray :: r'∧r'≠[]∧(∀ j u,ws[j]? = some u→w'.cell? ⟨(G'.A n0).1,(G'.A n0).2 + j,none⟩=some u) ∧ ∀ e ∈ os,e.2.1 < ws.length:=by
   cases loc with
   | box=>exact ⟨.l 0,hro⟩
   | res =>
    obtain ⟨b,t,r,n,cs,ti,rfl,hne,hg,hbn,ht,hagg,hln,ho⟩:=hro
    obtain ⟨ws,q1,q2,q3⟩:=uJh (Z:=Z) hr' hg hbn ht hagg (Nat.eq_of_beq_eq_true hln)
    refine ⟨n,fun e he=>⟨(ho e he).1,(ho e he).2.1⟩,ws,?_⟩
    rw [List.mapM_cons,Sem.run_bind,q1] at hrun
    simp only [Result.andThen_ok,Sem.run_bind] at hrun
    cases hrr : (r.mapM (uDD a'.tmps)).run Z.P w' with
    | ok vs2 w2 =>
     rw [hrr] at hrun
     simp only [Result.andThen_ok,Sem.run_pure,Result.ok.injEq] at hrun
     obtain ⟨e1,e2⟩:=hrun
     refine ⟨vs2,e1.symm,?_,q3,fun e he=>by have := (ho e he).2.2; omega⟩
     intro e0
     subst e0
     rw [← e1] at hall
     have hyl:=hall.len
     simp at hyl
     have : ∀ (rs : List ResultVar) ys,uDS Z.T s rs=some ys→ys.length=rs.length:=by
      intro rs
      induction rs with
      | nil=>intro ys h; simp [uDS] at h; subst h; rfl
      | cons x rs ih =>
       intro ys h
       simp only [uDS] at h
       split at h
       ·split at h
        ·rename_i ys' h2; simp only [Option.some.injEq] at h; subst h; simp [ih _ h2]
        ·simp at h
       ·simp at h
     have := this _ _ hys
     rw [hyl] at this
     simp at this
     exact hne this
    | _=>rw [hrr] at hrun; simp [Result.andThen] at hrun
  let G2 : Gh:={ A:=G'.A,W:=fun b o=>match G'.W b o with | .imm=>.imm | .box (.o j)=>.box (.o j) | .own p=>(match plO loc n0 p with | some q=>.own q | none=>.none) | _=>.none }
  have hS : ∀ b o,G'.S b o→G2.S b o:=fun b o hs=>by unfold Gh.S at *; simp [G2,hs]
  have hI : ∀ b o,G2.W b o = .imm→G'.W b o = .imm:=fun b o hi=>by
   simp only [G2] at hi
   split at hi
   ·assumption
   ·simp at hi
   ·split at hi <;> simp at hi
   ·simp at hi
  have hO : ∀ b o q,G2.W b o = .own q → ∃ p,G'.W b o = .own p∧plO loc n0 p=some q:=fun b o q hi=>by
   simp only [G2] at hi
   split at hi
   ·simp at hi
   ·simp at hi
   ·rename_i p hp
    split at hi
    ·rename_i r hr; simp only [Who.own.injEq] at hi; subst hi; exact ⟨p,hp,hr⟩
    ·simp at hi
   ·simp at hi
  refine ⟨_,G2,rfl,hfr,fun b o hi=>hS b o (hr'.im b o hi),fun b o hb hi=>hr'.im' b o hb (hI b o hi),fun b o hn=>?_,?_,fun j=>hr'.oA j,fun j cs hj=>?_,fun e he=>?_,fun b o q hb hi=>?_⟩
  ·refine hr'.wf b o ?_
   intro he; apply hn; simp [G2,he]
  ·exact hv2.mono hS (fun _ _ _=>rfl) (fun _ _=>rfl)
  ·intro i c hi
   obtain ⟨h1,h2,u,h3,h4⟩:=hr'.bx _ _ (hbs j cs hj) i c hi
   exact ⟨by simp only [G2]; rw [h1],h2,u,h3,h4.mono hS (fun _ _ _=>rfl)⟩
  ·have tr : ∀ (p q : Pl) (u : Value),plO loc n0 p=some q→(∀ t k o,q ≠ .b (.bd t k) o)→OwnAt E.C w' G' p e.2.2 u→OwnAt cc w' G2 q e.2.2 u:=by
    intro p q u hpq hqb ho
    rw [hEC] at ho
    rcases ho with ho | ⟨blk,len,cap,e',q1,q2,q3,q4⟩
    ·exact .inl ho
    ·refine .inr ⟨blk,len,cap,e',q1,⟨q2.1,q2.2.1,fun t k o hh=>absurd hh (hqb t k o)⟩,q3,fun o ho1 ho2=>?_⟩
     obtain ⟨q5,q6⟩:=q4 o ho1 ho2
     refine ⟨?_,q6⟩
     simp only [G2]; rw [q5]; simp only [hpq]
   cases loc with
   | box =>
    obtain ⟨u,hu,ho⟩:=hr'.ow _ _ (hn0 e he)
    exact ⟨u,hu.1,tr _ _ u rfl (by simp) ho⟩
   | res =>
    obtain ⟨h1,ws,r',h2,h3,h4,h5⟩:=hn0
    obtain ⟨e1,e2⟩:=h1 e he
    obtain ⟨u,hu,ho⟩:=hr'.ow _ _ e2
    have hlt:=h5 e he
    have hw:=h4 e.2.1 _ (List.getElem?_eq_getElem hlt)
    have hu1:=hu.1
    rw [hw] at hu1
    simp only [Option.some.injEq] at hu1
    subst hu1
    refine ⟨_,⟨us.toArray,ws.toArray,?_,?_,?_⟩,tr _ _ _ (by simp [plO,Nm.beq_self,e1]) (by simp) ho⟩
    ·rw [dif_neg]
     rw [h2]
     intro hs
     simp at hs
     exact h3 hs
    ·rw [h2]; rfl
    ·simp [hlt]
  ·obtain ⟨p,hp,_⟩:=hO b o q hi
   exact hr'.olO b o p hb hp
 cases e <;> first
  | exact key hq
  | exact hq.elim
theorem uDa {f : FuncId} {fn : Func} {c : Code} {N : Nat} {rs : List ResultVar} {args : List X} {bs bs' : List (List C)} {os : OS} {res : X} {loc : Loc}
  (hf : Z.P.funcs[f]? = some fn) (hb : fn.body = some c) (hname : (fn.name == "runtime.NumGoroutine") = false) (hN : fn.ntmps = N) (hrs : fn.results = rs.toArray) (hlen' : Nat.ble args.length N = true) (hc : res.clean = true) (hz : Z.old = true)
  (h : AWP Z N c (retO Z.T rs res bs' os loc) (st0O args bs os)) (hx : ∀ A,Z.ex A:=by intro _; exact trivial) : CtrO Z f args bs os res bs' loc:=by
 obtain ⟨h1,h2⟩:=uFr (H:=fun _=>True) hf hb hname hN hrs hlen' hc hz h fun _ _ _ _ _=>hx _
 exact ⟨h1,fun cc w G vs hcc=>h2 cc w G vs hcc trivial⟩
end Go.Abs
namespace Go.Abs
variable {Z : Pg}
def pin (ps : List Pass) : OS→Pl→Option Pl
 | [],_=>none
 | e :: r,p=>match ps[e.1]? with
  | some q=>if Pl.beq p (.b q.n (q.off + e.2.1))=true then some (.b (.o e.1) e.2.1) else pin ps r p
  | none=>pin ps r p
def pout (ps : List Pass) : Pl→Option Pl
 | .b (.o j) off=>(ps[j]?).map fun q=>.b q.n (q.off + off)
 | _=>none
theorem uGT {ps : List Pass} : ∀ {os : OS} {p r : Pl},pin ps os p=some r → ∃ e ∈ os,r = .b (.o e.1) e.2.1 ∧ ∃ q,ps[e.1]? = some q∧p = .b q.n (q.off + e.2.1)
 | [],p,r,h=>by simp [pin] at h
 | e :: os,p,r,h=>by
  rw [pin] at h
  split at h
  ·rename_i q hq
   split at h
   ·rename_i hb
    simp only [Option.some.injEq] at h
    exact ⟨e,by simp,h.symm,q,hq,Pl.beq_iff.1 hb⟩
   ·obtain ⟨e',h1,h2⟩:=uGT h
    exact ⟨e',by simp [h1],h2⟩
  ·obtain ⟨e',h1,h2⟩:=uGT h
   exact ⟨e',by simp [h1],h2⟩
theorem uJx {ps : List Pass} {st : St} (hnd : uB1 st ps=true) : ∀ {os : OS} {e : Nat × Nat × Nat} {q : Pass},e ∈ os→ps[e.1]? = some q→pin ps os (.b q.n (q.off + e.2.1))=some (.b (.o e.1) e.2.1)
 | [],e,q,h,_=>by simp at h
 | x :: os,e,q,h,hq=>by
  rw [pin]
  split
  ·rename_i y hy
   split
   ·rename_i hb
    rw [Pl.beq_iff] at hb
    simp only [Pl.b.injEq] at hb
    have he:=uCN hnd _ _ _ _ hq hy hb.1
    rw [← he,hq] at hy
    simp only [Option.some.injEq] at hy
    subst hy
    rw [← he,show x.2.1=e.2.1 by omega]
   ·rename_i hb
    rcases List.mem_cons.1 h with rfl | h
    ·rw [hq] at hy
     simp only [Option.some.injEq] at hy
     subst hy
     exact absurd (Pl.beq_self _) hb
    ·exact uJx hnd h hq
  ·rename_i hy
   rcases List.mem_cons.1 h with rfl | h
   ·rw [hq] at hy; simp at hy
   ·exact uJx hnd h hq
def Gh.passedO (G : Gh) (ps : List Pass) (os : OS) : Gh where
 W:=fun b o=>match G.W b o with
  | .own p=>(match pin ps os p with | some r=>.own r | none=>.none)
  | _=>(G.passed ps).W b o
 A:=(G.passed ps).A
theorem Gh.passedO_imm (G : Gh) (ps : List Pass) (os : OS) (b o : Nat) : (G.passedO ps os).W b o = .imm ↔ G.W b o = .imm:=by
 unfold Gh.passedO
 dsimp only
 split
 ·rename_i p hp; split <;> simp [hp]
 ·exact G.passed_imm ps b o
theorem Gh.passedO_own {G : Gh} {ps : List Pass} {os : OS} {b o : Nat} {r : Pl} (h : (G.passedO ps os).W b o = .own r) : ∃ p,G.W b o = .own p∧pin ps os p=some r:=by
 unfold Gh.passedO at h
 dsimp only at h
 split at h
 ·rename_i p hp
  split at h
  ·rename_i x hx; simp only [Who.own.injEq] at h; subst h; exact ⟨p,hp,hx⟩
  ·simp at h
 ·exact absurd h (G.passed_own ps b o r)
theorem Gh.passedO_box {G : Gh} {ps : List Pass} {os : OS} {b o : Nat} {m : Nm} (h : (G.passedO ps os).W b o = .box m) : (G.passed ps).W b o = .box m:=by
 unfold Gh.passedO at h
 dsimp only at h
 split at h
 ·split at h <;> simp at h
 ·exact h
theorem Gh.passedO_of_box {G : Gh} {ps : List Pass} {os : OS} {b o : Nat} {m n : Nm} (h : (G.passed ps).W b o = .box m) (hn : G.W b o = .box n) : (G.passedO ps os).W b o = .box m:=by
 unfold Gh.passedO
 dsimp only
 rw [hn]
 exact h
def Gh.newW (ps : List Pass) : Who→Who
 | .imm=>.imm
 | .own q=>(match pout ps q with | some r=>.own r | none=>.none)
 | _=>.none
def Gh.gone (G : Gh) (ps : List Pass) (os : OS) (b o : Nat) : Bool:=match G.W b o with | .own p=>(pin ps os p).isSome | _=>false
def Gh.backO (G G' : Gh) (B : Nat) (ps : List Pass) (os : OS) : Gh :=
 {A:=G.A,W:=fun b o=>if b < B∧G.gone ps os b o=false then G.W b o else Gh.newW ps (G'.W b o) }
theorem Gh.gone_own {G : Gh} {ps : List Pass} {os : OS} {b o : Nat} (h : G.gone ps os b o=true) : ∃ p,G.W b o = .own p∧(pin ps os p).isSome=true:=by
 unfold Gh.gone at h
 split at h
 ·rename_i p hp; exact ⟨p,hp,h⟩
 ·simp at h
theorem Gh.newW_box {ps : List Pass} {x : Who} {n : Nm} : Gh.newW ps x ≠ .box n:=by
 unfold Gh.newW
 split
 ·simp
 ·split <;> simp
 ·simp
theorem uHg {N : Nat} {E : Env} {G : Gh} {st : St} {a : Act} {w : World} (hr : Rel E G st a w) (hE : EOk Z N E) {ps : List Pass} {os : OS} {cxs : List X} {vs : List Value}
  (hav : All2 (XRep w G) (cxs.map (X.tr ps)) vs) (htrok : uDI ps cxs=true) (hps : ∀ p ∈ ps,st.box p.n=some p.cs) (hnd : uB1 st ps=true)
  (hos : ∀ e ∈ os,∃ q,ps[e.1]? = some q∧e.2.1 < q.ds.length∧st.own (.b q.n (q.off + e.2.1))=some e.2.2) :
  E.C≤w.heap.size∧All2 (XRep w (G.passedO ps os)) cxs vs∧(∀ b o,(G.passedO ps os).W b o ≠ .none→b < w.heap.size)∧(∀ (j : Nat) (cs : List C),(ps.map Pass.old)[j]? = some cs→uCF w (G.passedO ps os) (.o j) cs) ∧
  (∀ b o n,(G.passedO ps os).W b o = .box n → ∃ j cs k,n = .o j∧(ps.map Pass.old)[j]? = some cs∧k < cs.length∧b=((G.passedO ps os).A n).1∧o=((G.passedO ps os).A n).2 + k) ∧
  (∀ b o p,(G.passedO ps os).W b o = .own p→E.C≤b) ∧
  (∀ e ∈ os,∃ u,w.cell? ⟨((G.passedO ps os).A (.o e.1)).1,((G.passedO ps os).A (.o e.1)).2 + e.2.1,none⟩=some u∧(G.passedO ps os).W ((G.passedO ps os).A (.o e.1)).1 (((G.passedO ps os).A (.o e.1)).2 + e.2.1) = .box (.o e.1) ∧
   OwnAt E.C w (G.passedO ps os) (.b (.o e.1) e.2.1) e.2.2 u)∧GlOk Z w (G.passedO ps os):=by
 have hlen:=uEj hnd
 have hBs : E.B≤w.heap.size:=Nat.le_trans hr.hB hr.fr.size
 have hA : ∀ (j : Nat) (p : Pass),ps[j]? = some p→(G.passedO ps os).A (.o j)=((G.A p.n).1,(G.A p.n).2 + p.off):=fun j p hp=>by simp [Gh.passedO,Gh.passed,hp]
 have hbox : ∀ (j : Nat) (p : Pass),ps[j]? = some p→uCF w G p.n p.cs:=fun j p hj=>hr.bx p.n p.cs (hps p (List.mem_of_getElem? hj))
 refine ⟨Nat.le_trans E.C_le hBs,?_,?_,?_,?_,?_,?_,?_⟩
 ·refine All2.mem_mono (fun x v hx hxv=>?_) (All2.map_left hav)
  refine XRep.mono (G:=G.passed ps) (fun b o hs=>(G.passedO_imm ps os b o).2 ((G.passed_imm ps b o).1 hs)) (fun _ _ _=>rfl) (fun _ _=>rfl) (XRep.tr (List.all_eq_true.1 htrok x hx) hxv)
 ·intro b o hb
  refine hr.wf b o ?_
  intro e
  apply hb
  unfold Gh.passedO Gh.passed
  dsimp only
  rw [e]
 ·intro j cs hj k c hk
  rw [List.getElem?_map] at hj
  cases hp : ps[j]? with
  | none=>rw [hp] at hj; simp at hj
  | some p =>
   rw [hp] at hj
   simp only [Option.map_some,Option.some.injEq] at hj
   subst hj
   unfold Pass.old at hk
   rw [List.getElem?_take] at hk
   split at hk
   ·rename_i hkl
    rw [List.getElem?_drop] at hk
    obtain ⟨h1,h2,v,h3,h4⟩:=hbox j p hp _ c hk
    rw [hA j p hp]
    rw [← Nat.add_assoc] at h1 h2 h3
    exact ⟨Gh.passedO_of_box (Gh.passed_at hnd hp hkl h1) h1,h2,v,h3,h4.mono (fun b o' hs=>(G.passedO_imm ps os b o').2 hs) (fun _ _ _=>rfl)⟩
   ·simp at hk
 ·intro b o' n hn
  obtain ⟨j,p,rfl,hp,hw,h1,h2,h3⟩:=Gh.passed_box (Gh.passedO_box hn)
  have hpl:=hlen p (List.mem_of_getElem? hp)
  refine ⟨j,p.old,o' - ((G.A p.n).2 + p.off),rfl,by rw [List.getElem?_map,hp]; rfl,?_,?_,?_⟩
  ·simp only [Pass.old,List.length_take,List.length_drop]; omega
  ·rw [hA j p hp]; exact h1
  ·rw [hA j p hp]; dsimp only; omega
 ·intro b o r hb
  obtain ⟨p,hp,_⟩:=Gh.passedO_own hb
  rcases Nat.lt_or_ge b E.C with hlt | hge
  ·exact absurd hp ((hr.lo b o (Nat.lt_of_lt_of_le hlt E.C_le)).2 hlt p)
  ·exact hge
 ·intro e he
  obtain ⟨q,hq,hlt,ho⟩:=hos e he
  obtain ⟨u,hu,hown⟩:=hr.ow _ _ ho
  have hu1 : w.cell? ⟨(G.A q.n).1,(G.A q.n).2 + (q.off + e.2.1),none⟩=some u:=hu.1
  have hu2 : G.W (G.A q.n).1 ((G.A q.n).2 + (q.off + e.2.1)) = .box q.n:=hu.2
  rw [← Nat.add_assoc] at hu1 hu2
  rw [hA e.1 q hq]
  refine ⟨u,hu1,Gh.passedO_of_box (Gh.passed_at hnd hq hlt hu2) hu2,?_⟩
  rcases hown with hown | ⟨blk,len,cap,e',q1,q2,q3,q4⟩
  ·exact .inl hown
  ·refine .inr ⟨blk,len,cap,e',q1,⟨q2.1,q2.2.1,fun t k o hh=>by simp at hh⟩,q3,fun o ho1 ho2=>?_⟩
   obtain ⟨q5,q6⟩:=q4 o ho1 ho2
   refine ⟨?_,q6⟩
   unfold Gh.passedO
   dsimp only
   rw [q5]
   dsimp only
   rw [uJx hnd he hq]
 ·intro g hg
  have hgl:=hE.at hr
  refine ⟨(hgl g hg).1,(hgl g hg).2.1,fun o n hn=>?_,fun o p hp=>?_⟩
  ·obtain ⟨j,p,_,_,q,_⟩:=Gh.passed_box (Gh.passedO_box hn)
   exact (hgl g hg).2.2.1 o _ q
  ·obtain ⟨q,hq,_⟩:=Gh.passedO_own hp
   exact (hgl g hg).2.2.2 o q hq
theorem uGF {E : Env} {G G' : Gh} {st : St} {a : Act} {w w' : World} (hr : Rel E G st a w) {ps : List Pass} {os : OS} (hps : ∀ p ∈ ps,st.box p.n=some p.cs) (hnd : uB1 st ps=true)
  (hos : ∀ e ∈ os,∃ q,ps[e.1]? = some q∧e.2.1 < q.ds.length∧st.own (.b q.n (q.off + e.2.1))=some e.2.2)
  (hfr : Fr (fun b o=>(∃ n,(G.passedO ps os).W b o = .box n) ∨ ∃ p,(G.passedO ps os).W b o = .own p) w.heap.size w w') (h1 : ∀ b o,(G.passedO ps os).W b o = .imm→G'.W b o = .imm)
  (h2 : ∀ b o,b < w.heap.size→G'.W b o = .imm→(G.passedO ps os).W b o = .imm ∨ ∃ p,(G.passedO ps os).W b o = .own p) (h3 : ∀ b o,G'.W b o ≠ .none→b < w'.heap.size)
  (h5 : ∀ j,G'.A (.o j)=(G.passedO ps os).A (.o j)) (h6 : ∀ (j : Nat) (cs : List C),(ps.map Pass.ds)[j]? = some cs→uCF w' G' (.o j) cs) (h8 : ∀ b o q,b < w.heap.size→G'.W b o = .own q → ∃ p,(G.passedO ps os).W b o = .own p) :
  Rel E (G.backO G' w.heap.size ps os) (st.stores ps) a w'∧(∀ b o,G'.S b o→(G.backO G' w.heap.size ps os).S b o) ∧
  (∀ (sz : Nat) (u : Value) (e : Nat × Nat × Nat) (q : Pass),ps[e.1]? = some q→q.n.isBd=false→OwnAt E.C w' G' (.b (.o e.1) e.2.1) sz u→OwnAt E.C w' (G.backO G' w.heap.size ps os) (.b q.n (q.off + e.2.1)) sz u) ∧
  (∀ b o n,G.W b o = .box n→(G.backO G' w.heap.size ps os).W b o = .box n):=by
 have hlen:=uEj hnd
 have hBs : E.B≤w.heap.size:=Nat.le_trans hr.hB hr.fr.size
 have hbox : ∀ (j : Nat) (p : Pass),ps[j]? = some p→uCF w G p.n p.cs:=fun j p hj=>hr.bx p.n p.cs (hps p (List.mem_of_getElem? hj))
 let G2:=G.backO G' w.heap.size ps os
 have hng : ∀ b o,(∀ p,G.W b o = .own p→pin ps os p=none)→G.gone ps os b o=false:=fun b o h=>by
  unfold Gh.gone
  split
  ·rename_i p hp; rw [h p hp]; rfl
  ·rfl
 have hW2 : ∀ b o,b < w.heap.size→(∀ p,G.W b o = .own p→pin ps os p=none)→G2.W b o=G.W b o:=fun b o hb h=>by
  show (if _ then _ else _)=_
  rw [if_pos ⟨hb,hng b o h⟩]
 have hW3 : ∀ b o,¬ (b < w.heap.size∧G.gone ps os b o=false)→G2.W b o=Gh.newW ps (G'.W b o):=fun b o h=>by
  show (if _ then _ else _)=_
  rw [if_neg h]
 have hM0 : ∀ b o,((∃ n,(G.passedO ps os).W b o = .box n) ∨ ∃ p,(G.passedO ps os).W b o = .own p)→(∃ p ∈ ps,G.W b o = .box p.n∧b=(G.A p.n).1∧(G.A p.n).2 + p.off≤o∧o < (G.A p.n).2 + p.off + p.ds.length) ∨ ∃ p,G.W b o = .own p∧(pin ps os p).isSome=true:=fun b o h=>by
  rcases h with ⟨n,hn⟩ | ⟨r,hr⟩
  ·obtain ⟨j,p,_,hp,hw,q⟩:=Gh.passed_box (Gh.passedO_box hn)
   exact .inl ⟨p,List.mem_of_getElem? hp,hw,q⟩
  ·obtain ⟨p,hp,hpr⟩:=Gh.passedO_own hr
   exact .inr ⟨p,hp,by rw [hpr]; rfl⟩
 have hnM : ∀ b o,(∀ n,G.W b o ≠ .box n)→(∀ p,G.W b o ≠ .own p) → ¬ ((∃ n,(G.passedO ps os).W b o = .box n) ∨ ∃ p,(G.passedO ps os).W b o = .own p):=fun b o hn ho h=>by
  rcases hM0 b o h with ⟨p,_,q,_⟩ | ⟨p,q,_⟩
  ·exact hn _ q
  ·exact ho _ q
 have hS0 : ∀ b o,G.S b o→G2.S b o:=fun b o hs=>by
  unfold Gh.S at *
  rw [hW2 b o (hr.wf b o (by rw [hs]; simp)) (fun p hp=>by rw [hs] at hp; simp at hp)]
  exact hs
 have hcS : ∀ b o,G.S b o→w'.cell? ⟨b,o,none⟩=w.cell? ⟨b,o,none⟩:=fun b o hs=>by
  unfold Gh.S at hs
  exact hfr.cell b o (hr.wf b o (by rw [hs]; simp)) (hnM b o (fun n=>by rw [hs]; simp) (fun n=>by rw [hs]; simp))
 have hS2 : ∀ b o,G'.S b o→G2.S b o:=fun b o hs=>by
  unfold Gh.S at *
  by_cases hq : b < w.heap.size∧G.gone ps os b o=false
  ·show (if _ then _ else _)=_
   rw [if_pos hq]
   rcases h2 b o hq.1 hs with q | ⟨p,q⟩
   ·exact (G.passedO_imm ps os b o).1 q
   ·obtain ⟨p',q1,q2⟩:=Gh.passedO_own q
    have := hq.2
    unfold Gh.gone at this
    rw [q1] at this
    dsimp only at this
    rw [q2] at this; simp at this
  ·rw [hW3 b o hq,hs]; rfl
 have hbx2 : ∀ b o n,G.W b o = .box n→G2.W b o = .box n:=fun b o n hn=>by
  rw [hW2 b o (hr.wf b o (by rw [hn]; simp)) (fun p hp=>by rw [hn] at hp; simp at hp)]
  exact hn
 refine ⟨?_,hS2,?_,hbx2⟩
 ·constructor
  ·exact hr.df
  ·intro k g x hk
   rw [uDx] at hk
   obtain ⟨v,hv,q1,q2⟩:=hr.tm k g x hk
   exact ⟨v,hv,fun hg=>(q1 hg).mono hS0 hcS (fun _ _=>rfl),q2⟩
  ·intro n cs hn
   by_cases hin : ∃ p ∈ ps,p.n=n
   ·obtain ⟨p,hp,rfl⟩:=hin
    rw [uEs ps st p hnd hp] at hn
    simp only [Option.some.injEq] at hn
    subst hn
    obtain ⟨j,hj⟩:=List.getElem?_of_mem hp
    have hpl:=hlen p hp
    intro k c hk
    rw [uD9 p.cs p.ds p.off k hpl] at hk
    have hkl : k < p.cs.length:=by
     split at hk
     ·rename_i hh; omega
     ·exact (List.getElem?_eq_some_iff.1 hk).1
    obtain ⟨q1,q2,u,q3,q4⟩:=hbox j p hj k _ (List.getElem?_eq_getElem hkl)
    have hlt : (G.A p.n).1 < w.heap.size:=World.block_lt_of_cell? (a:=⟨(G.A p.n).1,(G.A p.n).2 + k,none⟩) w q3
    rw [show (G.backO G' w.heap.size ps os).A p.n=G.A p.n from rfl]
    refine ⟨hbx2 _ _ _ q1,by rw [hfr.frozen _ _ hlt]; exact q2,?_⟩
    split at hk
    ·rename_i hh
     have hb:=h6 j p.ds (by rw [List.getElem?_map,hj]; rfl) (k - p.off) c hk
     rw [h5 j] at hb
     have hA : (G.passedO ps os).A (.o j)=((G.A p.n).1,(G.A p.n).2 + p.off):=by simp [Gh.passedO,Gh.passed,hj]
     rw [hA] at hb
     obtain ⟨_,_,u',b3,b4⟩:=hb
     dsimp only at b3
     rw [show (G.A p.n).2 + p.off + (k - p.off)=(G.A p.n).2 + k by omega] at b3
     exact ⟨u',b3,b4.mono hS2 (fun _ _ _=>rfl)⟩
    ·rename_i hh
     rw [List.getElem?_eq_getElem hkl] at hk
     simp only [Option.some.injEq] at hk
     subst hk
     refine ⟨u,?_,q4.mono hS0 hcS⟩
     show w'.cell? ⟨(G.A p.n).1,(G.A p.n).2 + k,none⟩=_
     rw [hfr.cell _ _ hlt]
     ·exact q3
     ·intro hm
      rcases hM0 _ _ hm with ⟨q,hq,hw,r1,r2,r3⟩ | ⟨q,hq,_⟩
      ·rw [q1] at hw
       simp only [Who.box.injEq] at hw
       obtain ⟨i,hi⟩:=List.getElem?_of_mem hq
       have := uCN hnd i j q p hi hj hw.symm
       subst this
       rw [hj] at hi
       simp only [Option.some.injEq] at hi
       subst hi
       omega
      ·rw [q1] at hq; simp at hq
   ·rw [uBG ps st n (fun p hp e=>hin ⟨p,hp,e⟩)] at hn
    intro k c hk
    obtain ⟨q1,q2,u,q3,q4⟩:=hr.bx n cs hn k c hk
    have hlt : (G.A n).1 < w.heap.size:=World.block_lt_of_cell? (a:=⟨(G.A n).1,(G.A n).2 + k,none⟩) w q3
    rw [show (G.backO G' w.heap.size ps os).A n=G.A n from rfl]
    refine ⟨hbx2 _ _ _ q1,by rw [hfr.frozen _ _ hlt]; exact q2,u,?_,q4.mono hS0 hcS⟩
    show w'.cell? ⟨(G.A n).1,(G.A n).2 + k,none⟩=_
    rw [hfr.cell _ _ hlt]
    ·exact q3
    ·intro hm
     rcases hM0 _ _ hm with ⟨q,hq,hw,_⟩ | ⟨q,hq,_⟩
     ·rw [q1] at hw
      simp only [Who.box.injEq] at hw
      exact hin ⟨q,hq,hw.symm⟩
     ·rw [q1] at hq; simp at hq
  ·intro p sz hp
   obtain ⟨hp1,hp2⟩:=uEx ps st p sz hp
   have hpn : pin ps os p=none:=by
    cases hpi : pin ps os p with
    | none=>rfl
    | some r =>
     exfalso
     obtain ⟨e,he,_,q,hq,rfl⟩:=uGT hpi
     obtain ⟨q',hq',hlt,_⟩:=hos e he
     rw [hq] at hq'
     simp only [Option.some.injEq] at hq'
     subst hq'
     have := hp2 q (List.mem_of_getElem? hq)
     simp only [Pl.inCells,Nm.beq_self,Bool.true_and,Bool.and_eq_false_iff] at this
     rcases this with this | this
     ·have : ¬ q.off≤q.off + e.2.1:=fun hle=>by rw [Nat.ble_eq_true_of_le hle] at this; simp at this
      omega
     ·have : ¬ q.off + e.2.1 + 1≤q.off + q.ds.length:=fun hle=>by rw [Nat.ble_eq_true_of_le hle] at this; simp at this
      omega
   obtain ⟨v,hv,hov⟩:=hr.ow p sz hp1
   refine ⟨v,?_,?_⟩
   ·cases p with
    | t k=>exact hv
    | b n off =>
     have hlt:=ValAt.lt hr hp1 rfl
     refine ⟨?_,hbx2 _ _ _ hv.2⟩
     show w'.cell? ⟨(G.A n).1,(G.A n).2 + off,none⟩=_
     rw [hfr.cell _ _ hlt]
     ·exact hv.1
     ·intro hm
      have hv2:=hv.2
      rcases hM0 _ _ hm with ⟨q,hq,hw,r1,r2,r3⟩ | ⟨q,hq,_⟩
      ·rw [hv2] at hw
       simp only [Who.box.injEq] at hw
       subst hw
       have := hp2 q hq
       simp only [Pl.inCells,Nm.beq_self,Bool.true_and,Bool.and_eq_false_iff] at this
       rcases this with this | this
       ·have : ¬ q.off≤off:=fun hle=>by rw [Nat.ble_eq_true_of_le hle] at this; simp at this
        omega
       ·have : ¬ off + 1≤q.off + q.ds.length:=fun hle=>by rw [Nat.ble_eq_true_of_le hle] at this; simp at this
        omega
      ·rw [hv2] at hq; simp at hq
   ·rcases hov with hov | ⟨blk,len,cap,e,q1,q2,q3,q4⟩
    ·exact .inl hov
    ·have hlt : blk < w.heap.size:=by
      rcases Nat.lt_or_ge blk w.heap.size with hx | hx
      ·exact hx
      ·have q3:=q3.1; simp [World.shape?,Array.getElem?_eq_none hx] at q3
     refine .inr ⟨blk,len,cap,e,q1,q2,⟨by rw [hfr.shape blk hlt]; exact q3.1,by rw [hfr.mark blk hlt]; exact q3.2⟩,fun o ho1 ho2=>?_⟩
     obtain ⟨q5,q6⟩:=q4 o ho1 ho2
     refine ⟨?_,by rw [hfr.frozen blk o hlt]; exact q6⟩
     rw [hW2 blk o hlt (fun p' hp'=>by rw [q5] at hp'; simp only [Who.own.injEq] at hp'; subst hp'; exact hpn)]
     exact q5
  ·intro b o hb
   by_cases hq : b < w.heap.size∧G.gone ps os b o=false
   ·exact Nat.lt_of_lt_of_le hq.1 hfr.size
   ·rw [hW3 b o hq] at hb
    refine h3 b o ?_
    intro e; rw [e] at hb; exact hb rfl
  ·intro b o n hb hn
   by_cases hq : b < w.heap.size∧G.gone ps os b o=false
   ·have : G2.W b o=G.W b o:=by show (if _ then _ else _)=_; rw [if_pos hq]
    rw [this] at hn
    exact hr.olB b o n hb hn
   ·rw [hW3 b o hq] at hn
    exact absurd hn Gh.newW_box
  ·intro b o p hb hn
   by_cases hq : b < w.heap.size∧G.gone ps os b o=false
   ·have : G2.W b o=G.W b o:=by show (if _ then _ else _)=_; rw [if_pos hq]
    rw [this] at hn
    exact hr.olO b o p hb hn
   ·have hg : G.gone ps os b o=true:=by
     cases hgg : G.gone ps os b o with
     | true=>rfl
     | false=>exact absurd ⟨by omega,hgg⟩ hq
    obtain ⟨p',hp',_⟩:=Gh.gone_own hg
    exact hr.olO b o p' hb hp'
  ·exact hr.nt
  ·exact hr.oA
  ·intro b o hi
   exact hS0 b o (hr.im b o hi)
  ·intro b o hb hi
   by_cases hq : b < w.heap.size∧G.gone ps os b o=false
   ·have : G2.W b o=G.W b o:=by show (if _ then _ else _)=_; rw [if_pos hq]
    rw [this] at hi
    exact hr.im' b o hb hi
   ·have hg : G.gone ps os b o=true:=by
     cases hgg : G.gone ps os b o with
     | true=>rfl
     | false=>exact absurd ⟨by omega,hgg⟩ hq
    obtain ⟨p',hp',_⟩:=Gh.gone_own hg
    exact .inr (hr.olO b o p' hb hp')
  ·refine hr.fr.trans (hfr.mono hBs fun b o hb hm=>?_)
   rcases hM0 b o hm with ⟨q,hq,hw,_⟩ | ⟨q,hq,_⟩
   ·exact hr.olB b o _ hb hw
   ·exact .inr (hr.olO b o _ hb hq)
  ·exact hr.hB
  ·intro b o hb
   by_cases hq : b < w.heap.size∧G.gone ps os b o=false
   ·have : G2.W b o=G.W b o:=by show (if _ then _ else _)=_; rw [if_pos hq]
    show (∀ n,G2.W b o = .box n→_)∧(b < E.C → ∀ p,G2.W b o ≠ .own p)
    rw [this]
    exact hr.lo b o hb
   ·have hg : G.gone ps os b o=true:=by
     cases hgg : G.gone ps os b o with
     | true=>rfl
     | false=>exact absurd ⟨by omega,hgg⟩ hq
    obtain ⟨p',hp',_⟩:=Gh.gone_own hg
    refine ⟨fun n hn=>?_,fun hbc=>absurd hp' ((hr.lo b o hb).2 hbc p')⟩
    have hn2 : G2.W b o = .box n:=hn
    rw [hW3 b o hq] at hn2
    exact absurd hn2 Gh.newW_box
  ·intro t k cs hn hne
   have hnp : ∀ p ∈ ps,p.n ≠ .bd t k:=fun p hp e=>by
    have := uDU hnd p hp
    rw [e] at this; simp [Nm.isBd] at this
   rw [uBG ps st _ hnp] at hn
   obtain ⟨q1,q2,x,q3,q4⟩:=hr.bd t k cs hn hne
   have hlt : (G.A (.bd t k)).1 < w.heap.size:=World.block_lt_of_cell? (a:=⟨(G.A (.bd t k)).1,0,none⟩) w q3
   obtain ⟨c0,hc0⟩ : ∃ c0,cs[0]? = some c0:=by
    cases cs with
    | nil=>exact absurd rfl hne
    | cons c0 r=>exact ⟨c0,rfl⟩
   obtain ⟨r1,_⟩:=hr.bx _ cs hn 0 c0 hc0
   rw [q1] at r1
   show (G.A (.bd t k)).2=0∧w'.shape? (G.A (.bd t k)).1=_ ∧ ∃ x,w'.cell? ⟨(G.A (.bd t k)).1,0,none⟩=some (.pointer x)∧(x=none∨x=some ⟨(G.A (.bd t k)).1,0,none⟩)
   rw [hfr.shape _ hlt]
   refine ⟨q1,q2,x,?_,q4⟩
   rw [hfr.cell _ _ hlt]
   ·exact q3
   ·intro hm
    rcases hM0 _ _ hm with ⟨q,hq,hw,_⟩ | ⟨q,hq,_⟩
    ·rw [Nat.zero_add] at r1
     rw [r1] at hw
     simp only [Who.box.injEq] at hw
     exact hnp q hq hw.symm
    ·rw [Nat.zero_add] at r1
     rw [r1] at hq; simp at hq
  ·intro x hx
   rw [uE6] at hx
   obtain ⟨q1,q2,q3⟩:=hr.mp x hx
   have hlt:=q1.lt
   refine ⟨q1.of_same (hfr.block _ hlt fun o=>hnM _ o (q3 o).1 (q3 o).2),q2,fun o=>?_⟩
   show (∀ n,G2.W x.1 o ≠ .box n) ∧ ∀ p,G2.W x.1 o ≠ .own p
   rw [hW2 _ o hlt (fun p hp=>absurd hp ((q3 o).2 p))]
   exact q3 o
 ·intro sz u e q hq hbd ho
  rcases ho with ho | ⟨blk,len,cap,e',q1,q2,q3,q4⟩
  ·exact .inl ho
  ·refine .inr ⟨blk,len,cap,e',q1,⟨q2.1,q2.2.1,fun t k o hh=>?_⟩,q3,fun o ho1 ho2=>?_⟩
   ·simp only [Pl.b.injEq] at hh
    rw [hh.1] at hbd; simp [Nm.isBd] at hbd
   ·obtain ⟨q5,q6⟩:=q4 o ho1 ho2
    refine ⟨?_,q6⟩
    have hno : ¬ (blk < w.heap.size∧G.gone ps os blk o=false):=by
     rintro ⟨hlt,hg⟩
     obtain ⟨p,hp⟩:=h8 blk o _ hlt q5
     obtain ⟨p',r1,r2⟩:=Gh.passedO_own hp
     unfold Gh.gone at hg
     rw [r1] at hg
     dsimp only at hg
     rw [r2] at hg; simp at hg
    show G2.W blk o=_
    rw [hW3 blk o hno,q5]
    simp [Gh.newW,pout,hq]
theorem Rel.addOwns {E : Env} {G : Gh} {st : St} {a : Act} {w : World} (h : Rel E G st a w) {l : List (Pl × Nat)} (hl : ∀ x ∈ l,∃ v,ValAt a w G x.1 v∧OwnAt E.C w G x.1 x.2 v) : Rel E G { st with ow:=l++st.ow } a w where
 df:=h.df
 tm:=h.tm
 bx:=h.bx
 ow:=by
  intro p sz hp
  have hp2 : getO (l++st.ow) p=some sz:=hp
  clear hp
  induction l with
  | nil=>exact h.ow p sz hp2
  | cons x r ih =>
   rw [List.cons_append,uBL] at hp2
   split at hp2
   ·rename_i he
    simp only [Option.some.injEq] at hp2
    subst he; subst hp2
    exact hl x (by simp)
   ·exact ih (fun y hy=>hl y (by simp [hy])) hp2
 wf:=h.wf
 olB:=h.olB
 olO:=h.olO
 nt:=h.nt
 oA:=h.oA
 im:=h.im
 im':=h.im'
 fr:=h.fr
 hB:=h.hB
 lo:=h.lo
 bd:=h.bd
 mp:=h.mp
def osPl (ps : List Pass) (os : OS) : List (Pl × Nat):=os.filterMap fun e=>(ps[e.1]?).map fun q=>(.b q.n (q.off + e.2.1),e.2.2)
def osB (ps : List Pass) (os : OS) (st : St) : Bool:=os.all fun e=>match ps[e.1]? with
 | some q=>Nat.ble (e.2.1 + 1) q.ds.length && (match st.own (.b q.n (q.off + e.2.1)) with | some s=>Nat.beq s e.2.2 | none=>false)
 | none=>false
theorem uLR {ps : List Pass} {os : OS} {st : St} (h : osB ps os st=true) : ∀ e ∈ os,∃ q,ps[e.1]? = some q∧e.2.1 < q.ds.length∧st.own (.b q.n (q.off + e.2.1))=some e.2.2:=by
 intro e he
 have := List.all_eq_true.1 h e he
 split at this
 ·rename_i q hq
  rw [Bool.and_eq_true] at this
  obtain ⟨h1,h2⟩:=this
  split at h2
  ·rename_i s hs
   exact ⟨q,hq,Nat.le_of_ble_eq_true h1,by rw [hs,Nat.eq_of_beq_eq_true h2]⟩
  ·simp at h2
 ·simp at this
theorem uKL {N : Nat} {ops : Array Oper} {st : St} {o : Oper} {d : Nat} {fo : Operand} {args : Array Operand} {ts : Array TypeId} {f : FuncId} {xs cxs : List X} {res : X} {ps : List Pass} {os : OS}
  (ho : o.op = .call { callee:=.value fo,args:=args,argTypes:=ts }) (hg : uA3 ops st o=some true)
  (hf : lk Z.T st 0 fo=some (true, .fn f [])) (ha : uBV Z.T st ts.toList args.toList=some (true,xs)) (htr : cxs.map (X.tr ps)=xs) (htrok : uDI ps cxs=true)
  (hps : ∀ p ∈ ps,st.box p.n=some p.cs) (hnd : uB1 st ps=true) (hosb : osB ps os st=true)
  (hs : CtrO Z f cxs (ps.map Pass.old) os res (ps.map Pass.ds) .box) (hc : res.clean=true) (hd : o.dst=some d) (hN : Nat.ble (d + 1) N=true) :
  Op1 Z N ops o st (({ st.stores ps with ow:=osPl ps os++(st.stores ps).ow } : St).put d (true,res)):=by
 intro E G a w hr hE K' Q' hK
 rw [uBs hr hg]
 simp only [if_true]
 obtain ⟨cvs,hfv,hcv⟩:=uAS hr hf rfl
 have hcv0 : cvs=[]:=by cases cvs with
  | nil=>rfl
  | cons _ _=>exact hcv.elim
 subst hcv0
 have hav:=uCI hr ha rfl
 obtain ⟨hen,hsp⟩:=hs
 unfold Oper.wp
 rw [uDm ho hfv hen,Oper.upon_enter]
 rw [← htr] at hav
 have hos:=uLR hosb
 obtain ⟨p1,p2,p3,p4,p5,p6,p7,p8⟩:=uHg hr hE hav htrok hps hnd hos
 rw [List.append_nil]
 refine (hsp E.C w _ _ p1 p2 p3 p4 p5 p6 p7 p8).mono ?_
 rintro e w' ⟨v,G',rfl,hfr,h1,h2,h3,h4,h5,h6,h7,h8⟩
 dsimp only
 obtain ⟨hrel,hS2,hown,hbx⟩:=uGF hr hps hnd hos hfr h1 h2 h3 h5 h6 h8
 have hX : XRep w' (G.backO G' w.heap.size ps os) res v:=h4.mono hS2 (fun _ _ _=>rfl) (fun n hn=>by rw [X.clean_has hc n] at hn; simp at hn)
 rw [hd] at hK ⊢
 have hdN : d < E.nt:=by rw [hE.nt]; exact Nat.le_of_ble_eq_true hN
 refine hK _ v w' ((hrel.addOwns (l:=osPl ps os) ?_).put hdN (g:=true) (fun _=>hX) (fun hf=>by simp at hf))
 intro x hx
 obtain ⟨e,he,hex⟩:=List.mem_filterMap.1 hx
 obtain ⟨q,hq,hlt,hqo⟩:=hos e he
 rw [hq] at hex
 simp only [Option.map_some,Option.some.injEq] at hex
 subst hex
 obtain ⟨u,hu,huo⟩:=h7 e he
 have hA : (G.passedO ps os).A (.o e.1)=((G.A q.n).1,(G.A q.n).2 + q.off):=by simp [Gh.passedO,Gh.passed,hq]
 have hu2 : w'.cell? ⟨(G'.A (.o e.1)).1,(G'.A (.o e.1)).2 + e.2.1,none⟩=some u:=hu
 rw [h5,hA] at hu2
 dsimp only at hu2
 rw [Nat.add_assoc] at hu2
 obtain ⟨u0,hu0,_⟩:=hr.ow _ _ hqo
 exact ⟨u,⟨hu2,hbx _ _ _ hu0.2⟩,hown _ u e q hq (uDU hnd q (List.mem_of_getElem? hq)) huo⟩
theorem uC7 {N : Nat} {ops : Array Oper} {rest : List Oper} {K : St→Prop} {st : St} {o : Oper} {d : Nat} {fo : Operand} {args : Array Operand} {ts : Array TypeId} {f : FuncId} {xs cxs : List X} {res : X} (ps : List Pass) (os : OS)
  (ho : o.op = .call { callee:=.value fo,args:=args,argTypes:=ts }) (hg : uA3 ops st o=some true)
  (hf : lk Z.T st 0 fo=some (true, .fn f [])) (ha : uBV Z.T st ts.toList args.toList=some (true,xs)) (htr : cxs.map (X.tr ps)=xs) (htrok : uDI ps cxs=true)
  (hps : ∀ p ∈ ps,st.box p.n=some p.cs) (hnd : uB1 st ps=true) (hosb : osB ps os st=true)
  (hs : CtrO Z f cxs (ps.map Pass.old) os res (ps.map Pass.ds) .box) (hc : res.clean=true) (hd : o.dst=some d) (hN : Nat.ble (d + 1) N=true)
  (h : AL Z N ops rest K (({ st.stores ps with ow:=osPl ps os++(st.stores ps).ow } : St).put d (true,res))) : AL Z N ops (o :: rest) K st :=
 uCS (uKL ho hg hf ha htr htrok hps hnd hosb hs hc hd hN) h
end Go.Abs
namespace Go.Abs
variable {Z : Pg}
theorem Rel.reBox {E : Env} {G : Gh} {st : St} {a : Act} {w : World} (h : Rel E G st a w) {n : Nm} {cs : List C} {i : Nat} {c c' : C} (hb : st.box n=some cs) (hc : cs[i]? = some c) (hx : ∀ v,w.cell? ⟨(G.A n).1,(G.A n).2 + i,none⟩=some v→CRep w G.S c v→CRep w G.S c' v) :
  Rel E G { st with bx:=(n,cs.set i c') :: st.bx } a w where
 df:=h.df
 tm:=h.tm
 bx:=by
  intro m ds hm
  have hm2 : getB ((n,cs.set i c') :: st.bx) m=some ds:=hm
  rw [uA0] at hm2
  split at hm2
  ·rename_i he
   subst he
   simp only [Option.some.injEq] at hm2
   subst hm2
   intro j d hj
   rw [List.getElem?_set] at hj
   split at hj
   ·rename_i hij
    subst hij
    obtain ⟨q1,q2,v,q3,q4⟩:=h.bx n cs hb i c hc
    split at hj
    ·simp only [Option.some.injEq] at hj
     subst hj
     exact ⟨q1,q2,v,q3,hx v q3 q4⟩
    ·simp at hj
   ·exact h.bx n cs hb j d hj
  ·exact h.bx m ds hm2
 ow:=h.ow
 wf:=h.wf
 olB:=h.olB
 olO:=h.olO
 nt:=h.nt
 oA:=h.oA
 im:=h.im
 im':=h.im'
 fr:=h.fr
 hB:=h.hB
 lo:=h.lo
 bd:=by
  intro t k ds hm hne
  have hm2 : getB ((n,cs.set i c') :: st.bx) (.bd t k)=some ds:=hm
  rw [uA0] at hm2
  split at hm2
  ·rename_i he
   subst he
   refine h.bd t k cs hb ?_
   intro e; subst e; simp at hc
  ·exact h.bd t k ds hm2 hne
 mp:=h.mp
theorem Rel.name {E : Env} {G : Gh} {st : St} {a : Act} {w : World} (h : Rel E G st a w) {n : Nm} {cs : List C} {i sz : Nat} {es : List (List C)} (hb : st.box n=some cs) (hc : cs[i]? = some (.sl sz es)) :
  ∃ u,Rel E G { st with bx:=(n,cs.set i (.so u sz es)) :: st.bx } a w:=by
 obtain ⟨_,_,v,q3,q4⟩:=h.bx n cs hb i _ hc
 refine ⟨v,h.reBox hb hc fun v' hv' hr=>?_⟩
 rw [q3] at hv'
 simp only [Option.some.injEq] at hv'
 subst hv'
 exact .so _ _ _ hr
theorem uDY (b : Nat) : ∀ (vs : List Value) (o : Nat) (w : World) (x : Nat),(w.setCells b o vs).shape? x=w.shape? x
 | [],_,_,_=>rfl
 | v :: vs,o,w,x=>by rw [World.setCells,uDY b vs]; exact uBE _ _ _ _
theorem uEo (b : Nat) : ∀ (vs : List Value) (o : Nat) (w : World) (x : Nat),uBo (w.setCells b o vs) x=uBo w x
 | [],_,_,_=>rfl
 | v :: vs,o,w,x=>by rw [World.setCells,uEo b vs]; exact uCC _ _ _ _
theorem OwnAt.setCells {B : Nat} {w : World} {G : Gh} {p : Pl} {sz : Nat} {v : Value} (h : OwnAt B w G p sz v) (b o : Nat) (vs : List Value) : OwnAt B (w.setCells b o vs) G p sz v:=by
 rcases h with h | ⟨blk,len,cap,e,q1,q2,q3,q4⟩
 ·exact .inl h
 ·exact .inr ⟨blk,len,cap,e,q1,q2,⟨by rw [uDY]; exact q3.1,by rw [uEo]; exact q3.2⟩,fun o' h1 h2=>⟨(q4 o' h1 h2).1,by rw [World.frozen?_setCells]; exact (q4 o' h1 h2).2⟩⟩
end Go.Abs
namespace Go.Abs
variable {Z : Pg}
theorem uGX {f : FuncId} {l : List UInt8} {rest : List X} {bs bs' : List (List C)} {res : X} {ro : Option Nat} (hen : Enters Z f) (h : l.length≤9223372036854775807→Ctr Z f (.v (.c (.s l)) :: rest) bs res ro bs') : Ctr Z f (.v (.c (.s l)) :: rest) bs res ro bs':=by
 refine ⟨hen,fun w G vs hvs=>?_⟩
 match vs,hvs with
 | v :: vs,hvs =>
  have h1 : CRep w G.S (.s l) v:=hvs.1
  exact (h h1.strMax).2 w G (v :: vs) hvs
theorem uGG {f : FuncId} {args : List X} {bs bs' : List (List C)} {res : X} {ro : Option Nat} (h : Ctr Z f args bs res ro bs') : Enters Z f:=h.1
end Go.Abs
namespace Go.Proofs.YtnjjdbapadkomaaGreatDoor
open Go Go.Abs
def tab : List (Option TyI):=[none,
 none,
 some { n:=1,agg:=false,offs:=[],el:=none,z:=[.i .i64 0] },
 some { n:=1,agg:=false,offs:=[],el:=none,z:=[.i .i64 0] },
 some { n:=1,agg:=false,offs:=[],el:=none,z:=[.b false] },
 some { n:=1,agg:=false,offs:=[],el:=none,z:=[.i .u8 0] },
 some { n:=1,agg:=false,offs:=[],el:=none,z:=[.i .u8 0] },
 some { n:=4,agg:=true,offs:=[0,1,2,3],el:=none,z:=[.i .i64 0, .i .i64 0, .b false, .i .u8 0] },
 some { n:=4,agg:=true,offs:=[0,1,2,3],el:=none,z:=[.i .i64 0, .i .i64 0, .b false, .i .u8 0] },
 some { n:=1,agg:=false,offs:=[],el:=none,z:=[.s []] },
 some { n:=1,agg:=false,offs:=[],el:=none,z:=[.s []] },
 some { n:=1,agg:=false,offs:=[],el:=none,z:=[.s []] },
 some { n:=1,agg:=false,offs:=[],el:=none,z:=[.i .u64 0] },
 some { n:=2,agg:=true,offs:=[0,1],el:=none,z:=[.s [], .i .u64 0] },
 some { n:=2,agg:=true,offs:=[0,1],el:=none,z:=[.s [], .i .u64 0] },
 some { n:=1,agg:=false,offs:=[],el:=none,z:=[.o (.pointer none)] },
 some { n:=1,agg:=false,offs:=[],el:=none,z:=[.o (.pointer none)] },
 some { n:=1,agg:=false,offs:=[],el:=none,z:=[.o (.pointer none)] },
 some { n:=1,agg:=true,offs:=[0],el:=none,z:=[.o (.pointer none)] },
 some { n:=1,agg:=true,offs:=[0],el:=none,z:=[.o (.pointer none)] },
 none,
 some { n:=1,agg:=false,offs:=[],el:=none,z:=[.i .i32 0] },
 some { n:=1,agg:=false,offs:=[],el:=some (9,1,16),z:=[.sl 1 []] },
 some { n:=1,agg:=false,offs:=[],el:=some (73,3,40),z:=[.sl 3 []] },
 some { n:=1,agg:=false,offs:=[],el:=some (67,7,96),z:=[.sl 7 []] },
 some { n:=1,agg:=false,offs:=[],el:=some (70,5,72),z:=[.sl 5 []] },
 some { n:=6,agg:=true,offs:=[0,1,2,3,4,5],el:=none,z:=[.s [], .sl 1 [], .sl 3 [], .sl 1 [], .sl 7 [], .sl 5 []] },
 some { n:=6,agg:=true,offs:=[0,1,2,3,4,5],el:=none,z:=[.s [], .sl 1 [], .sl 3 [], .sl 1 [], .sl 7 [], .sl 5 []] },
 none,
 none,
 some { n:=1,agg:=false,offs:=[],el:=none,z:=[.i .i64 0] },
 none,
 none,
 none,
 none,
 none,
 none,
 some { n:=1,agg:=false,offs:=[],el:=some (39,4,56),z:=[.sl 4 []] },
 some { n:=4,agg:=true,offs:=[0,1,2,3],el:=none,z:=[.i .i64 0, .s [], .i .i64 0, .sl 4 []] },
 some { n:=4,agg:=true,offs:=[0,1,2,3],el:=none,z:=[.i .i64 0, .s [], .i .i64 0, .sl 4 []] },
 none,
 none,
 none,
 none,
 none,
 some { n:=1,agg:=false,offs:=[],el:=some (5,1,1),z:=[.sl 1 []] },
 some { n:=1,agg:=false,offs:=[],el:=some (50,5,56),z:=[.sl 5 []] },
 none,
 none,
 some { n:=5,agg:=true,offs:=[0,1,2,3,4],el:=none,z:=[.i .i64 0, .s [], .i .i64 0, .s [], .i .i64 0] },
 some { n:=5,agg:=true,offs:=[0,1,2,3,4],el:=none,z:=[.i .i64 0, .s [], .i .i64 0, .s [], .i .i64 0] },
 none,
 none,
 none,
 none,
 none,
 none,
 some { n:=1,agg:=false,offs:=[],el:=some (3,1,8),z:=[.sl 1 []] },
 none,
 none,
 none,
 none,
 none,
 none,
 none,
 none,
 some { n:=7,agg:=true,offs:=[0,1,2,6],el:=none,z:=[.s [], .s [], .i .i64 0, .s [], .i .i64 0, .sl 4 [], .i .i64 0] },
 some { n:=7,agg:=true,offs:=[0,1,2,6],el:=none,z:=[.s [], .s [], .i .i64 0, .s [], .i .i64 0, .sl 4 [], .i .i64 0] },
 none,
 some { n:=5,agg:=true,offs:=[0,1,2,3,4],el:=none,z:=[.i .i64 0, .s [], .s [], .sl 4 [], .i .i64 0] },
 some { n:=5,agg:=true,offs:=[0,1,2,3,4],el:=none,z:=[.i .i64 0, .s [], .s [], .sl 4 [], .i .i64 0] },
 none,
 some { n:=3,agg:=true,offs:=[0,1,2],el:=none,z:=[.s [], .s [], .i .i64 0] },
 some { n:=3,agg:=true,offs:=[0,1,2],el:=none,z:=[.s [], .s [], .i .i64 0] },
 none,
 some { n:=1,agg:=false,offs:=[],el:=none,z:=[.o (.pointer none)] },
 none,
 none,
 none,
 none,
 none,
 none,
 none,
 none,
 some { n:=1,agg:=false,offs:=[],el:=none,z:=[.o (.pointer none)] },
 some { n:=3,agg:=true,offs:=[0,1,2],el:=none,z:=[.sl 5 [], .i .i64 0, .b false] },
 some { n:=3,agg:=true,offs:=[0,1,2],el:=none,z:=[.sl 5 [], .i .i64 0, .b false] },
 none,
 none,
 none,
 some { n:=1,agg:=false,offs:=[],el:=none,z:=[.o (.pointer none)] },
 none,
 none,
 none,
 none,
 some { n:=3,agg:=true,offs:=[0,1,2],el:=none,z:=[.sl 5 [], .i .i64 0, .b false] },
 some { n:=3,agg:=true,offs:=[0,1,2],el:=none,z:=[.sl 5 [], .i .i64 0, .b false] },
 none,
 none,
 none,
 none,
 none,
 none,
 none,
 none,
 none,
 none,
 none,
 none,
 none,
 none,
 none,
 none,
 none,
 none,
 none,
 none,
 none,
 none,
 some { n:=1,agg:=false,offs:=[],el:=none,z:=[.o (.pointer none)] },
 some { n:=2,agg:=true,offs:=[0,1],el:=none,z:=[.o (.pointer none), .sl 1 []] },
 some { n:=2,agg:=true,offs:=[0,1],el:=none,z:=[.o (.pointer none), .sl 1 []] },
 none,
 none,
 none,
 none,
 none,
 none,
 none,
 none,
 none,
 none,
 none,
 none,
 none,
 none,
 none,
 none,
 none,
 none,
 none,
 none,
 none,
 none,
 none,
 none,
 none,
 none,
 none,
 none,
 some { n:=1,agg:=false,offs:=[],el:=none,z:=[.o (.pointer none)] },
 none,
 none,
 none,
 none,
 none,
 none,
 none,
 none,
 none,
 none,
 none,
 some { n:=1,agg:=false,offs:=[],el:=none,z:=[.o (.pointer none)] },
 none,
 none,
 none,
 none,
 none,
 some { n:=1,agg:=false,offs:=[],el:=none,z:=[.o (.pointer none)] },
 none,
 none,
 none,
 none,
 none,
 none,
 none,
 none,
 none,
 none,
 none,
 none,
 none,
 none,
 none,
 none,
 some { n:=1,agg:=false,offs:=[],el:=none,z:=[.i .u64 0] },
 none,
 some { n:=2,agg:=true,offs:=[0,1],el:=none,z:=[.i .u8 0, .i .u8 0] },
 some { n:=2,agg:=true,offs:=[0,1],el:=none,z:=[.i .u8 0, .i .u8 0] },
 none,
 none,
 some { n:=1,agg:=false,offs:=[],el:=none,z:=[.i .u32 0] },
 none,
 none,
 some { n:=4,agg:=true,offs:=[0,1,2,3],el:=none,z:=[.o (.pointer none), .o (.pointer none), .o (.pointer none), .s []] },
 some { n:=4,agg:=true,offs:=[0,1,2,3],el:=none,z:=[.o (.pointer none), .o (.pointer none), .o (.pointer none), .s []] },
 none,
 none,
 none,
 some { n:=1,agg:=false,offs:=[],el:=none,z:=[.i .u8 0] },
 some { n:=1,agg:=false,offs:=[],el:=none,z:=[.i .u8 0] },
 none,
 some { n:=1,agg:=false,offs:=[],el:=none,z:=[.i .i32 0] },
 some { n:=1,agg:=false,offs:=[],el:=none,z:=[.i .i32 0] },
 some { n:=11,agg:=true,offs:=[0,1,2,3,4,5,6,7,8,9,10],el:=none,z:=[.i .u64 0, .i .u64 0, .i .u32 0, .i .u8 0, .i .u8 0, .i .u8 0, .i .u8 0, .o .nilFunc, .o (.pointer none), .i .i32 0, .i .i32 0] },
 some { n:=11,agg:=true,offs:=[0,1,2,3,4,5,6,7,8,9,10],el:=none,z:=[.i .u64 0, .i .u64 0, .i .u32 0, .i .u8 0, .i .u8 0, .i .u8 0, .i .u8 0, .o .nilFunc, .o (.pointer none), .i .i32 0, .i .i32 0] }]
theorem uL7 : uDb Tryz.prog 0 tab=true:=by kernel_rfl
theorem uId : Tryz.prog.follows .mixedOrders=true:=by kernel_rfl
noncomputable def sys : Pg:={ P:=Tryz.prog,T:=tab,ok:=uL7,mix:=uId,gv:=[(0,intAt)] }
theorem nn : (∀ a b : Bool,((a && b)=true)=(a=true∧b=true))∧(∀ a b : Bool,((a || b)=true)=(a=true∨b=true))∧(∀ b : Bool,((!b)=true)=(b=false))∧(∀ b : Bool,((!b)=false)=(b=true)) ∧
  (∀ x y : Bool,(x || y)=false ↔ x=false∧y=false)∧(∀ x y : Bool,(x && y)=false ↔ x=false∨y=false)∧(∀ (p : Prop) [Decidable p],(decide p=true)=p)∧(∀ (p : Prop) (x : Decidable p),decide p=false ↔ ¬p) ∧
  (∀ (α : Type) [BEq α] [LawfulBEq α] (a b : α),(a == b)=true ↔ a=b)∧(∀ (α : Type) [BEq α] [LawfulBEq α] (a b : α),(a == b)=false ↔ a≠b)∧(∀ (α : Type) [BEq α] [LawfulBEq α] (a b : α),(a != b)=true ↔ a≠b) ∧
  (∀ (α : Type) [BEq α] [LawfulBEq α] (a b : α),(a != b)=false ↔ a=b)∧(∀ (α : Type) (a b : α),(a≠b) = ¬a=b)∧(∀ (p : Prop) [Decidable p],¬¬p ↔ p)∧((!true)=false)∧(!false)=true :=
 ⟨Bool.and_eq_true,Bool.or_eq_true,Bool.not_eq_true',Bool.not_eq_false',fun _ _=>Bool.or_eq_false_iff,fun _ _=>Bool.and_eq_false_iff,fun _ _=>decide_eq_true_eq,fun _ _=>decide_eq_false_iff_not,fun _ _ _ _ _=>beq_iff_eq,fun _ _ _ _ _=>beq_eq_false_iff_ne,
  fun _ _ _ _ _=>bne_iff_ne,fun _ _ _ _ _=>bne_eq_false_iff_eq,fun _ a b=>ne_eq a b,fun _ _=>Decidable.not_not,rfl,rfl⟩
abbrev xi (n : Int) : X:=.v (.c (.i .i64 n))
abbrev xb (b : Bool) : X:=.v (.c (.b b))
abbrev xs (l : List UInt8) : X:=.v (.c (.s l))
theorem uA9 {a b : Int} (h : a=b) : xi a=xi b:=by rw [h]
theorem tx {x y : X} (h : x=y) : (true,x)=(true,y):=by rw [h]
theorem uCu {a b : Bool} (h : a=b) : xb a=xb b:=by rw [h]
end Go.Proofs.YtnjjdbapadkomaaGreatDoor
namespace Go.Proofs.YtnjjdbapadkomaaGreatDoor
open Go Go.Abs
abbrev xu (n : Int) : X:=.v (.c (.i .u8 n))
def uBd (n : Int) : Bool:=(decide (97≤n) && decide (n≤122)) || (decide (65≤n) && decide (n≤90))
def uBt (n : Int) : Bool:=decide (48≤n) && decide (n≤57)
def uBN (n : Int) : Bool:=((uBd n || uBt n) || n == 95) || n == 35
def uCB (l : List UInt8) : Bool:=decide (l.length≠0) && decide (l.length≤24) && uBd ((l.getD 0 0).toNat : Int) && l.all fun b=>uBN (b.toNat : Int)
theorem uA6 {l : List UInt8} {k : Nat} (h : k < l.length) : l.drop k=l.getD k 0 :: l.drop (k + 1):=by
 rw [List.drop_eq_getElem_cons h,List.getD_eq_getElem?_getD,List.getElem?_eq_getElem h]; rfl
theorem uMz {l : List UInt8} {p : UInt8→Bool} (h : ∀ j,j < l.length→p (l.getD j 0)=true) : l.all p=true:=by
 rw [List.all_eq_true]
 intro x hx
 obtain ⟨j,hj⟩:=List.getElem?_of_mem hx
 have hlt:=(List.getElem?_eq_some_iff.1 hj).1
 have := h j hlt
 rwa [List.getD_eq_getElem?_getD,hj] at this
theorem uIV {l : List UInt8} {p : UInt8→Bool} {j : Nat} (hj : j < l.length) (h : p (l.getD j 0)=false) : l.all p=false:=by
 rw [List.all_eq_false]
 refine ⟨l.getD j 0,?_,by rw [h]; simp⟩
 rw [List.getD_eq_getElem?_getD,List.getElem?_eq_getElem hj]
 exact List.getElem_mem hj
theorem uFt (n : Int) : Ctr sys 143 [xu n] [] (xb (uBd n)) none []:=by
 refine uAv Tryz.func143 rfl rfl rfl rfl rfl rfl ?_;refine uAe (uAb ?_);refine uAa rfl rfl rfl (uAd rfl gU) ?_;refine uAf ?_;refine uAe (uAb ?_);refine uAa rfl rfl rfl (uAc rfl gU) ?_;refine uAa rfl rfl rfl (uAk rfl rfl gU gU rfl) ?_;refine uAa rfl rfl rfl (uAc rfl gU) ?_;refine uAa rfl rfl rfl (uAc rfl gU) ?_;refine uAa rfl rfl rfl (uAk rfl rfl (fun hh=>hh) gU rfl) ?_;refine uAa rfl rfl rfl (uAO rfl rfl gU (fun _ hi=>gP rfl hi)) ?_;refine uAa rfl rfl rfl (uAc rfl gU) ?_;refine uAa rfl rfl rfl (uAc rfl gU) ?_;refine uAa rfl rfl rfl (uAk rfl rfl (fun hh=>hh) gU rfl) ?_;refine uAa rfl rfl rfl (uAc rfl (fun hh=>hh)) ?_;refine uAa rfl rfl rfl (uAc rfl gU) ?_;refine uAa rfl rfl rfl (uAk rfl rfl (fun hh=>hh) gU rfl) ?_;refine uAa rfl rfl rfl (uAO rfl rfl (fun hh=>hh) (fun hh hi=>gP hh hi)) ?_;refine uAa rfl rfl rfl (uAM rfl rfl gU (fun _ hi=>gP rfl hi)) ?_;refine uAa rfl rfl rfl (uAd rfl gU) ?_;refine uAf ?_;refine uAo ?_
 repeat (first | refine tR ?_ | refine bR ?_)
 refine uAq rfl ?_ trivial
 rfl
theorem uJM (n : Int) : Ctr sys 144 [xu n] [] (xb (uBt n)) none []:=by
 refine uAv Tryz.func144 rfl rfl rfl rfl rfl rfl ?_;refine uAe (uAb ?_);refine uAa rfl rfl rfl (uAd rfl gU) ?_;refine uAf ?_;refine uAe (uAb ?_);refine uAa rfl rfl rfl (uAc rfl gU) ?_;refine uAa rfl rfl rfl (uAk rfl rfl gU gU rfl) ?_;refine uAa rfl rfl rfl (uAc rfl gU) ?_;refine uAa rfl rfl rfl (uAc rfl gU) ?_;refine uAa rfl rfl rfl (uAk rfl rfl (fun hh=>hh) gU rfl) ?_;refine uAa rfl rfl rfl (uAO rfl rfl gU (fun _ hi=>gP rfl hi)) ?_;refine uAa rfl rfl rfl (uAd rfl gU) ?_;refine uAf ?_;refine uAo ?_
 repeat (first | refine tR ?_ | refine bR ?_)
 refine uAq rfl ?_ trivial
 rfl
theorem uFP (l : List UInt8) : Ctr sys 105 [xs l] [] (xb (uCB l)) none []:=by
 refine uAv Tryz.func105 rfl rfl rfl rfl rfl rfl ?_;refine uAe (uAb ?_);refine uAa rfl rfl rfl (uAd rfl gU) ?_;refine uAf ?_;refine uAe ?_;refine uAe (uAb ?_);refine uAa rfl rfl rfl (uAc rfl gU) ?_;refine uBj rfl rfl rfl rfl rfl gU (Tryz.underlying9) ?_ (fun hh=>by simp at hh); intro hlen;refine uAa rfl rfl rfl (uAk rfl rfl gU gU rfl) ?_;refine uAa rfl rfl rfl (uAc rfl gU) ?_;refine uAa rfl rfl rfl (uAc rfl gU) ?_;refine uAa rfl rfl rfl (uBK rfl (fun hh=>hh) (Tryz.underlying9)) ?_;refine uAa rfl rfl rfl (uAk rfl rfl (fun hh=>hh) gU rfl) ?_;refine uAa rfl rfl rfl (uAM rfl rfl gU (fun _ hi=>gP rfl hi)) ?_;refine uAa rfl rfl rfl (uAc rfl gU) ?_;refine uAa rfl rfl rfl (uAc rfl gU) ?_;refine uAa rfl rfl rfl (uAC (j:=0) rfl rfl (fun hh=>hh) gU Tryz.underlying9 (by first | omega | (simp at hh; exact List.length_pos_iff.2 hh.1)) (fun hh=>by first | omega | (simp at hh; exact List.length_pos_iff.2 hh.1))) ?_;refine uBq (s:=⟨[(0,_,_),(12,_,_),(14,_,_)],[],[],[]⟩) (uAj (⟨sx rfl,sx rfl,sx rfl,trivial⟩) trivial trivial) ?_;refine uAw rfl rfl rfl rfl rfl rfl gU (fun hh=>gA ((fun hh=>hh) hh) (rfl)) (uFt _) rfl ?_;refine uAa rfl rfl rfl (uA1 rfl (fun hh=>hh)) ?_;refine uAa rfl rfl rfl (uAM rfl rfl gU (fun _ hi=>gP rfl hi)) ?_;refine uAf ?_;refine uAl rfl (fun hc=>?_) (fun hc=>?_)
 ·refine uAe (uAb ?_)
  refine uAa rfl rfl rfl (uAd rfl gU) ?_;refine uAf ?_;refine uAo ?_
  repeat (first | refine tR ?_ | refine bR ?_)
  refine uAq rfl ?_ trivial;exact uCu (by simp [uCB]; grind)
 ·refine uAp ?_
  refine uAe ?_;refine uAe (uAb ?_);refine uAa rfl rfl rfl (uAd rfl gU) ?_;refine uAf ?_;refine uAt ?_;refine uAW (ι:=Nat) { t:=[(0,_,_)],bx:=[],ow:=[] } (fun k=>[(3,true,xi (k : Int))]) (fun k=>[]) (fun k=>k≤l.length∧(l.drop k).all (fun b=>uBN (b.toNat : Int))=l.all (fun b=>uBN (b.toNat : Int))) (fun k=>l.length - k) (0) (by simp) (uAj (⟨sx rfl,sx rfl,trivial⟩) trivial trivial) ?_
  intro k hok
  dsimp only [List.cons_append,List.nil_append]
  obtain ⟨hk,hi⟩:=hok
  refine uAe ?_;refine uAe (uAb ?_);refine uAa rfl rfl rfl (uAc rfl gU) ?_;refine uAa rfl rfl rfl (uAc rfl gU) ?_;refine uBj rfl rfl rfl rfl rfl gU (Tryz.underlying9) ?_ (fun hh=>by simp at hh); intro hlen;refine uAa rfl rfl rfl (uAk rfl rfl gU gU rfl) ?_;refine uAf ?_;refine uAl rfl (fun hc2=>?_) (fun hc2=>?_)
  ·have hlt : k < l.length:=by simpa using hc2
   rw [uA6 hlt,List.all_cons] at hi
   refine uAp ?_;refine uAe ?_;refine uAt ?_;refine uAe (uAb ?_);refine uAa rfl rfl rfl (uAc rfl gU) ?_;refine uAa rfl rfl rfl (uAc rfl gU) ?_;refine uAa rfl rfl rfl (uAC rfl rfl gU gU Tryz.underlying9 rfl (fun hh=>by first | omega | (simp at hh; exact List.length_pos_iff.2 hh.1))) ?_;refine uAw rfl rfl rfl rfl rfl rfl gU gU (uFt _) rfl ?_;refine uAa rfl rfl rfl (uA1 rfl gU) ?_;refine uAa rfl rfl rfl (uAc rfl gU) ?_;refine uAa rfl rfl rfl (uAc rfl gU) ?_;refine uAa rfl rfl rfl (uAc rfl gU) ?_;refine uBq (s:=⟨[(0,_,_),(3,_,_),(29,_,_),(30,_,_),(31,_,_)],[],[],[]⟩) (uAj (⟨sx rfl,sx rfl,sx rfl,sx rfl,sx rfl,trivial⟩) trivial trivial) ?_;refine uAa rfl rfl rfl (uAC rfl rfl (fun hh=>hh) (fun hh=>hh) Tryz.underlying9 rfl (fun hh=>by first | omega | (simp at hh; exact List.length_pos_iff.2 hh.1))) ?_;refine uAw rfl rfl rfl rfl rfl rfl gU (fun hh=>gA ((fun hh=>hh) hh) (rfl)) (uJM _) rfl ?_;refine uAa rfl rfl rfl (uA1 rfl (fun hh=>hh)) ?_;refine uAa rfl rfl rfl (uAO rfl rfl gU (fun _ hi=>gP rfl hi)) ?_;refine uAa rfl rfl rfl (uAc rfl gU) ?_;refine uAa rfl rfl rfl (uAc rfl gU) ?_;refine uAa rfl rfl rfl (uAc rfl gU) ?_;refine uAa rfl rfl rfl (uAC rfl rfl (fun hh=>hh) (fun hh=>hh) Tryz.underlying9 rfl (fun hh=>by first | omega | (simp at hh; exact List.length_pos_iff.2 hh.1))) ?_
   refine uAa rfl rfl rfl (uAk rfl rfl (fun hh=>hh) gU rfl) ?_;refine uAa rfl rfl rfl (uAO rfl rfl gU (fun _ hi=>gP rfl hi)) ?_;refine uAa rfl rfl rfl (uAc rfl gU) ?_;refine uAa rfl rfl rfl (uAc rfl gU) ?_;refine uBq (s:=⟨[(0,_,_),(3,_,_),(42,_,_),(43,_,_)],[],[],[]⟩) (uAj (⟨sx rfl,sx rfl,sx rfl,sx rfl,trivial⟩) trivial trivial) ?_;refine uAa rfl rfl rfl (uAc rfl gU) ?_;refine uAa rfl rfl rfl (uAC rfl rfl (fun hh=>hh) (fun hh=>hh) Tryz.underlying9 rfl (fun hh=>by first | omega | (simp at hh; exact List.length_pos_iff.2 hh.1))) ?_;refine uAa rfl rfl rfl (uAk rfl rfl (fun hh=>hh) gU rfl) ?_;refine uAa rfl rfl rfl (uAO rfl rfl gU (fun _ hi=>gP rfl hi)) ?_;refine uAf ?_;refine uAl rfl (fun hc1=>?_) (fun hc1=>?_)
   ·try simp only [nn] at hc1
    refine uAe (uAb ?_);refine uAa rfl rfl rfl (uAd rfl gU) ?_;refine uAf ?_;refine uAo ?_
    repeat (first | refine tR ?_ | refine bR ?_)
    refine uAq rfl ?_ trivial;exact uCu (by simp [uCB]; grind [uBN])
   ·try simp only [nn] at hc1
    refine uAp ?_;refine uAb ?_;refine uAa rfl rfl rfl (uAc rfl gU) ?_;refine uAa rfl rfl rfl (uAr rfl rfl gU gU rfl (IntWalk.i64_in _ (by omega))) ?_;refine uAa rfl rfl rfl (uAd rfl gU) ?_;refine uAf ?_;refine ⟨k + 1,?_,?_,uAj (⟨⟨_,rfl,?_⟩,⟨sx rfl,trivial⟩⟩) trivial trivial⟩
    all_goals (grind [uBN])
  ·refine uAL ?_
   repeat (first | refine uAF ?_ | refine uAE ?_ | refine uAB rfl ?_)
   refine uAe (uAb ?_);refine uAa rfl rfl rfl (uAd rfl gU) ?_;refine uAf ?_;refine uAo ?_
   repeat (first | refine tR ?_ | refine bR ?_)
   refine uAq rfl ?_ trivial
   have : l.drop k=[]:=by simp at hc2 ⊢; omega
   rw [this] at hi
   exact uCu (by simp [uCB]; grind)
end Go.Proofs.YtnjjdbapadkomaaGreatDoor
namespace Go.Proofs.YtnjjdbapadkomaaGreatDoor
open Go Go.Abs
def strR (l : List (List UInt8)) : List (List C):=l.map fun s=>[.s s]
theorem uAh (l : List (List UInt8)) : (strR l).length=l.length:=by simp [strR]
theorem uCK {l : List (List UInt8)} {k : Nat} (h : k < l.length) : (strR l)[k]? = some [.s (l.getD k [])]:=by
 rw [strR,List.getElem?_map,List.getD_eq_getElem?_getD,List.getElem?_eq_getElem h]; rfl
abbrev xss (l : List (List UInt8)) : X:=.v (.c (.sl 1 (strR l)))
abbrev xbs (l : List UInt8) : X:=.v (.c (.sl 1 (uBh l)))
theorem uB8 (l : List (List UInt8)) (s : List UInt8) : X.v (.c (.sl 1 (strR l++[[.s s]])))=xss (l++[s]):=by simp [xss,strR]
theorem uIL (l : List UInt8) (b : UInt8) (n : Int) (h : (b.toNat : Int)=n) : X.v (.c (.sl 1 (uBh l++[[.i .u8 n]])))=xbs (l++[b]):=by simp [xbs,uBh,h]
theorem uFb {α : Type} (l : List α) (d : α) {j k : Nat} (h : j < k) : (l.take k).getD j d=l.getD j d:=by
 simp only [List.getD_eq_getElem?_getD]; rw [List.getElem?_take,if_pos h]
theorem uHj {α : Type} (l : List α) (d : α) (j k : Nat) : (l.drop k).getD j d=l.getD (k + j) d:=by
 simp only [List.getD_eq_getElem?_getD]; rw [List.getElem?_drop]
theorem uEk {α : Type} {l : List α} {d : α} {k : Nat} (h : k < l.length) : l.take (k + 1)=l.take k++[l.getD k d]:=by
 rw [List.take_add_one,List.getD_eq_getElem?_getD,List.getElem?_eq_getElem h]; rfl
theorem uI8 {α : Type} {l : List α} {d : α} {k : Nat} (h : k < l.length) : l.drop k=l.getD k d :: l.drop (k + 1):=by
 rw [List.drop_eq_getElem_cons h,List.getD_eq_getElem?_getD,List.getElem?_eq_getElem h]; rfl
def hexB (b : UInt8) : Bool:=(decide (48≤(b.toNat : Int)) && decide ((b.toNat : Int)≤57)) || (decide (97≤(b.toNat : Int)) && decide ((b.toNat : Int)≤102))
def hexV (b : UInt8) : Int:=if (b.toNat : Int)≤57 then b.toNat - 48 else b.toNat - 87
end Go.Proofs.YtnjjdbapadkomaaGreatDoor
namespace Go.Proofs.YtnjjdbapadkomaaGreatDoor
open Go Go.Abs
structure Tk where
 kind : Int
 text : List UInt8
 int : Int
 str : List UInt8
 line : Int
 deriving Inhabited,DecidableEq
def Tk.onl (t : Tk) (k : Int) : Tk:=⟨t.kind,t.text,t.int,t.str,k⟩
def tk0 : Tk:=⟨0,[],0,[],0⟩
def Tk.cells (t : Tk) : List C:=[.i .i64 t.kind, .s t.text, .i .i64 t.int, .s t.str, .i .i64 t.line]
def Tk.rows (l : List Tk) : List (List C):=l.map Tk.cells
theorem Tk.rows_len (l : List Tk) : (Tk.rows l).length=l.length:=by simp [Tk.rows]
theorem Tk.rows_at {l : List Tk} {k : Nat} (h : k < l.length) : (Tk.rows l)[k]? = some (l.getD k tk0).cells:=by
 rw [Tk.rows,List.getElem?_map,List.getD_eq_getElem?_getD,List.getElem?_eq_getElem h]; rfl
theorem Tk.rows_app (a b : List Tk) : Tk.rows (a++b)=Tk.rows a++Tk.rows b:=by simp [Tk.rows]
abbrev xts (l : List Tk) : X:=.v (.c (.sl 5 (Tk.rows l)))
theorem uJp (l : List Tk) (t : Tk) : X.v (.c (.sl 5 (Tk.rows l++[t.cells])))=xts (l++[t]):=by simp [xts,Tk.rows]
abbrev xnx (r : Tk × Nat × Int) : X:=.tup [.agg r.1.cells, .c (.i .i64 (r.2.1 : Int)), .c (.i .i64 r.2.2)]
abbrev uMY (r : List Tk × Nat × Int) : X:=.tup [.c (.sl 5 (Tk.rows r.1)), .c (.i .i64 (r.2.1 : Int)), .c (.i .i64 r.2.2)]
abbrev xsn (r : List UInt8 × Nat) : X:=.tup [.c (.s r.1), .c (.i .i64 (r.2 : Int))]
abbrev xse (r : List UInt8 × Int) : X:=.tup [.c (.s r.1), .c (.i .i64 r.2)]
def uCe (c : UInt8) : Bool:=decide (c.toNat=32) || decide (c.toNat=9) || decide (c.toNat=10) || decide (c.toNat=13)
def syms : List UInt8:=[40,41,123,125,91,93,44,59,58,61,46,45,62,60,63,124,38,42]
def symB (c : UInt8) : Bool:=syms.contains c
def clsE (c : UInt8) : Int:=if uCe c=true then 1 else if uBd c.toNat=true then 2 else if uBt c.toNat=true then 3 else if c.toNat=34 then 5 else if symB c=true then 4 else 0
def escE : List UInt8→UInt8 × Nat
 | []=>(0,0)
 | c :: l=>if c.toNat=110 then (10,1) else if c.toNat=116 then (9,1) else if c.toNat=34∨c.toNat=92 then (c,1)
  else if c.toNat=120∧2≤l.length∧hexB (l.getD 0 0)=true∧hexB (l.getD 1 0)=true then (UInt8.ofNat (16 * hexV (l.getD 0 0) + hexV (l.getD 1 0)).toNat,3) else (0,0)
def litA : Nat→List UInt8→Nat→List UInt8→List UInt8 × Nat
 | 0,_,_,_=>([],0)
 | _ + 1,[],_,_=>([],0)
 | n + 1,c :: l,i,out=>if c.toNat=34 then (out,i + 1)
  else if c.toNat=92 then (if (escE l).2=0 then ([],0) else litA n (l.drop (escE l).2) (i + 1 + (escE l).2) (out++[(escE l).1]))
  else if c.toNat < 32∨126 < c.toNat then ([],0) else litA n l (i + 1) (out++[c])
def litE (s : List UInt8) : List UInt8 × Nat:=litA (s.length + 1) (s.drop 1) 1 []
def nmP : List UInt8→Nat
 | []=>0
 | b :: l=>if uBN (b.toNat : Int)=true ∧ ¬(b.toNat=35∧(l.getD 0 0).toNat=35) then nmP l + 1 else 0
def nlE (s : List UInt8) : Nat:=1 + nmP (s.drop 1)
def wdN : List UInt8→Nat
 | []=>0
 | b :: l=>if uBN (b.toNat : Int)=true then wdN l + 1 else 0
def numA : List UInt8→Nat→Int→Bool × Nat × Int
 | [],n,v=>(true,n,v)
 | b :: l,n,v=>if uBt (b.toNat : Int)=true then (if (9223372036854775807 - ((b.toNat : Int) - 48)) / 10 < v then (false,0,0) else numA l (n + 1) (10 * v + ((b.toNat : Int) - 48))) else (true,n,v)
def uBz (s : List UInt8) : Tk × Nat × Int :=
 if uBd (s.getD 0 0).toNat=true then (if 24 < nlE s then (tk0,0,3) else (⟨1,s.take (nlE s),0,[],0⟩,nlE s,0))
 else if uBt (s.getD 0 0).toNat=true then (if (numA s 0 0).1=true then (⟨2,[],(numA s 0 0).2.2,[],0⟩,(numA s 0 0).2.1,0) else (tk0,0,7))
 else if (s.getD 0 0).toNat=34 then (if (litE s).2=0 then (tk0,0,2) else (⟨3,[],0,(litE s).1,0⟩,(litE s).2,0))
 else if symB (s.getD 0 0)=true then (⟨4,s.take 1,0,[],0⟩,1,0) else (tk0,0,2)
def uBv (s : List UInt8) (k : Int) : Tk × Nat × Int :=
 if uBd (s.getD 0 0).toNat=true then (if 24 < wdN s then (tk0,0,3) else (⟨1,s.take (wdN s),0,[],k⟩,wdN s,0))
 else if uBt (s.getD 0 0).toNat=true then (if (numA s 0 0).1=true then (⟨2,[],(numA s 0 0).2.2,[],k⟩,(numA s 0 0).2.1,0) else (tk0,0,7))
 else if (s.getD 0 0).toNat=34 then (if (litE s).2=0 then (tk0,0,2) else (⟨3,[],0,(litE s).1,k⟩,(litE s).2,0))
 else if symB (s.getD 0 0)=true then (⟨4,s.take 1,0,[],k⟩,1,0) else (tk0,0,2)
def uB7 : Bool→List UInt8→Nat
 | _,[]=>0
 | _,[_]=>1
 | ins,c :: d :: l=>if ins=true∧c.toNat=92 then uB7 true l + 2
  else if (if c.toNat=34 then !ins else ins)=false∧c.toNat=35∧d.toNat=35 then 0 else uB7 (if c.toNat=34 then !ins else ins) (d :: l) + 1
def uA5 (s : List UInt8) : List UInt8:=s.take (uB7 false s)
def wsp : List UInt8:=[32,9,13]
def uBl (s : List UInt8) : List UInt8:=s.dropWhile (wsp.contains ·)
def uBi : Nat→List UInt8→Int→List Tk→List Tk × Int
 | 0,_,_,out=>(out,0)
 | n + 1,l,k,out=>if uBl l=[]∨[35,35].isPrefixOf (uBl l)=true then (out,0)
  else if (uBz (uBl l)).2.2≠0 then ([],(uBz (uBl l)).2.2)
  else uBi n ((uBl l).drop (uBz (uBl l)).2.1) k (out++[(uBz (uBl l)).1.onl k])
def uCx : Nat→List UInt8→Int→List Tk→List Tk × Int
 | 0,_,_,out=>(out,0)
 | _ + 1,[],_,out=>(out,0)
 | n + 1,c :: l,k,out=>if uCe c=true then uCx n l k out else if (uBv (c :: l) k).2.2≠0 then ([],(uBv (c :: l) k).2.2)
  else uCx n ((c :: l).drop (uBv (c :: l) k).2.1) k (out++[(uBv (c :: l) k).1])
def spl : List UInt8→List (List UInt8)
 | []=>[[]]
 | b :: l=>if b.toNat=10 then [] :: spl l else match spl l with
  | []=>[[b]]
  | x :: r=>(b :: x) :: r
def uCv : List (List UInt8)→Nat→List Tk→List Tk × Nat × Int
 | [],_,out=>(out,0,0)
 | l :: ls,k,out=>if (uBi (l.length + 1) l (k : Nat) out).2≠0 then ([],k,(uBi (l.length + 1) l (k : Nat) out).2) else uCv ls (k + 1) (uBi (l.length + 1) l (k : Nat) out).1
def uEO : List (List UInt8)→Nat→List Tk→List Tk × Nat × Int
 | [],_,out=>(out,0,0)
 | l :: ls,k,out=>if (uCx ((uA5 l).length + 1) (uA5 l) (k : Nat) out).2≠0 then ([],k,(uCx ((uA5 l).length + 1) (uA5 l) (k : Nat) out).2) else uEO ls (k + 1) (uCx ((uA5 l).length + 1) (uA5 l) (k : Nat) out).1
def tokP (s : List UInt8) : List Tk × Nat × Int:=if 65536 < s.length then ([],0,3) else uCv (spl s) 1 []
def lnsA : List UInt8→List UInt8→List (List UInt8)→List (List UInt8)
 | [],line,out=>if line=[] then out else out++[line]
 | b :: l,line,out=>if b.toNat=10 then lnsA l [] (out++[line]) else lnsA l (line++[b]) out
def lnsR (s : List UInt8) : List (List UInt8):=lnsA s [] []
def tokR (s : List UInt8) : List Tk × Nat × Int:=if 65536 < s.length then ([],0,3) else uEO (lnsR s) 1 []
def hexs : List UInt8:=[48,49,50,51,52,53,54,55,56,57,97,98,99,100,101,102]
theorem uHV (l : List UInt8) : (escE l).2≤l.length:=by
 cases l with
 | nil=>simp [escE]
 | cons c l =>
  rw [escE]
  split
  ·simp
  split
  ·simp
  split
  ·simp
  split
  ·rename_i h; simp only [List.length_cons]; omega
  ·simp
theorem uFS : ∀ (n : Nat) (l : List UInt8) (i : Nat) (out : List UInt8),(litA n l i out).2≤i + l.length∧((litA n l i out).2≠0→i < (litA n l i out).2)∧(litA n l i out).1.length≤out.length + l.length
 | 0,l,i,out=>by simp [litA]
 | n + 1,[],i,out=>by simp [litA]
 | n + 1,c :: l,i,out=>by
  have he:=uHV l
  unfold litA
  split
  ·simp <;> omega
  split
  ·split
   ·simp
   ·have := uFS n (l.drop (escE l).2) (i + 1 + (escE l).2) (out++[(escE l).1])
    simp only [List.length_drop,List.length_append,List.length_cons,List.length_nil] at this ⊢
    omega
  split
  ·simp
  ·have := uFS n l (i + 1) (out++[c])
   simp only [List.length_append,List.length_cons,List.length_nil] at this ⊢
   omega
theorem uH2 (s : List UInt8) (h : 0 < s.length) : (litE s).2≤s.length∧(litE s).1.length≤s.length:=by
 have := uFS (s.length + 1) (s.drop 1) 1 []
 simp only [List.length_drop,List.length_nil] at this
 unfold litE
 omega
theorem uMc : ∀ (l : List UInt8),nmP l≤l.length
 | []=>by simp [nmP]
 | b :: l=>by
  have := uMc l
  unfold nmP
  split <;> simp <;> omega
theorem uJ0 {s : List UInt8} (h : 0 < s.length) : 1≤nlE s∧nlE s≤s.length:=by
 have := uMc (s.drop 1)
 simp only [List.length_drop] at this
 unfold nlE; omega
theorem uJH : ∀ (l : List UInt8),wdN l≤l.length
 | []=>by simp [wdN]
 | b :: l=>by
  have := uJH l
  unfold wdN
  split <;> simp <;> omega
theorem uF2 : ∀ (l : List UInt8) (n : Nat) (v : Int),0≤v→(numA l n v).2.1≤n + l.length∧((numA l n v).1=true→n≤(numA l n v).2.1)∧0≤(numA l n v).2.2∧(v≤9223372036854775807→(numA l n v).2.2≤9223372036854775807)
 | [],n,v,h=>by simp [numA,h]
 | b :: l,n,v,h=>by
  unfold numA
  split
  ·rename_i hd
   simp [uBt] at hd
   split
   ·simp
   ·obtain ⟨q1,q2,q3,q4⟩:=uF2 l (n + 1) (10 * v + ((b.toNat : Int) - 48)) (by omega)
    simp only [List.length_cons]
    exact ⟨by omega,fun q=>by have := q2 q; omega,q3,fun q=>q4 (by omega)⟩
  ·simp [h]
theorem uEI {s : List UInt8} (h : 0 < s.length) : (uBz s).2.1≤s.length∧((uBz s).2.2=0→1≤(uBz s).2.1):=by
 have h1:=uJ0 h
 have h2:=uF2 s 0 0 (by omega)
 have h3:=uH2 s h
 have h4:=uFS (s.length + 1) (s.drop 1) 1 []
 unfold uBz
 split
 ·split
  ·simp
  ·simp; omega
 split
 ·rename_i hd
  split
  ·rename_i hn
   refine ⟨by dsimp only; omega,fun _=>?_⟩
   dsimp only
   match s,h with
   | b :: l,_ =>
    rw [List.getD_cons_zero] at hd
    rw [numA,if_pos hd] at hn ⊢
    split at hn
    ·simp at hn
    ·rename_i hq
     rw [if_neg hq]
     have hd2 : (48 : Int)≤(b.toNat : Int):=by simp [uBt] at hd; omega
     have := (uF2 l (0 + 1) (10 * 0 + ((b.toNat : Int) - 48)) (by omega)).2.1 hn
     omega
  ·simp
 split
 ·split
  ·simp
  ·simp; omega
 split
 ·simp; omega
 ·simp
theorem uLl {s : List UInt8} {k : Int} (h : 0 < s.length) : (uBv s k).2.1≤s.length∧((uBv s k).2.2=0→1≤(uBv s k).2.1):=by
 have h0:=uEI h
 have h1:=uJH s
 have hw : uBd (s.getD 0 0).toNat=true→1≤wdN s:=by
  intro hl
  match s,h with
  | b :: l,_ =>
   rw [List.getD_cons_zero] at hl
   rw [wdN,if_pos (by simp [uBN,hl])]; omega
 unfold uBv
 unfold uBz at h0
 split
 ·rename_i hl
  have := hw hl
  split
  ·simp
  ·simp; omega
 ·rename_i hl
  rw [if_neg hl] at h0
  split
  ·rename_i hd
   rw [if_pos hd] at h0
   split
   ·rename_i hn; rw [if_pos hn] at h0; exact h0
   ·simp
  ·rename_i hd
   rw [if_neg hd] at h0
   split
   ·rename_i hq
    rw [if_pos hq] at h0
    split
    ·simp
    ·rename_i hz; rw [if_neg hz] at h0; exact h0
   ·rename_i hq
    rw [if_neg hq] at h0
    split
    ·rename_i hz; rw [if_pos hz] at h0; exact h0
    ·simp
theorem uFe (s : List UInt8) : (uBl s).length≤s.length:=by
 unfold uBl
 exact (List.dropWhile_sublist _).length_le
theorem uGI (s : List UInt8) : spl s≠[]:=by
 cases s with
 | nil=>simp [spl]
 | cons b l =>
  unfold spl
  split
  ·simp
  ·split <;> simp
theorem uFY : ∀ (s : List UInt8),(spl s).length≤s.length + 1
 | []=>by simp [spl]
 | b :: l=>by
  have ih:=uFY l
  unfold spl
  split
  ·simp; omega
  ·split
   ·simp
   ·rename_i h; rw [h] at ih; simp at ih ⊢; omega
theorem uHZ : ∀ (s : List UInt8),∀ x ∈ spl s,x.length≤s.length
 | [],x,hx=>by simp [spl] at hx; subst hx; simp
 | b :: l,x,hx=>by
  have ih:=uHZ l
  unfold spl at hx
  split at hx
  ·rcases List.mem_cons.1 hx with h | h
   ·subst h; simp
   ·have := ih x h; simp; omega
  ·split at hx
   ·simp at hx; subst hx; simp
   ·rename_i y r h
    rw [h] at ih
    rcases List.mem_cons.1 hx with q | q
    ·subst q
     have := ih y (by simp)
     simp; omega
    ·have := ih x (by simp [q]); simp; omega
theorem uMI (s : List UInt8) (k : Nat) : ((spl s).getD k []).length≤s.length:=by
 rw [List.getD_eq_getElem?_getD]
 cases h : (spl s)[k]? with
 | none=>simp
 | some x=>exact uHZ s x (List.mem_of_getElem? h)
theorem uGQ : ∀ (s line : List UInt8) (out : List (List UInt8)),(lnsA s line out).length≤out.length + s.length + 1
 | [],line,out=>by unfold lnsA; split <;> simp
 | b :: l,line,out=>by
  unfold lnsA
  split
  ·have := uGQ l [] (out++[line]); simp at this ⊢; omega
  ·have := uGQ l (line++[b]) out; simp at this ⊢; omega
theorem uG3 : ∀ (s line : List UInt8) (out : List (List UInt8)) (N : Nat),line.length + s.length≤N→(∀ x ∈ out,x.length≤N) → ∀ x ∈ lnsA s line out,x.length≤N
 | [],line,out,N,h,ho,x,hx=>by
  unfold lnsA at hx
  split at hx
  ·exact ho x hx
  ·rcases List.mem_append.1 hx with q | q
   ·exact ho x q
   ·simp at q; subst q; simp at h; omega
 | b :: l,line,out,N,h,ho,x,hx=>by
  simp only [List.length_cons] at h
  unfold lnsA at hx
  split at hx
  ·refine uG3 l [] (out++[line]) N (by simp; omega) (fun y hy=>?_) x hx
   rcases List.mem_append.1 hy with q | q
   ·exact ho y q
   ·simp at q; subst q; omega
  ·exact uG3 l (line++[b]) out N (by simp; omega) ho x hx
theorem uLD (s : List UInt8) (k : Nat) : ((lnsR s).getD k []).length≤s.length:=by
 rw [List.getD_eq_getElem?_getD]
 cases h : (lnsR s)[k]? with
 | none=>simp
 | some x=>exact uG3 s [] [] s.length (by simp) (by simp) x (List.mem_of_getElem? h)
theorem uMo (s : List UInt8) : (lnsR s).length≤s.length + 1:=by
 have := uGQ s [] []; simp at this; exact this
end Go.Proofs.YtnjjdbapadkomaaGreatDoor
namespace Go.Proofs.YtnjjdbapadkomaaGreatDoor
open Go Go.Abs
inductive T where
 | mk (kind : Int) (name : List UInt8) (sort : Int) (kids : List T)
 deriving Inhabited
namespace T
def kind : T→Int | mk k _ _ _=>k
def name : T→List UInt8 | mk _ n _ _=>n
def sort : T→Int | mk _ _ s _=>s
def kids : T→List T | mk _ _ _ ks=>ks
mutual
def cells' : T→List C
 | mk k n s ks=>[.i .i64 k, .s n, .i .i64 s, .sl 4 (rows ks)]
def rows : List T→List (List C)
 | []=>[]
 | t :: ts=>cells' t :: rows ts
end
def cells (t : T) : List C:=[.i .i64 t.kind, .s t.name, .i .i64 t.sort, .sl 4 (rows t.kids)]
theorem uMu (t : T) : cells' t=t.cells:=by cases t; rw [cells']; rfl
theorem rows_eq : ∀ ts : List T,rows ts=ts.map cells
 | []=>by rw [rows]; rfl
 | t :: ts=>by rw [rows,rows_eq ts,uMu]; rfl
theorem rows_get {ts : List T} {k : Nat} {t : T} (h : ts[k]? = some t) : (rows ts)[k]? = some t.cells:=by
 rw [rows_eq,List.getElem?_map,h]; rfl
theorem rows_len (ts : List T) : (rows ts).length=ts.length:=by rw [rows_eq]; simp
mutual
def size : T→Nat
 | mk _ _ _ ks=>1 + sizes ks
def sizes : List T→Nat
 | []=>0
 | t :: ts=>size t + sizes ts
end
theorem size_pos (t : T) : 1≤t.size:=by cases t; rw [size]; omega
theorem size_eq (t : T) : t.size=1 + sizes t.kids:=by cases t; rw [size]; rfl
theorem sizes_take : ∀ (ts : List T) (k : Nat) (t : T),ts[k]? = some t→sizes (ts.take (k + 1))=sizes (ts.take k) + t.size
 | [],k,t,h=>by simp at h
 | x :: xs,0,t,h=>by simp at h; subst h; simp [sizes]
 | x :: xs,k + 1,t,h=>by
  have := sizes_take xs k t (by simpa using h)
  simp only [List.take_succ_cons,sizes]
  omega
theorem sizes_take_le : ∀ (ts : List T) (k : Nat),sizes (ts.take k)≤sizes ts
 | [],k=>by simp
 | x :: xs,0=>by simp [sizes]
 | x :: xs,k + 1=>by
  have := sizes_take_le xs k
  simp only [List.take_succ_cons,sizes]
  omega
theorem size_kid {t x : T} {k : Nat} (h : t.kids[k]? = some x) : x.size < t.size:=by
 have h1:=sizes_take _ _ _ h
 have h2:=sizes_take_le t.kids (k + 1)
 have h3:=t.size_eq
 omega
end T
end Go.Proofs.YtnjjdbapadkomaaGreatDoor
namespace Go.Proofs.YtnjjdbapadkomaaGreatDoor
open Go Go.Abs
structure Fs where
 role : List UInt8
 name : List UInt8
 sort : Int
 deriving Inhabited,DecidableEq
structure Sp where
 frm : List UInt8
 dst : List UInt8
 msg : T
 line : Int
 deriving Inhabited
structure Gl where
 kind : Int
 role : List UInt8
 wth : List UInt8
 data : List T
 line : Int
 deriving Inhabited
structure Nar where
 name : List UInt8
 roles : List (List UInt8)
 fresh : List Fs
 tags : List (List UInt8)
 steps : List Sp
 goals : List Gl
 deriving Inhabited
def Fs.cells (f : Fs) : List C:=[.s f.role, .s f.name, .i .i64 f.sort]
def Sp.cells (s : Sp) : List C:=[.s s.frm, .s s.dst, .i .i64 s.msg.kind, .s s.msg.name, .i .i64 s.msg.sort, .sl 4 (T.rows s.msg.kids), .i .i64 s.line]
def Gl.cells (g : Gl) : List C:=[.i .i64 g.kind, .s g.role, .s g.wth, .sl 4 (T.rows g.data), .i .i64 g.line]
def Fs.rows (l : List Fs) : List (List C):=l.map Fs.cells
def Sp.rows (l : List Sp) : List (List C):=l.map Sp.cells
def Gl.rows (l : List Gl) : List (List C):=l.map Gl.cells
theorem Fs.rows_len (l : List Fs) : (Fs.rows l).length=l.length:=by simp [Fs.rows]
theorem Sp.rows_len (l : List Sp) : (Sp.rows l).length=l.length:=by simp [Sp.rows]
theorem Gl.rows_len (l : List Gl) : (Gl.rows l).length=l.length:=by simp [Gl.rows]
theorem Fs.rows_at {l : List Fs} {k : Nat} (h : k < l.length) : (Fs.rows l)[k]? = some (l.getD k default).cells:=by
 rw [Fs.rows,List.getElem?_map,List.getD_eq_getElem?_getD,List.getElem?_eq_getElem h]; rfl
theorem Sp.rows_at {l : List Sp} {k : Nat} (h : k < l.length) : (Sp.rows l)[k]? = some (l.getD k default).cells:=by
 rw [Sp.rows,List.getElem?_map,List.getD_eq_getElem?_getD,List.getElem?_eq_getElem h]; rfl
theorem Gl.rows_at {l : List Gl} {k : Nat} (h : k < l.length) : (Gl.rows l)[k]? = some (l.getD k default).cells:=by
 rw [Gl.rows,List.getElem?_map,List.getD_eq_getElem?_getD,List.getElem?_eq_getElem h]; rfl
theorem T.rows_at {l : List T} {k : Nat} (h : k < l.length) : (T.rows l)[k]? = some (l.getD k default).cells:=by
 rw [T.rows_eq,List.getElem?_map,List.getD_eq_getElem?_getD,List.getElem?_eq_getElem h]; rfl
theorem Fs.rows_app (a b : List Fs) : Fs.rows (a++b)=Fs.rows a++Fs.rows b:=by simp [Fs.rows]
theorem Sp.rows_app (a b : List Sp) : Sp.rows (a++b)=Sp.rows a++Sp.rows b:=by simp [Sp.rows]
theorem Gl.rows_app (a b : List Gl) : Gl.rows (a++b)=Gl.rows a++Gl.rows b:=by simp [Gl.rows]
theorem T.getD_size {l : List T} {k : Nat} (h : k < l.length) : T.sizes (l.take k) + (l.getD k default).size≤T.sizes l:=by
 have h0 : l[k]? = some (l.getD k default):=by rw [List.getD_eq_getElem?_getD,List.getElem?_eq_getElem h]; rfl
 have h1:=T.sizes_take l k _ h0
 have h2:=T.sizes_take_le l (k + 1)
 omega
theorem T.getD_some {l : List T} {k : Nat} (h : k < l.length) : l[k]? = some (l.getD k default):=by
 rw [List.getD_eq_getElem?_getD,List.getElem?_eq_getElem h]; rfl
def Nar.cells (n : Nar) : List C:=[.s n.name, .sl 1 (strR n.roles), .sl 3 (Fs.rows n.fresh), .sl 1 (strR n.tags), .sl 7 (Sp.rows n.steps), .sl 5 (Gl.rows n.goals)]
abbrev xn (n : Nar) : X:=.v (.agg n.cells)
abbrev xg (g : Gl) : X:=.v (.agg g.cells)
structure PS where
 at' : Nat
 bad : Bool
 deriving Inhabited,DecidableEq
def PS.go (p : PS) : PS:=⟨p.at' + 1,p.bad⟩
def PS.off (p : PS) : PS:=⟨p.at',true⟩
def symQ (l : List Tk) (p : PS) (c : List UInt8) : Bool:=!p.bad && decide (p.at' < l.length) && decide ((l.getD p.at' tk0).kind=4) && decide ((l.getD p.at' tk0).text=c)
def uA7 (l : List Tk) (c : List UInt8) (p : PS) : PS:=if symQ l p c=true then p.go else p.off
def namQ (l : List Tk) (p : PS) (ws : List (List UInt8)) : Bool:=!p.bad && decide (p.at' < l.length) && decide ((l.getD p.at' tk0).kind=1) && (decide (ws=[]) || ws.contains (l.getD p.at' tk0).text)
def uAA (l : List Tk) (ws : List (List UInt8)) (p : PS) : List UInt8 × PS:=if namQ l p ws=true then ((l.getD p.at' tk0).text,p.go) else ([],p.off)
def uB0 {α : Type} (l : List Tk) (f : PS→α × PS) : Nat→PS→List α→List α × PS
 | 0,p,out=>(out,p)
 | n + 1,p,out=>if symQ l p [44]=true then uB0 l f n (f p.go).2 (out++[(f p.go).1]) else (out,p)
def uBk {α : Type} (l : List Tk) (f : PS→α × PS) (p : PS) : List α × PS:=uB0 l f (l.length + 1) (f p).2 [(f p).1]
def uBJ (l : List Tk) (p : PS) : List (List UInt8) × PS:=uBk l (uAA l []) p
def wPair : List UInt8:=[112,97,105,114]
def uHK (a b : T) : T:=⟨3,wPair,0,[a,b]⟩
def tupT : List T→T
 | []=>⟨0,[],0,[]⟩
 | [t]=>t
 | t :: u :: l=>uHK t (tupT (u :: l))
def uAR (l : List Tk) : Nat→PS→T × PS
 | 0,p=>(default,p)
 | n + 1,p=>if symQ l p [60]=true then
   (tupT ((uAR l n p.go).1 :: (uBk l (uAR l n) (uA7 l [44] (uAR l n p.go).2)).1),uA7 l [62] (uBk l (uAR l n) (uA7 l [44] (uAR l n p.go).2)).2)
  else if symQ l (uAA l [] p).2 [40]=true then
   (if symQ l (uAA l [] p).2.go [41]=true then (⟨3,(uAA l [] p).1,0,[]⟩,(uAA l [] p).2.go.go)
   else (⟨3,(uAA l [] p).1,0,(uBk l (uAR l n) (uAA l [] p).2.go).1⟩,uA7 l [41] (uBk l (uAR l n) (uAA l [] p).2.go).2))
  else (⟨2,(uAA l [] p).1,0,[]⟩,(uAA l [] p).2)
def uBA (l : List (List UInt8)) (s : List UInt8) : Int:=match l with
 | []=>-1
 | x :: r=>if x=s then 0 else if uBA r s < 0 then -1 else uBA r s + 1
def sortW : List (List UInt8):=[[110,111,110,99,101],[107,101,121],[100,97,116,97]]
def kindW : List (List UInt8):=[[115,101,99,114,101,116],[97,103,114,101,101],[105,110,106,101,99,116],[102,114,101,115,104],[102,111,114,119,97,114,100]]
def uFJ : List UInt8:=[114,111,108,101]
def uDZ : List UInt8:=[102,114,101,115,104]
def uFI : List UInt8:=[116,97,103]
def wMsg : List UInt8:=[109,101,115,115,97,103,101]
def uFA : List UInt8:=[103,111,97,108]
def uFK : List UInt8:=[112,114,111,116,111,99,111,108]
def uB6 : List (List UInt8):=[uFJ,uDZ,uFI,wMsg,uFA]
def uCa (l : List Tk) (role : List UInt8) : Nat→PS→List Fs→List Fs × PS
 | 0,p,out=>(out,p)
 | n + 1,p,out=>if p.bad=true then (out,p) else
   if symQ l (uAA l sortW (uAA l [] p).2).2 [44]=true then uCa l role n (uAA l sortW (uAA l [] p).2).2.go (out++[⟨role,(uAA l [] p).1,2 + uBA sortW (uAA l sortW (uAA l [] p).2).1⟩])
   else (out++[⟨role,(uAA l [] p).1,2 + uBA sortW (uAA l sortW (uAA l [] p).2).1⟩],(uAA l sortW (uAA l [] p).2).2)
def uB3 (l : List Tk) (p : PS) (out : List Fs) : List Fs × PS:=uCa l (uAA l [] p).1 (l.length + 1) (uA7 l [58] (uAA l [] p).2) out
def uCL (l : List Tk) (line : Int) (p : PS) : Sp × PS :=
 let a:=uAA l [] p
 let b:=uAA l [] (uA7 l [62] (uA7 l [45] a.2))
 let t:=uAR l (l.length + 1) (uA7 l [58] b.2)
 (⟨a.1,b.1,t.1,line⟩,t.2)
def uBC (k : Int) : Bool:=decide (k=2) || decide (k=3)
def uCr (l : List Tk) (line : Int) (p : PS) : Gl × PS :=
 let k:=uAA l kindW p
 let r:=uAA l [] k.2
 let w:=if uBC (1 + uBA kindW k.1)=true then uAA l [] r.2 else ([],r.2)
 let d:=uBk l (uAR l (l.length + 1)) (uA7 l [58] w.2)
 (⟨1 + uBA kindW k.1,r.1,w.1,d.1,line⟩,d.2)
def uCH (l : List Tk) (p : PS) : Int:=if p.at' < l.length then (l.getD p.at' tk0).line else 0
def uBY (l : List Tk) (n : Nar) (line : Int) (w : List UInt8) (q : PS) : Nar × PS :=
 if w=uFJ then ({ n with roles:=n.roles++(uBJ l q).1 },(uBJ l q).2)
 else if w=uDZ then ({ n with fresh:=(uB3 l q n.fresh).1 },(uB3 l q n.fresh).2)
 else if w=uFI then ({ n with tags:=n.tags++(uBJ l q).1 },(uBJ l q).2)
 else if w=wMsg then ({ n with steps:=n.steps++[(uCL l line q).1] },(uCL l line q).2)
 else if w=uFA then ({ n with goals:=n.goals++[(uCr l line q).1] },(uCr l line q).2)
 else (n,q)
def uCl (l : List Tk) (n : Nar) (p : PS) : Nar × PS :=
 ((uBY l n (uCH l p) (uAA l uB6 p).1 (uAA l uB6 p).2).1,uA7 l [59] (uBY l n (uCH l p) (uAA l uB6 p).1 (uAA l uB6 p).2).2)
def uDi (l : List Tk) : Nat→Nar→PS→Nar × PS
 | 0,n,p=>(n,p)
 | m + 1,n,p=>if p.bad=true then (n,p) else if symQ l p [125]=true then (n,p.go) else uDi l m (uCl l n p).1 (uCl l n p).2
def uJm (l : List Tk) (p : PS) : Int:=if l.length=0 then 1 else if l.length≤p.at' then (l.getD (l.length - 1) tk0).line else (l.getD p.at' tk0).line
def endE (l : List Tk) (p : PS) : Int × Int:=if p.bad=true∨p.at' < l.length then (uJm l p,2) else (0,0)
def nar0 : Nar:=⟨[],[],[],[],[],[]⟩
def uDN (l : List Tk) : Nar × PS :=
 let a:=uAA l [uFK] ⟨0,false⟩
 let b:=uAA l [] a.2
 uDi l (l.length + 2) { nar0 with name:=b.1 } (uA7 l [123] b.2)
end Go.Proofs.YtnjjdbapadkomaaGreatDoor
namespace Go.Proofs.YtnjjdbapadkomaaGreatDoor
open Go Go.Abs
def uBH (a b : Int) : Int:=if a < b then -1 else if b < a then 1 else 0
theorem uEb (a b : Int) : Ctr sys 123 [xi a,xi b] [] (xi (uBH a b)) none []:=by
 refine uAv Tryz.func123 rfl rfl rfl rfl rfl rfl ?_;refine uAe (uAb ?_);refine uAa rfl rfl rfl (uAd rfl gU) ?_;refine uAf ?_;refine uAe ?_;refine uAe (uAb ?_);refine uAa rfl rfl rfl (uAc rfl gU) ?_;refine uAa rfl rfl rfl (uAc rfl gU) ?_;refine uAa rfl rfl rfl (uAk rfl rfl gU gU rfl) ?_;refine uAf ?_;refine uAl rfl (fun hc=>?_) (fun hc=>?_)
 ·refine uAe (uAb ?_)
  refine uAa rfl rfl rfl (uAd rfl gU) ?_;refine uAf ?_;refine uAo ?_
  repeat (first | refine tR ?_ | refine bR ?_)
  refine uAq rfl ?_ trivial
  simp at hc; show xi _=xi _; simp [uBH,hc]
 ·refine uAp ?_
  refine uAe ?_;refine uAe (uAb ?_);refine uAa rfl rfl rfl (uAc rfl gU) ?_;refine uAa rfl rfl rfl (uAc rfl gU) ?_;refine uAa rfl rfl rfl (uAk rfl rfl gU gU rfl) ?_;refine uAf ?_;refine uAn (s:=⟨[(10,_,_)],[],[],[]⟩) (uAj (⟨sx rfl,trivial⟩) trivial trivial) ?_;refine uAl rfl (fun hc1=>?_) (fun hc1=>?_)
  ·refine uAe (uAb ?_)
   refine uAa rfl rfl rfl (uAd rfl gU) ?_;refine uAf ?_;refine uAo ?_
   repeat (first | refine tR ?_ | refine bR ?_)
   refine uAq rfl ?_ trivial
   simp at hc hc1; show xi _=xi _; simp [uBH,hc1]; omega
  ·refine uAp ?_
   refine uAe (uAb ?_);refine uAa rfl rfl rfl (uAd rfl gU) ?_;refine uAf ?_;refine uAo ?_
   repeat (first | refine tR ?_ | refine bR ?_)
   refine uAq rfl ?_ trivial
   simp at hc hc1; show xi _=xi _; simp [uBH]; omega
def uNA (t : T) (k : Nat) : St:={ t:=[(1,true, .v (.ptr (.l 1) 0)),(3,true,xi (1 + T.sizes (t.kids.take k))),(4,true,xi k)],bx:=[(.l 1,t.cells)],ow:=[] }
theorem uFo : ∀ (n : Nat) (t : T),t.size≤n→n≤2000000→Ctr sys 106 [.v (.agg t.cells)] [] (xi t.size) none []:=by
 intro n
 induction n with
 | zero=>intro t h _; have := t.size_pos; omega
 | succ n ih =>
  intro t ht hn
  refine uAv Tryz.func106 rfl rfl rfl rfl rfl rfl ?_;refine uAe (uAb ?_);refine uAu rfl (uAT rfl rfl rfl rfl) ?_;refine uAa rfl rfl rfl (uAd rfl gU) ?_;refine uAf ?_;refine uAe (uAb ?_);refine uAa rfl rfl rfl (uAd rfl gU) ?_;refine uAf ?_;refine uAe ?_;refine uAe (uAb ?_);refine uAa rfl rfl rfl (uAd rfl gU) ?_;refine uAf ?_;refine uAt ?_;refine uCA (uNA t) (fun k=>k≤t.kids.length) (fun k=>t.kids.length - k) 0 (Nat.zero_le _) ?_ ?_
  ·refine uAj ⟨⟨_,rfl,rfl⟩,⟨_,rfl,rfl⟩,⟨_,rfl,rfl⟩,trivial⟩ ⟨⟨_,rfl,rfl⟩,trivial⟩ trivial
  ·intro k hk
   refine uAe ?_;refine uAe (uAb ?_);refine uAa rfl rfl rfl (uAc rfl gU) ?_;refine uAa rfl rfl rfl (uAg rfl gU rfl rfl) ?_;refine uAa rfl rfl rfl (uAm rfl gU rfl rfl rfl rfl) ?_;refine uAQ rfl rfl rfl rfl rfl gU rfl rfl ?_ (fun hh=>by simp at hh); intro hlen;refine uAa rfl rfl rfl (uAk rfl rfl gU gU rfl) ?_;refine uAf ?_;refine uAn (s:=⟨[(1,_,_),(3,_,_),(4,_,_),(9,_,_)],[(.l 1,_)],[],[]⟩) (uAj (⟨sx rfl,sx rfl,sx rfl,sx rfl,trivial⟩) (⟨sx rfl,trivial⟩) trivial) ?_;refine uAl rfl (fun hc=>?_) (fun hc=>?_)
   ·rw [T.rows_len] at hlen hc
    have hlt : k < t.kids.length:=by simpa using hc
    obtain ⟨x,hx⟩ : ∃ x,t.kids[k]? = some x:=⟨_,List.getElem?_eq_getElem hlt⟩
    have h1:=T.sizes_take _ _ _ hx
    have h2:=T.sizes_take_le t.kids (k + 1)
    have h3:=t.size_eq
    have h4:=x.size_pos
    refine uAp ?_;refine uAe ?_;refine uAt ?_;refine uAb ?_;refine uAa rfl rfl rfl (uAc rfl gU) ?_;refine uAa rfl rfl rfl (uAg rfl gU rfl rfl) ?_;refine uAa rfl rfl rfl (uAm rfl gU rfl rfl rfl rfl) ?_;refine uAa rfl rfl rfl (uAc rfl gU) ?_;refine uAa rfl rfl rfl (uAy rfl rfl gU gU rfl rfl rfl (fun _=>T.rows_get hx)) ?_;refine uAa rfl rfl rfl (uAJ rfl gU rfl rfl rfl rfl) ?_;refine uAw rfl rfl rfl rfl rfl rfl gU gU (ih x (by omega) (by omega)) rfl ?_;refine uAa rfl rfl rfl (uAr rfl rfl gU gU rfl (IntWalk.i64_in _ (by omega))) ?_;refine uAa rfl rfl rfl (uAd rfl gU) ?_;refine uAf ?_;refine uAn (s:=⟨[(1,_,_),(3,_,_),(4,_,_)],[(.l 1,_)],[],[]⟩) (uAj (⟨sx rfl,sx rfl,sx rfl,trivial⟩) (⟨sx rfl,trivial⟩) trivial) ?_;refine uAb ?_;refine uAa rfl rfl rfl (uAc rfl gU) ?_;refine uAa rfl rfl rfl (uAr rfl rfl gU gU rfl (IntWalk.i64_in _ (by omega))) ?_;refine uAa rfl rfl rfl (uAd rfl gU) ?_;refine uAf ?_;refine ⟨k + 1,by omega,by omega,?_⟩;refine uAj ⟨⟨_,rfl,rfl⟩,⟨_,rfl,?_⟩,⟨_,rfl,rfl⟩,trivial⟩ ⟨⟨_,rfl,rfl⟩,trivial⟩ trivial
    rw [h1]; simp; omega
   ·refine uAL ?_
    repeat (first | refine uAF ?_ | refine uAE ?_ | refine uAB rfl ?_)
    refine uAe (uAb ?_);refine uAa rfl rfl rfl (uAc rfl gU) ?_;refine uAa rfl rfl rfl (uAd rfl gU) ?_;refine uAf ?_;refine uAo ?_
    repeat (first | refine tR ?_ | refine bR ?_)
    refine uAq rfl ?_ trivial
    rw [T.rows_len] at hc
    have : k=t.kids.length:=by simp at hc; omega
    subst this
    rw [List.take_length,t.size_eq]
    show xi _=xi _
    simp
end Go.Proofs.YtnjjdbapadkomaaGreatDoor
namespace Go.Proofs.YtnjjdbapadkomaaGreatDoor
open Go Go.Abs
theorem uHR (n : Int) : Ctr sys 178 [xu n] [] (xb (uBN n)) none []:=by
 refine uAv Tryz.func178 rfl rfl rfl rfl rfl rfl ?_;refine uAe (uAb ?_);refine uAa rfl rfl rfl (uAd rfl gU) ?_;refine uAf ?_;refine uAe (uAb ?_);refine uAa rfl rfl rfl (uAc rfl gU) ?_;refine uAa rfl rfl rfl (uAk rfl rfl gU gU rfl) ?_;refine uAa rfl rfl rfl (uAc rfl gU) ?_;refine uAa rfl rfl rfl (uAc rfl gU) ?_;refine uAa rfl rfl rfl (uAk rfl rfl (fun hh=>hh) gU rfl) ?_;refine uAa rfl rfl rfl (uAO rfl rfl gU (fun _ hi=>gP rfl hi)) ?_;refine uAa rfl rfl rfl (uAc rfl gU) ?_;refine uAa rfl rfl rfl (uAc rfl gU) ?_;refine uAa rfl rfl rfl (uAk rfl rfl (fun hh=>hh) gU rfl) ?_;refine uAa rfl rfl rfl (uAc rfl (fun hh=>hh)) ?_;refine uAa rfl rfl rfl (uAc rfl gU) ?_;refine uAa rfl rfl rfl (uAk rfl rfl (fun hh=>hh) gU rfl) ?_;refine uAa rfl rfl rfl (uAO rfl rfl (fun hh=>hh) (fun hh hi=>gP hh hi)) ?_;refine uAa rfl rfl rfl (uAM rfl rfl gU (fun _ hi=>gP rfl hi)) ?_;refine uAa rfl rfl rfl (uAc rfl gU) ?_;refine uAa rfl rfl rfl (uAc rfl gU) ?_;refine uAa rfl rfl rfl (uAk rfl rfl (fun hh=>hh) gU rfl) ?_;refine uAa rfl rfl rfl (uAc rfl (fun hh=>hh)) ?_;refine uAa rfl rfl rfl (uAc rfl gU) ?_;refine uAa rfl rfl rfl (uAk rfl rfl (fun hh=>hh) gU rfl) ?_;refine uAa rfl rfl rfl (uAO rfl rfl (fun hh=>hh) (fun hh hi=>gP hh hi)) ?_;refine uAa rfl rfl rfl (uAM rfl rfl gU (fun _ hi=>gP rfl hi)) ?_
 refine uAa rfl rfl rfl (uAc rfl gU) ?_;refine uAa rfl rfl rfl (uAc rfl gU) ?_;refine uAa rfl rfl rfl (uAk rfl rfl (fun hh=>hh) gU rfl) ?_;refine uAa rfl rfl rfl (uAM rfl rfl gU (fun _ hi=>gP rfl hi)) ?_;refine uAa rfl rfl rfl (uAc rfl gU) ?_;refine uAa rfl rfl rfl (uAc rfl gU) ?_;refine uAa rfl rfl rfl (uAk rfl rfl (fun hh=>hh) gU rfl) ?_;refine uAa rfl rfl rfl (uAM rfl rfl gU (fun _ hi=>gP rfl hi)) ?_;refine uAa rfl rfl rfl (uAd rfl gU) ?_;refine uAf ?_;refine uAo ?_
 repeat (first | refine tR ?_ | refine bR ?_)
 refine uAq rfl ?_ trivial
 rfl
end Go.Proofs.YtnjjdbapadkomaaGreatDoor
namespace Go.Proofs.YtnjjdbapadkomaaGreatDoor
open Go Go.Abs
def uBR (t : T) : Int :=
 if (t.kind=1∨t.kind=2)∧0≤t.sort∧t.sort≤5∧t.kids.length=0∨t.kind=3∧t.sort=0 then
  if uCB t.name=true then (if 8 < t.kids.length then 3 else 0) else 2
 else 1
namespace T
mutual
def nodesE : T→Int
 | mk k n s ks=>if uBR (mk k n s ks)≠0 then uBR (mk k n s ks) else nodesEs ks
def nodesEs : List T→Int
 | []=>0
 | t :: ts=>if nodesE t≠0 then nodesE t else nodesEs ts
end
theorem nodesE_eq (t : T) : t.nodesE=if uBR t≠0 then uBR t else nodesEs t.kids:=by cases t; rw [nodesE]; rfl
theorem nodesEs_hit : ∀ (ts : List T) (k : Nat) (x : T),ts[k]? = some x→nodesEs (ts.take k)=0→x.nodesE≠0→nodesEs ts=x.nodesE
 | [],k,x,h,_,_=>by simp at h
 | t :: ts,0,x,h,_,hx=>by simp at h; subst h; rw [nodesEs,if_pos hx]
 | t :: ts,k + 1,x,h,h0,hx=>by
  rw [List.take_succ_cons,nodesEs] at h0
  rw [nodesEs]
  by_cases ht : t.nodesE=0
  ·rw [if_neg (by simpa using ht)] at h0
   rw [if_neg (by simpa using ht)]
   exact nodesEs_hit ts k x (by simpa using h) h0 hx
  ·rw [if_pos ht] at h0; exact absurd h0 ht
theorem nodesEs_step : ∀ (ts : List T) (k : Nat) (x : T),ts[k]? = some x→nodesEs (ts.take k)=0→x.nodesE=0→nodesEs (ts.take (k + 1))=0
 | [],k,x,h,_,_=>by simp at h
 | t :: ts,0,x,h,_,hx=>by simp at h; subst h; simp [nodesEs,hx]
 | t :: ts,k + 1,x,h,h0,hx=>by
  rw [List.take_succ_cons,nodesEs] at h0
  rw [List.take_succ_cons,nodesEs]
  by_cases ht : t.nodesE=0
  ·rw [if_neg (by simpa using ht)] at h0
   rw [if_neg (by simpa using ht)]
   exact nodesEs_step ts k x (by simpa using h) h0 hx
  ·rw [if_pos ht] at h0; exact absurd h0 ht
mutual
def depth : T→Nat
 | mk _ _ _ ks=>depths ks + 1
def depths : List T→Nat
 | []=>0
 | t :: ts=>max (depth t) (depths ts)
end
theorem depth_eq (t : T) : t.depth=depths t.kids + 1:=by cases t; rw [depth]; rfl
theorem depths_take : ∀ (ts : List T) (k : Nat) (x : T),ts[k]? = some x→depths (ts.take (k + 1))=max (depths (ts.take k)) x.depth
 | [],k,x,h=>by simp at h
 | t :: ts,0,x,h=>by simp at h; subst h; simp [depths]
 | t :: ts,k + 1,x,h=>by
  have := depths_take ts k x (by simpa using h)
  simp only [List.take_succ_cons,depths]
  omega
mutual
theorem depth_le : ∀ t : T,t.depth≤t.size
 | mk k n s ks=>by have := uHp ks; rw [depth,size]; omega
theorem uHp : ∀ ts : List T,depths ts≤sizes ts
 | []=>by simp [depths]
 | t :: ts=>by have h1:=depth_le t; have h2:=uHp ts; rw [depths,sizes]; omega
end
theorem depths_take_le : ∀ (ts : List T) (k : Nat),depths (ts.take k)≤depths ts
 | [],k=>by simp
 | t :: ts,0=>by simp [depths]
 | t :: ts,k + 1=>by have := depths_take_le ts k; simp only [List.take_succ_cons,depths]; omega
structure Chk where
 e : Int
 n : Int
 d : Int
mutual
def chk : T→Int→Int→Int→Chk
 | mk k nm s ks,lv,n,d=>if uBR (mk k nm s ks)≠0 then ⟨uBR (mk k nm s ks),n + 1,max d lv⟩ else chks ks (lv + 1) (n + 1) (max d lv)
def chks : List T→Int→Int→Int→Chk
 | [],_,n,d=>⟨0,n,d⟩
 | t :: ts,lv,n,d=>if (chk t lv n d).e≠0 then chk t lv n d else chks ts lv (chk t lv n d).n (chk t lv n d).d
end
theorem chk_eq (t : T) (lv n d : Int) : t.chk lv n d=if uBR t≠0 then ⟨uBR t,n + 1,max d lv⟩ else chks t.kids (lv + 1) (n + 1) (max d lv):=by cases t; rw [chk]; rfl
mutual
theorem chk_e : ∀ (t : T) (lv n d : Int),(t.chk lv n d).e=t.nodesE
 | mk k nm s ks,lv,n,d=>by
  rw [chk,nodesE]
  split
  ·rfl
  ·exact chks_e ks _ _ _
theorem chks_e : ∀ (ts : List T) (lv n d : Int),(chks ts lv n d).e=nodesEs ts
 | [],_,_,_=>by rw [chks,nodesEs]
 | t :: ts,lv,n,d=>by
  rw [chks,nodesEs]
  rw [chk_e t lv n d]
  split
  ·exact chk_e t lv n d
  ·exact chks_e ts _ _ _
end
mutual
theorem chk_n : ∀ (t : T) (lv n d : Int),n≤(t.chk lv n d).n∧(t.chk lv n d).n≤n + t.size∧(t.nodesE=0→(t.chk lv n d).n=n + t.size)
 | mk k nm s ks,lv,n,d=>by
  rw [chk,nodesE,size]
  have h:=chks_n ks (lv + 1) (n + 1) (max d lv)
  split
  ·dsimp only; exact ⟨by omega,by omega,fun hh=>absurd hh (by assumption)⟩
  ·exact ⟨by omega,by omega,fun hh=>by have := h.2.2 hh; omega⟩
theorem chks_n : ∀ (ts : List T) (lv n d : Int),n≤(chks ts lv n d).n∧(chks ts lv n d).n≤n + sizes ts∧(nodesEs ts=0→(chks ts lv n d).n=n + sizes ts)
 | [],_,n,_=>by rw [chks,sizes]; dsimp only; omega
 | t :: ts,lv,n,d=>by
  rw [chks,nodesEs,sizes,chk_e]
  have h:=chk_n t lv n d
  have h2:=chks_n ts lv (t.chk lv n d).n (t.chk lv n d).d
  split
  ·exact ⟨by omega,by omega,fun hh=>absurd hh (by assumption)⟩
  ·rename_i hz
   have hz' : t.nodesE=0:=by simpa using hz
   have := h.2.2 hz'
   exact ⟨by omega,by omega,fun hh=>by have := h2.2.2 hh; omega⟩
end
mutual
theorem chk_d : ∀ (t : T) (lv n d : Int),t.nodesE=0→(t.chk lv n d).d=max d (lv + t.depth - 1)
 | mk k nm s ks,lv,n,d,h=>by
  rw [nodesE] at h
  rw [chk,depth]
  split
  ·rename_i hz; rw [if_pos hz] at h; exact absurd h hz
  ·rename_i hz
   rw [if_neg hz] at h
   rw [uMj ks (lv + 1) (n + 1) (max d lv) h]
   split <;> omega
theorem uMj : ∀ (ts : List T) (lv n d : Int),nodesEs ts=0→(chks ts lv n d).d=if depths ts=0 then d else max d (lv + depths ts - 1)
 | [],_,n,d,_=>by rw [chks,depths]; simp
 | t :: ts,lv,n,d,h=>by
  rw [nodesEs] at h
  rw [chks,depths,chk_e]
  split
  ·rename_i hz; rw [if_pos hz] at h; exact absurd h hz
  ·rename_i hz
   rw [if_neg hz] at h
   rw [uMj ts lv _ _ h,chk_d t lv n d (by simpa using hz)]
   have hd : 1≤t.depth:=by rw [depth_eq]; omega
   split <;> split <;> omega
end
theorem uDW : ∀ (a b : List T) (lv n d : Int),chks (a++b) lv n d=if (chks a lv n d).e≠0 then chks a lv n d else chks b lv (chks a lv n d).n (chks a lv n d).d
 | [],b,lv,n,d=>by rw [List.nil_append]; simp [chks]
 | t :: a,b,lv,n,d=>by
  rw [List.cons_append,chks,chks]
  by_cases h : (t.chk lv n d).e≠0
  ·rw [if_pos h,if_pos h,if_pos h]
  ·rw [if_neg h,if_neg h,uDW a b]
theorem take_succ {ts : List T} {k : Nat} {x : T} (h : ts[k]? = some x) : ts.take (k + 1)=ts.take k++[x]:=by
 rw [List.take_add_one,h]; rfl
theorem chks_step {ts : List T} {k : Nat} {x : T} {lv n d : Int} (h : ts[k]? = some x) (h0 : (chks (ts.take k) lv n d).e=0) (hx : x.nodesE=0) :
  chks (ts.take (k + 1)) lv n d=x.chk lv (chks (ts.take k) lv n d).n (chks (ts.take k) lv n d).d:=by
 rw [take_succ h,uDW,if_neg (by simpa using h0),chks,chk_e,if_neg (by simpa using hx),chks]
 have := chk_e x lv (chks (ts.take k) lv n d).n (chks (ts.take k) lv n d).d
 rw [hx] at this
 cases hc : x.chk lv (chks (ts.take k) lv n d).n (chks (ts.take k) lv n d).d
 rw [hc] at this
 simp at this
 simp [this]
theorem chks_hit {ts : List T} {k : Nat} {x : T} {lv n d : Int} (h : ts[k]? = some x) (h0 : (chks (ts.take k) lv n d).e=0) (hx : x.nodesE≠0) :
  chks ts lv n d=x.chk lv (chks (ts.take k) lv n d).n (chks (ts.take k) lv n d).d:=by
 have hs : ts=ts.take k++(x :: ts.drop (k + 1)):=by
  have hlt:=(List.getElem?_eq_some_iff.1 h)
  obtain ⟨hl,he⟩:=hlt
  rw [← he,List.getElem_cons_drop,List.take_append_drop]
 conv=>lhs; rw [hs]
 rw [uDW,if_neg (by simpa using h0),chks,chk_e,if_pos hx]
end T
def uC3 (t : T) : Int:=if t.nodesE≠0 then t.nodesE else if 400 < t.size∨40 < t.depth then 3 else 0
end Go.Proofs.YtnjjdbapadkomaaGreatDoor
namespace Go.Proofs.YtnjjdbapadkomaaGreatDoor
open Go Go.Abs
abbrev xm (t : T) : X:=.v (.agg t.cells)
abbrev xl (ts : List T) : X:=.v (.c (.sl 4 (T.rows ts)))
theorem uD4 (v : Int) (h : uBN v=false∨(48≤v∧v≤57)∨v=95∨v=35) : uBd v=false:=by
 rcases h with h | h | h | h
 ·cases hl : uBd v with
  | false=>rfl
  | true=>simp [uBN,hl] at h
 all_goals simp [uBd]; omega
theorem uJO (v : Int) (h : uBN v=true) (h1 : ¬ (48≤v∧v≤57)) (h2 : ¬ v=95) (h3 : ¬ v=35) : uBd v=true:=by
 cases hl : uBd v with
 | true=>rfl
 | false=>simp [uBN,hl,uBt] at h; omega
def uMd (l : List UInt8) (k : Nat) : St:={ t:=[(0,true,xs l),(38,true,xi l.length),(39,true,xi k)],bx:=[],ow:=[] }
theorem uIa (l : List UInt8) : Ctr sys 169 [xs l] [] (xb (uCB l)) none []:=by
 refine uAv Tryz.func169 rfl rfl rfl rfl rfl rfl ?_;refine uAe (uAb ?_);refine uAa rfl rfl rfl (uAd rfl gU) ?_;refine uAf ?_;refine uAe ?_;refine uAe (uAb ?_);refine uAa rfl rfl rfl (uAc rfl gU) ?_;refine uAa rfl rfl rfl (uAY rfl rfl gU gU rfl) ?_;refine uAa rfl rfl rfl (uAc rfl gU) ?_;refine uAa rfl rfl rfl (uAc rfl gU) ?_;refine uAa rfl rfl rfl (uBK rfl (fun hh=>hh) (Tryz.underlying9)) ?_;refine uAa rfl rfl rfl (uAk rfl rfl (fun hh=>hh) gU rfl) ?_;refine uAa rfl rfl rfl (uAM rfl rfl gU (fun _ hi=>gP rfl hi)) ?_;refine uAa rfl rfl rfl (uAc rfl gU) ?_;refine uAa rfl rfl rfl (uAc rfl gU) ?_;refine uAa rfl rfl rfl (uAC rfl rfl (fun hh=>hh) gU Tryz.underlying9 rfl (by intro hh; simp at hh; exact List.length_pos_iff.2 hh.1)) ?_;refine uAw rfl rfl rfl rfl rfl rfl gU (fun hh=>gA ((fun hh=>hh) hh) (rfl)) (uHR _) rfl ?_;refine uAa rfl rfl rfl (uA1 rfl (fun hh=>hh)) ?_;refine uAa rfl rfl rfl (uAM rfl rfl gU (fun _ hi=>gP rfl hi)) ?_;refine uAa rfl rfl rfl (uAc rfl gU) ?_;refine uAa rfl rfl rfl (uAc rfl gU) ?_;refine uAa rfl rfl rfl (uAC rfl rfl (fun hh=>hh) gU Tryz.underlying9 rfl (by intro hh; simp at hh; exact List.length_pos_iff.2 hh.1.1)) ?_;refine uAa rfl rfl rfl (uAk rfl rfl (fun hh=>hh) gU rfl) ?_;refine uAa rfl rfl rfl (uAc rfl (fun hh=>hh)) ?_
 refine uAa rfl rfl rfl (uAc rfl gU) ?_;refine uAa rfl rfl rfl (uAC rfl rfl (fun hh=>hh) gU Tryz.underlying9 rfl (by intro hh; simp at hh; exact List.length_pos_iff.2 hh.1.1.1)) ?_;refine uAa rfl rfl rfl (uAk rfl rfl (fun hh=>hh) gU rfl) ?_;refine uAa rfl rfl rfl (uAO rfl rfl (fun hh=>hh) (fun hh hi=>gP hh hi)) ?_;refine uAa rfl rfl rfl (uAM rfl rfl gU (fun _ hi=>gP rfl hi)) ?_;refine uAa rfl rfl rfl (uAc rfl gU) ?_;refine uAa rfl rfl rfl (uAc rfl gU) ?_;refine uAa rfl rfl rfl (uAC rfl rfl (fun hh=>hh) gU Tryz.underlying9 rfl (by intro hh; simp at hh; exact List.length_pos_iff.2 hh.1.1.1)) ?_;refine uAa rfl rfl rfl (uAk rfl rfl (fun hh=>hh) gU rfl) ?_;refine uAa rfl rfl rfl (uAM rfl rfl gU (fun _ hi=>gP rfl hi)) ?_;refine uAa rfl rfl rfl (uAc rfl gU) ?_;refine uAa rfl rfl rfl (uAc rfl gU) ?_;refine uAa rfl rfl rfl (uAC rfl rfl (fun hh=>hh) gU Tryz.underlying9 rfl (by intro hh; simp at hh; exact List.length_pos_iff.2 hh.1.1.1.1)) ?_;refine uAa rfl rfl rfl (uAk rfl rfl (fun hh=>hh) gU rfl) ?_;refine uAa rfl rfl rfl (uAM rfl rfl gU (fun _ hi=>gP rfl hi)) ?_;refine uAf ?_;refine uAn (s:=⟨[(0,_,_),(36,_,_)],[],[],[]⟩) (uAj (⟨sx rfl,sx rfl,trivial⟩) trivial trivial) ?_;refine uAl rfl (fun hc=>?_) (fun hc=>?_)
 ·refine uAe (uAb ?_)
  refine uAa rfl rfl rfl (uAd rfl gU) ?_;refine uAf ?_;refine uAo ?_
  repeat (first | refine tR ?_ | refine bR ?_)
  refine uAq rfl ?_ trivial;refine uCu ?_
  simp only [Bool.or_eq_true,Bool.not_eq_true',decide_eq_true_eq,Bool.and_eq_true,beq_iff_eq] at hc
  rcases hc with ((((hc | hc) | hc) | hc) | hc) | hc
  ·subst hc; rfl
  ·have : ¬ l.length≤24:=by omega
   simp [uCB,this]
  ·simp only [uCB,uD4 _ (.inl hc),Bool.and_false,Bool.false_and]
  ·simp only [uCB,uD4 _ (.inr (.inl hc)),Bool.and_false,Bool.false_and]
  ·simp only [uCB,uD4 _ (.inr (.inr (.inl hc))),Bool.and_false,Bool.false_and]
  ·simp only [uCB,uD4 _ (.inr (.inr (.inr hc))),Bool.and_false,Bool.false_and]
 ·simp only [Bool.or_eq_false_iff,Bool.not_eq_false',decide_eq_false_iff_not,beq_eq_false_iff_ne] at hc
  obtain ⟨⟨⟨⟨⟨hc1,hc2⟩,hc3⟩,hc4⟩,hc5⟩,hc6⟩:=hc
  have hlet:=uJO _ hc3 (by rintro ⟨q1,q2⟩; rw [decide_eq_true q1,decide_eq_true q2] at hc4; simp at hc4) hc5 hc6
  refine uAp ?_;refine uAe ?_;refine uAe (uAb ?_);refine uAa rfl rfl rfl (uAc rfl gU) ?_;refine uBj rfl rfl rfl rfl rfl gU (Tryz.underlying9) ?_ (fun hh=>by simp at hh); intro hlen;refine uAa rfl rfl rfl (uAc rfl gU) ?_;refine uAf ?_;refine uAt ?_;refine uCA (uMd l) (fun k=>k≤l.length ∧ ∀ j,j < k→uBN ((l.getD j 0).toNat : Int)=true) (fun k=>l.length - k) 0 ⟨Nat.zero_le _,fun j h=>by omega⟩ ?_ ?_
  ·refine uAj ⟨⟨_,rfl,rfl⟩,⟨_,rfl,rfl⟩,⟨_,rfl,rfl⟩,trivial⟩ trivial trivial
  ·rintro k ⟨hk,hall⟩
   refine uAe (uAb ?_);refine uAa rfl rfl rfl (uAk rfl rfl gU gU rfl) ?_;refine uAf ?_;refine uAe ?_;refine uAl rfl (fun hc2=>?_) (fun hc2=>?_)
   ·have hlt : k < l.length:=by simpa using hc2
    refine uAp ?_;refine uAe ?_;refine uAt ?_;refine uAe (uAb ?_);refine uAa rfl rfl rfl (uAc rfl gU) ?_;refine uAa rfl rfl rfl (uAd rfl gU) ?_;refine uAf ?_;refine uAe (uAb ?_);refine uAa rfl rfl rfl (uAc rfl gU) ?_;refine uAa rfl rfl rfl (uAc rfl gU) ?_;refine uAa rfl rfl rfl (uAC rfl rfl gU gU Tryz.underlying9 rfl (fun _=>hlt)) ?_;refine uAw rfl rfl rfl rfl rfl rfl gU gU (uHR _) rfl ?_;refine uAa rfl rfl rfl (uA1 rfl gU) ?_;refine uAf ?_;refine uAn (s:=⟨[(0,_,_),(38,_,_),(39,_,_),(46,_,_)],[],[],[]⟩) (uAj (⟨sx rfl,sx rfl,sx rfl,sx rfl,trivial⟩) trivial trivial) ?_;refine uAl rfl (fun hc3=>?_) (fun hc3=>?_)
    ·refine uAe (uAb ?_)
     refine uAa rfl rfl rfl (uAd rfl gU) ?_;refine uAf ?_;refine uAo ?_
     repeat (first | refine tR ?_ | refine bR ?_)
     refine uAq rfl ?_ trivial;refine uCu ?_
     have : (l.all fun b=>uBN (b.toNat : Int))=false:=uIV hlt (by simpa using hc3)
     simp [uCB,this]
    ·refine uAp ?_
     refine uAb ?_;refine uAa rfl rfl rfl (uAr rfl rfl gU gU rfl (IntWalk.i64_in _ (by omega))) ?_;refine uAa rfl rfl rfl (uAc rfl gU) ?_;refine uAf ?_;refine ⟨k + 1,⟨by omega,?_⟩,by omega,?_⟩
     ·intro j hj
      rcases Nat.lt_or_ge j k with h | h
      ·exact hall j h
      ·have : j=k:=by omega
       subst this
       simpa using hc3
     ·refine uAj ⟨⟨_,rfl,rfl⟩,⟨_,rfl,rfl⟩,⟨_,rfl,rfl⟩,trivial⟩ trivial trivial
   ·refine uAL ?_
    repeat (first | refine uAF ?_ | refine uAE ?_ | refine uAB rfl ?_)
    refine uAe (uAb ?_);refine uAa rfl rfl rfl (uAd rfl gU) ?_;refine uAf ?_;refine uAo ?_
    repeat (first | refine tR ?_ | refine bR ?_)
    refine uAq rfl ?_ trivial;refine uCu ?_
    have hk' : k=l.length:=by simp at hc2; omega
    subst hk'
    have := uMz (p := fun b=>uBN (b.toNat : Int)) hall
    have hne : l.length≠0 := by intro h; have := List.eq_nil_of_length_eq_zero h; simp [this] at hc1
    have h24 : l.length≤24:=by omega
    simp only [uCB,this,hlet]
    rw [decide_eq_true hne,decide_eq_true h24]
    rfl
theorem uK7 (t : T) : Ctr sys 170 [xm t] [] (xi (uBR t)) none []:=by
 refine uAv Tryz.func170 rfl rfl rfl rfl rfl rfl ?_;refine uAe (uAb ?_);refine uAu rfl (uAT rfl rfl rfl rfl) ?_;refine uAa rfl rfl rfl (uAd rfl gU) ?_;refine uAf ?_;refine uAe (uAb ?_);refine uAa rfl rfl rfl (uAg rfl gU rfl rfl) ?_;refine uAa rfl rfl rfl (uAm rfl gU rfl rfl rfl rfl) ?_;refine uAa rfl rfl rfl (uAk rfl rfl gU gU rfl) ?_;refine uAa rfl rfl rfl (uAc rfl gU) ?_;refine uAa rfl rfl rfl (uAg rfl gU rfl rfl) ?_;refine uAa rfl rfl rfl (uAm rfl (fun hh=>hh) rfl rfl rfl rfl) ?_;refine uAa rfl rfl rfl (uAk rfl rfl (fun hh=>hh) gU rfl) ?_;refine uAa rfl rfl rfl (uAM rfl rfl gU (fun _ hi=>gP rfl hi)) ?_;refine uAa rfl rfl rfl (uAd rfl gU) ?_;refine uAf ?_;refine uAn (s:=⟨[(1,_,_),(3,_,_)],[(.l 1,_)],[],[]⟩) (uAj (⟨sx rfl,sx rfl,trivial⟩) (⟨sx rfl,trivial⟩) trivial) ?_;refine uAe ?_;refine uAe (uAb ?_);refine uAa rfl rfl rfl (uAc rfl gU) ?_;refine uAa rfl rfl rfl (uA1 rfl gU) ?_;refine uAa rfl rfl rfl (uAc rfl gU) ?_;refine uAa rfl rfl rfl (uAg rfl gU rfl rfl) ?_;refine uAa rfl rfl rfl (uAm rfl (fun hh=>hh) rfl rfl rfl rfl) ?_;refine uAa rfl rfl rfl (uAk rfl rfl (fun hh=>hh) gU rfl) ?_;refine uAa rfl rfl rfl (uAO rfl rfl gU (fun _ hi=>gP rfl hi)) ?_;refine uAa rfl rfl rfl (uAc rfl gU) ?_
 refine uAa rfl rfl rfl (uAg rfl gU rfl rfl) ?_;refine uAa rfl rfl rfl (uAm rfl (fun hh=>hh) rfl rfl rfl rfl) ?_;refine uAa rfl rfl rfl (uAk rfl rfl (fun hh=>hh) gU rfl) ?_;refine uAa rfl rfl rfl (uAM rfl rfl gU (fun _ hi=>gP rfl hi)) ?_;refine uAa rfl rfl rfl (uAc rfl gU) ?_;refine uAa rfl rfl rfl (uAg rfl gU rfl rfl) ?_;refine uAa rfl rfl rfl (uAm rfl (fun hh=>hh) rfl rfl rfl rfl) ?_;refine uAa rfl rfl rfl (uAk rfl rfl (fun hh=>hh) gU rfl) ?_;refine uAa rfl rfl rfl (uAM rfl rfl gU (fun _ hi=>gP rfl hi)) ?_;refine uAa rfl rfl rfl (uAc rfl gU) ?_;refine uAa rfl rfl rfl (uAc rfl gU) ?_;refine uAa rfl rfl rfl (uA1 rfl (fun hh=>hh)) ?_;refine uAa rfl rfl rfl (uAc rfl (fun hh=>hh)) ?_;refine uAa rfl rfl rfl (uAg rfl gU rfl rfl) ?_;refine uAa rfl rfl rfl (uAm rfl (fun hh=>hh) rfl rfl rfl rfl) ?_;refine uAa rfl rfl rfl (uAk rfl rfl (fun hh=>hh) gU rfl) ?_;refine uAa rfl rfl rfl (uAO rfl rfl (fun hh=>hh) (fun hh hi=>gP hh hi)) ?_;refine uAa rfl rfl rfl (uAM rfl rfl gU (fun _ hi=>gP rfl hi)) ?_;refine uAa rfl rfl rfl (uAc rfl gU) ?_;refine uAa rfl rfl rfl (uAc rfl gU) ?_;refine uAa rfl rfl rfl (uAc rfl (fun hh=>hh)) ?_;refine uAa rfl rfl rfl (uAg rfl gU rfl rfl) ?_;refine uAa rfl rfl rfl (uAm rfl (fun hh=>hh) rfl rfl rfl rfl) ?_
 refine uAa rfl rfl rfl (uBb rfl (fun hh=>hh) rfl rfl) ?_;refine uAa rfl rfl rfl (uAk rfl rfl (fun hh=>hh) gU rfl) ?_;refine uAa rfl rfl rfl (uAO rfl rfl (fun hh=>hh) (fun hh hi=>gP hh hi)) ?_;refine uAa rfl rfl rfl (uAM rfl rfl gU (fun _ hi=>gP rfl hi)) ?_;refine uAf ?_;refine uAn (s:=⟨[(1,_,_),(46,_,_)],[(.l 1,_)],[],[]⟩) (uAj (⟨sx rfl,sx rfl,trivial⟩) (⟨sx rfl,trivial⟩) trivial) ?_;refine uAl rfl (fun hc=>?_) (fun hc=>?_)
 ·refine uAe (uAb ?_)
  refine uAa rfl rfl rfl (uAd rfl gU) ?_;refine uAf ?_;refine uAo ?_
  repeat (first | refine tR ?_ | refine bR ?_)
  refine uAq rfl ?_ trivial;refine uA9 ?_
  rw [uBR,if_neg]
  simp only [Bool.or_eq_true,Bool.and_eq_true,Bool.not_eq_true',Bool.or_eq_false_iff,decide_eq_true_eq,bne_iff_ne,ne_eq,beq_iff_eq,beq_eq_false_iff_ne,T.rows_len] at hc
  rintro (⟨h1,h2,h3,h4⟩ | ⟨h1,h2⟩) <;> omega
 ·have hok : (t.kind=1∨t.kind=2)∧0≤t.sort∧t.sort≤5∧t.kids.length=0∨t.kind=3∧t.sort=0:=by
   simp only [Bool.or_eq_false_iff,Bool.and_eq_false_iff,Bool.not_eq_false',Bool.or_eq_true,decide_eq_false_iff_not,bne_eq_false_iff_eq,beq_iff_eq,beq_eq_false_iff_ne,ne_eq,T.rows_len] at hc
   omega
  refine uAp ?_;refine uAe ?_;refine uAe (uAb ?_);refine uAa rfl rfl rfl (uAg rfl gU rfl rfl) ?_;refine uAa rfl rfl rfl (uAm rfl gU rfl rfl rfl rfl) ?_;refine uAw rfl rfl rfl rfl rfl rfl gU gU (uFP _) rfl ?_;refine uAa rfl rfl rfl (uA1 rfl gU) ?_;refine uAf ?_;refine uAl rfl (fun hc2=>?_) (fun hc2=>?_)
  ·refine uAe (uAb ?_)
   refine uAa rfl rfl rfl (uAd rfl gU) ?_;refine uAf ?_;refine uAo ?_
   repeat (first | refine tR ?_ | refine bR ?_)
   refine uAq rfl ?_ trivial;refine uA9 ?_
   simp only [Bool.not_eq_true'] at hc2
   rw [uBR,if_pos hok,if_neg (by rw [hc2]; simp)]
  ·simp only [Bool.not_eq_false'] at hc2
   refine uAp ?_;refine uAe ?_;refine uAe (uAb ?_);refine uAa rfl rfl rfl (uAg rfl gU rfl rfl) ?_;refine uAa rfl rfl rfl (uAm rfl gU rfl rfl rfl rfl) ?_;refine uAQ rfl rfl rfl rfl rfl gU rfl rfl ?_ (fun hh=>by simp at hh); intro hlen;refine uAa rfl rfl rfl (uAk rfl rfl gU gU rfl) ?_;refine uAf ?_;refine uAn (s:=⟨[(54,_,_)],[],[],[]⟩) (uAj (⟨sx rfl,trivial⟩) trivial trivial) ?_;refine uAl rfl (fun hc3=>?_) (fun hc3=>?_)
   ·refine uAe (uAb ?_)
    refine uAa rfl rfl rfl (uAd rfl gU) ?_;refine uAf ?_;refine uAo ?_
    repeat (first | refine tR ?_ | refine bR ?_)
    refine uAq rfl ?_ trivial;refine uA9 ?_
    simp only [T.rows_len,decide_eq_true_eq] at hc3
    rw [uBR,if_pos hok,if_pos hc2,if_pos (by omega)]
   ·refine uAp ?_
    refine uAe (uAb ?_);refine uAa rfl rfl rfl (uAd rfl gU) ?_;refine uAf ?_;refine uAo ?_
    repeat (first | refine tR ?_ | refine bR ?_)
    refine uAq rfl ?_ trivial;refine uA9 ?_
    simp only [T.rows_len,decide_eq_false_iff_not] at hc3
    rw [uBR,if_pos hok,if_pos hc2,if_neg (by omega)]
end Go.Proofs.YtnjjdbapadkomaaGreatDoor
