/- Our abstract program logic and contracts of this seat's functions, part 1: no statement of its own (long names of ours are shortened by a program). -/
import Derived.Calls
import Derived.Orders
import Derived.Laws.Sem
import Derived.Laws.World
import Derived.Laws.Cells
import Derived.Below
import Derived.Deep.MidRow
import Derived.Tactics
import Derived.IntWalk
import Derived.Lib.Strings
import Derived.Laws.IdiomCopy
import Derived.Laws.AppendOwn
import Derived.KernelRfl
set_option linter.unusedVariables false
set_option linter.unusedSimpArgs false
namespace Go.Abs
theorem J.{u} {α : Sort u} {a : α} : a = a := rfl
theorem O : True := trivial
inductive C where
 | b (x : Bool)
 | i (k : IntKind) (n : Int)
 | s (l : List UInt8)
 | sl (sz : Nat) (es : List (List C))
 | o (v : Value)
 | bl
 | so (u : Value) (sz : Nat) (es : List (List C))
 deriving Inhabited
def All2 {α β : Type} (R : α→β→Prop) : List α→List β→Prop
 | [],[]=>True
 | a :: as,b :: bs=>R a b∧All2 R as bs
 | _,_=>False
section
variable {α β : Type} {R R' : α→β→Prop}
theorem All2.len : ∀ {as : List α} {bs : List β},All2 R as bs→as.length=bs.length
 | [],[],_=>rfl
 | _ :: _,_ :: _,h=>by simp [All2.len h.2]
 | [],_ :: _,h=>h.elim
 | _ :: _,[],h=>h.elim
theorem All2.mono (hr : ∀ a b,R a b→R' a b) : ∀ {as : List α} {bs : List β},All2 R as bs→All2 R' as bs
 | [],[],_=>O
 | _ :: _,_ :: _,h=>⟨hr _ _ h.1,All2.mono hr h.2⟩
 | [],_ :: _,h=>h.elim
 | _ :: _,[],h=>h.elim
theorem All2.get : ∀ {as : List α} {bs : List β},All2 R as bs → ∀ (j : Nat) (a : α),as[j]? = some a → ∃ b,bs[j]? = some b∧R a b
 | [],[],_,j,a,h=>by simp at h
 | a :: as,b :: bs,h,0,a',e=>by simp at e; subst e; exact ⟨b,rfl,h.1⟩
 | a :: as,b :: bs,h,j + 1,a',e=>by simpa using All2.get h.2 j a' (by simpa using e)
 | [],_ :: _,h,_,_,_=>h.elim
 | _ :: _,[],h,_,_,_=>h.elim
theorem All2.mk : ∀ {as : List α} {bs : List β},as.length=bs.length→(∀ (j : Nat) (a : α) (b : β),as[j]? = some a→bs[j]? = some b→R a b)→All2 R as bs
 | [],[],_,_=>O
 | a :: as,b :: bs,hl,h=>⟨h 0 a b J J,All2.mk (by simpa using hl) fun j a b ha hb=>h (j + 1) a b (by simpa using ha) (by simpa using hb)⟩
 | [],_ :: _,hl,_=>by simp at hl
 | _ :: _,[],hl,_=>by simp at hl
theorem All2.append : ∀ {as as' : List α} {bs bs' : List β},All2 R as bs→All2 R as' bs'→All2 R (as++as') (bs++bs')
 | [],_,[],_,_,h'=>h'
 | _ :: _,_,_ :: _,_,h,h'=>⟨h.1,All2.append h.2 h'⟩
 | [],_,_ :: _,_,h,_=>h.elim
 | _ :: _,_,[],_,h,_=>h.elim
theorem All2.take (n : Nat) {as : List α} {bs : List β} (h : All2 R as bs) : All2 R (as.take n) (bs.take n) :=
 All2.mk (by simp [h.len]) fun j a b ha hb=>by
  simp only [List.getElem?_take] at ha hb
  split at ha
  ·rename_i hj
   simp only [hj,if_true] at hb
   obtain ⟨b',hb',hr⟩:=h.get j a ha
   rw[hb] at hb'
   simp at hb'
   subst hb'
   exact hr
  ·simp at ha
theorem All2.drop (n : Nat) {as : List α} {bs : List β} (h : All2 R as bs) : All2 R (as.drop n) (bs.drop n) :=
 All2.mk (by simp [h.len]) fun j a b ha hb=>by
  simp only [List.getElem?_drop] at ha hb
  obtain ⟨b',hb',hr⟩:=h.get _ a ha
  rw[hb] at hb'
  simp at hb'
  subst hb'
  exact hr
end
inductive CRep (w : World) (S : Nat→Nat→Prop) : C→Value→Prop where
 | b (x : Bool) : CRep w S (.b x) (.bool x)
 | i (k : IntKind) (n : Int) : CRep w S (.i k n) (.int k n)
 | s (l : List UInt8) (hm : l.length≤9223372036854775807) : CRep w S (.s l) (.string ⟨l.toArray⟩)
 | emp (sz : Nat) (a : Option Addr) : CRep w S (.sl sz []) (.slice a 0 0)
 | sl (sz : Nat) (es : List (List C)) (blk off len cap : Nat) (vals : Nat→Nat→Value) (hl : es.length=len) (hc : len≤cap) (hm : len≤9223372036854775807)
   (hsz : ∀ (i : Nat) (row : List C),es[i]? = some row→row.length=sz)
   (hcell : ∀ i j,i < len→j < sz→S blk (off + i * sz + j)∧w.cell? ⟨blk,off + i * sz + j,none⟩=some (vals i j))
   (hrep : ∀ (i : Nat) (row : List C) (j : Nat) (c : C),es[i]? = some row→row[j]? = some c→CRep w S c (vals i j)) : CRep w S (.sl sz es) (.slice (some ⟨blk,off,none⟩) len cap)
 | o (v : Value) (h1 : v.oneCell'=true) : CRep w S (.o v) v
 | bl (a : Option Addr) : CRep w S .bl (.pointer a)
 | so (u : Value) (sz : Nat) (es : List (List C)) (h : CRep w S (.sl sz es) u) : CRep w S (.so u sz es) u
theorem CRep.nil {w : World} {S : Nat→Nat→Prop} (sz : Nat) : CRep w S (.sl sz []) (.slice none 0 0):=.emp sz none
theorem CRep.one {w : World} {S : Nat→Nat→Prop} {c : C} {v : Value} (h : CRep w S c v) : v.oneCell'=true:=by
 cases h <;> first|rfl|assumption|(rename_i h; cases h <;> rfl)
theorem CRep.mono {w w' : World} {S S' : Nat→Nat→Prop} {c : C} {v : Value} (hS : ∀ b o,S b o→S' b o)
  (hw : ∀ b o,S b o→w'.cell? ⟨b,o,none⟩=w.cell? ⟨b,o,none⟩) (h : CRep w S c v) : CRep w' S' c v:=by
 induction h with
 | b x=>exact .b x
 | i k n=>exact .i k n
 | s l hm=>exact .s l hm
 | emp sz a=>exact .emp sz a
 | sl sz es blk off len cap vals hl hc hm hsz hcell hrep ih =>
  exact .sl sz es blk off len cap vals hl hc hm hsz (fun i j hi hj=>by
   obtain ⟨h1,h2⟩:=hcell i j hi hj
   exact ⟨hS _ _ h1,by rw[hw _ _ h1,h2]⟩) (fun i row j c hi hj=>ih i row j c hi hj)
 | o v h1=>exact .o v h1
 | bl a=>exact .bl a
 | so u sz es h ih=>exact .so u sz es ih
def RowAt (w : World) (S : Nat→Nat→Prop) (blk off : Nat) (cs : List C) : Prop :=
 ∀ (j : Nat) (c : C),cs[j]? = some c→S blk (off + j) ∧ ∃ v,w.cell? ⟨blk,off + j,none⟩=some v∧CRep w S c v
theorem RowAt.mono {w w' : World} {S S' : Nat→Nat→Prop} {blk off : Nat} {cs : List C} (hS : ∀ b o,S b o→S' b o)
  (hw : ∀ b o,S b o→w'.cell? ⟨b,o,none⟩=w.cell? ⟨b,o,none⟩) (h : RowAt w S blk off cs) : RowAt w' S' blk off cs:=by
 intro j c hj
 obtain ⟨h1,v,h2,h3⟩:=h j c hj
 exact ⟨hS _ _ h1,v,by rw[hw _ _ h1,h2],h3.mono hS hw⟩
theorem CRep.elem {w : World} {S : Nat→Nat→Prop} {sz : Nat} {es : List (List C)} {blk off len cap : Nat}
  (h : CRep w S (.sl sz es) (.slice (some ⟨blk,off,none⟩) len cap)) : es.length=len∧len≤cap∧len≤9223372036854775807∧(∀ (i : Nat) (row : List C),es[i]? = some row→row.length=sz∧RowAt w S blk (off + i * sz) row):=by
 cases h with
 | emp=>exact ⟨rfl,Nat.le_refl _,by omega,fun i row hi=>by simp at hi⟩
 | sl _ _ _ _ _ _ vals hl hc hm hsz hcell hrep =>
  refine ⟨hl,hc,hm,fun i row hi=>⟨hsz i row hi,fun j c hj=>?_⟩⟩
  have hi' : i < len:=by rw[← hl]; exact (List.getElem?_eq_some_iff.1 hi).1
  have hj' : j < sz:=by rw[← hsz i row hi]; exact (List.getElem?_eq_some_iff.1 hj).1
  obtain ⟨h1,h2⟩:=hcell i j hi' hj'
  exact ⟨h1,_,h2,hrep i row j c hi hj⟩
theorem CRep.mk_sl {w : World} {S : Nat→Nat→Prop} {sz : Nat} {es : List (List C)} {blk off len cap : Nat} (hl : es.length=len) (hc : len≤cap) (hm : len≤9223372036854775807)
  (h : ∀ (i : Nat) (row : List C),es[i]? = some row→row.length=sz∧RowAt w S blk (off + i * sz) row) : CRep w S (.sl sz es) (.slice (some ⟨blk,off,none⟩) len cap):=by
 refine .sl sz es blk off len cap (fun i j=>(w.cell? ⟨blk,off + i * sz + j,none⟩).getD default) hl hc hm (fun i row hi=>(h i row hi).1) ?_ ?_
 ·intro i j hi hj
  have hi' : es[i]? = some (es[i]'(by omega)):=List.getElem?_eq_getElem (by omega)
  obtain ⟨h1,h2⟩:=h i _ hi'
  have hj' : (es[i]'(by omega))[j]? = some ((es[i]'(by omega))[j]'(by omega)):=List.getElem?_eq_getElem (by omega)
  obtain ⟨h3,v,h4,_⟩:=h2 j _ hj'
  exact ⟨h3,by rw[h4]; rfl⟩
 ·intro i row j c hi hj
  obtain ⟨h1,h2⟩:=h i row hi
  obtain ⟨h3,v,h4,h5⟩:=h2 j c hj
  rw[h4]
  exact h5
theorem CRep.lenMax {w : World} {S : Nat→Nat→Prop} {sz : Nat} {es : List (List C)} {v : Value} (h : CRep w S (.sl sz es) v) : es.length≤9223372036854775807:=by
 cases h with
 | emp=>simp
 | sl _ _ blk off len cap vals hl hc hm hsz hcell hrep=>omega
theorem CRep.strMax {w : World} {S : Nat→Nat→Prop} {l : List UInt8} {v : Value} (h : CRep w S (.s l) v) : l.length≤9223372036854775807:=by
 cases h; assumption
theorem CRep.sl_cases {w : World} {S : Nat→Nat→Prop} {sz : Nat} {es : List (List C)} {v : Value} (h : CRep w S (.sl sz es) v) :
  (∃ a,v = .slice a 0 0∧es=[]) ∨ ∃ blk off len cap,v = .slice (some ⟨blk,off,none⟩) len cap∧es.length=len:=by
 cases h with
 | emp _ a=>exact .inl ⟨a,rfl,rfl⟩
 | sl _ _ blk off len cap vals hl hc hm hsz hcell hrep=>exact .inr ⟨blk,off,len,cap,rfl,hl⟩
inductive Nm where
 | l (k : Nat)
 | o (j : Nat)
 | bd (t k : Nat)
 deriving DecidableEq
def Nm.isBd : Nm→Bool
 | .bd _ _=>true
 | _=>false
inductive Pl where
 | t (k : Nat)
 | b (n : Nm) (off : Nat)
 deriving DecidableEq
inductive Who where
 | none
 | imm
 | box (n : Nm)
 | own (p : Pl)
structure Gh where
 W : Nat→Nat→Who
 A : Nm→Nat × Nat
def Gh.S (G : Gh) (b o : Nat) : Prop:=G.W b o = .imm
inductive Y where
 | c (x : C)
 | agg (cs : List C)
 | ro (cs : List C)
 | ptr (n : Nm) (off : Nat)
 | ms (n : Nm) (sz off len : Nat)
 | msv (n : Nm) (sz off len : Nat) (u : Value)
 deriving Inhabited
inductive X where
 | v (y : Y)
 | tup (ys : List Y)
 | fn (f : FuncId) (caps : List Y)
 | kn (one : Bool) (cs : List C) (ms : List (Nat × Nm × Nat))
 | fnv (f : FuncId) (caps : List Y) (u : Value)
 deriving Inhabited
def SlAt (A : Nat × Nat) (L : Nat) (v : Value) : Prop:=(L=0∧((∃ a,v = .slice a 0 0) ∨ ∃ b o c,v = .slice (some ⟨b,o,none⟩) 0 c))∨(0 < L ∧ ∃ cap,L≤cap∧v = .slice (some ⟨A.1,A.2,none⟩) L cap)
def YRep (w : World) (G : Gh) : Y→Value→Prop
 | .c x,v=>CRep w G.S x v
 | .agg cs,v=>∃ vs : List Value,v = .agg vs.toArray∧All2 (CRep w G.S) cs vs
 | .ro cs,v=>∃ blk off,v = .pointer (some ⟨blk,off,none⟩)∧RowAt w G.S blk off cs
 | .ptr n off,v=>v = .pointer (some ⟨(G.A n).1,(G.A n).2 + off,none⟩)
 | .msv n _ off len u,v=>v=u ∧ ∃ cap,len≤cap∧v = .slice (some ⟨(G.A n).1,(G.A n).2 + off,none⟩) len cap
 | .ms n _ off len,v=>(len=0∧v = .slice none 0 0) ∨ ∃ cap,len≤cap∧v = .slice (some ⟨(G.A n).1,(G.A n).2 + off,none⟩) len cap
def XRep (w : World) (G : Gh) : X→Value→Prop
 | .v z,u=>YRep w G z u
 | .tup ys,v=>∃ vs : List Value,v = .tuple vs.toArray∧All2 (YRep w G) ys vs
 | .fn f caps,v=>∃ vs : List Value,v = .func (.func f) #[] vs.toArray∧All2 (YRep w G) caps vs
 | .fnv f caps u,v=>v=u ∧ ∃ vs : List Value,v = .func (.func f) #[] vs.toArray∧All2 (YRep w G) caps vs
 | .kn one cs ms,v=>∃ vs : List Value,(one=true→vs=[v])∧(one=false→v = .agg vs.toArray)∧All2 (CRep w G.S) cs vs ∧ ∀ m ∈ ms,∃ u,vs[m.1]? = some u∧SlAt (G.A m.2.1) m.2.2 u
def Y.has (n : Nm) : Y→Bool
 | .ptr m _ | .ms m _ _ _ | .msv m _ _ _ _=>m == n
 | _=>false
def X.has (n : Nm) : X→Bool
 | .v z=>z.has n
 | .tup ys | .fn _ ys | .fnv _ ys _=>ys.any (·.has n)
 | .kn _ _ ms=>ms.any fun m=>m.2.1 == n
theorem YRep.mono {w w' : World} {G G' : Gh} (hS : ∀ b o,G.S b o→G'.S b o) (hw : ∀ b o,G.S b o→w'.cell? ⟨b,o,none⟩=w.cell? ⟨b,o,none⟩)
  {y : Y} {v : Value} (hA : ∀ n,y.has n=true→G'.A n=G.A n) (h : YRep w G y v) : YRep w' G' y v:=by
 cases y with
 | c x=>exact CRep.mono hS hw h
 | agg cs=>obtain ⟨vs,h1,h2⟩:=h; exact ⟨vs,h1,h2.mono fun _ _=>CRep.mono hS hw⟩
 | ro cs=>obtain ⟨blk,off,h1,h2⟩:=h; exact ⟨blk,off,h1,h2.mono hS hw⟩
 | ptr n off=>simp only [YRep] at h ⊢; rw[hA n (by simp [Y.has])]; exact h
 | ms n sz off len=>simp only [YRep] at h ⊢; rw[hA n (by simp [Y.has])]; exact h
 | msv n sz off len u=>simp only [YRep] at h ⊢; rw[hA n (by simp [Y.has])]; exact h
theorem All2.mem_mono {α β : Type} {R R' : α→β→Prop} : ∀ {as : List α} {bs : List β},(∀ a b,a ∈ as→R a b→R' a b)→All2 R as bs→All2 R' as bs
 | [],[],_,_=>O
 | _ :: _,_ :: _,hr,h=>⟨hr _ _ (by simp) h.1,All2.mem_mono (fun a b ha=>hr a b (by simp [ha])) h.2⟩
 | [],_ :: _,_,h=>h.elim
 | _ :: _,[],_,h=>h.elim
theorem XRep.mono {w w' : World} {G G' : Gh} (hS : ∀ b o,G.S b o→G'.S b o) (hw : ∀ b o,G.S b o→w'.cell? ⟨b,o,none⟩=w.cell? ⟨b,o,none⟩)
  {x : X} {v : Value} (hA : ∀ n,x.has n=true→G'.A n=G.A n) (h : XRep w G x v) : XRep w' G' x v:=by
 cases x with
 | v z=>exact YRep.mono hS hw hA h
 | tup ys =>
  obtain ⟨vs,h1,h2⟩:=h
  exact ⟨vs,h1,All2.mem_mono (fun a b ha=>YRep.mono hS hw fun n hn=>hA n (by simp only [X.has,List.any_eq_true]; exact ⟨a,ha,hn⟩)) h2⟩
 | fn f caps =>
  obtain ⟨vs,h1,h2⟩:=h
  exact ⟨vs,h1,All2.mem_mono (fun a b ha=>YRep.mono hS hw fun n hn=>hA n (by simp only [X.has,List.any_eq_true]; exact ⟨a,ha,hn⟩)) h2⟩
 | fnv f caps u =>
  obtain ⟨h0,vs,h1,h2⟩:=h
  exact ⟨h0,vs,h1,All2.mem_mono (fun a b ha=>YRep.mono hS hw fun n hn=>hA n (by simp only [X.has,List.any_eq_true]; exact ⟨a,ha,hn⟩)) h2⟩
 | kn one cs ms =>
  obtain ⟨vs,h1,h2,h3,h4⟩:=h
  refine ⟨vs,h1,h2,h3.mono fun _ _=>CRep.mono hS hw,fun m hm=>?_⟩
  obtain ⟨u,h5,h6⟩:=h4 m hm
  exact ⟨u,h5,by rw[hA m.2.1 (by simp only [X.has,List.any_eq_true]; exact ⟨m,hm,by simp⟩)]; exact h6⟩
end Go.Abs
namespace Go.Abs
theorem Sc {x y : Nat} (h : ¬ x=y) : Nat.beq x y=false:=by
 cases hb : Nat.beq x y with
 | true=>exact absurd (Nat.eq_of_beq_eq_true hb) h
 | false=>rfl
def Nm.beq : Nm→Nm→Bool
 | .l x, .l y=>Nat.beq x y
 | .o x, .o y=>Nat.beq x y
 | .bd t x, .bd u y=>Nat.beq t u && Nat.beq x y
 | _,_=>false
theorem Nm.beq_iff {m n : Nm} : Nm.beq m n=true ↔ m=n:=by
 cases m <;> cases n <;> simp [Nm.beq]
theorem Nm.beq_self (n : Nm) : Nm.beq n n=true:=Nm.beq_iff.2 J
theorem Nm.beq_ne {m n : Nm} (h : m≠n) : Nm.beq m n=false:=by
 cases hb : Nm.beq m n with
 | true=>exact absurd (Nm.beq_iff.1 hb) h
 | false=>rfl
def Pl.beq : Pl→Pl→Bool
 | .t x, .t y=>Nat.beq x y
 | .b m x, .b n y=>Nm.beq m n && Nat.beq x y
 | _,_=>false
theorem Pl.beq_iff {p q : Pl} : Pl.beq p q=true ↔ p=q:=by
 cases p <;> cases q <;> simp [Pl.beq,Nm.beq_iff]
theorem Pl.beq_self (p : Pl) : Pl.beq p p=true:=Pl.beq_iff.2 J
theorem Pl.beq_ne {p q : Pl} (h : p≠q) : Pl.beq p q=false:=by
 cases hb : Pl.beq p q with
 | true=>exact absurd (Pl.beq_iff.1 hb) h
 | false=>rfl
structure St where
 t : List (Nat × Bool × X)
 bx : List (Nm × List C)
 ow : List (Pl × Nat)
 mp : List (Nat × Bool × List (List UInt8 × Value)):=[]
def getT : List (Nat × Bool × X)→Nat→Option (Bool × X)
 | [],_=>none
 | (j,e) :: r,k=>cond (Nat.beq j k) (some e) (getT r k)
def getB : List (Nm × List C)→Nm→Option (List C)
 | [],_=>none
 | (m,e) :: r,n=>cond (Nm.beq m n) (some e) (getB r n)
def getO : List (Pl × Nat)→Pl→Option Nat
 | [],_=>none
 | (q,e) :: r,p=>cond (Pl.beq q p) (some e) (getO r p)
def St.get (st : St) (k : Nat) : Option (Bool × X):=getT st.t k
def St.box (st : St) (n : Nm) : Option (List C):=getB st.bx n
def St.own (st : St) (p : Pl) : Option Nat:=getO st.ow p
theorem J9 (j : Nat) (e : Bool × X) (r : List (Nat × Bool × X)) (k : Nat) : getT ((j,e) :: r) k=if j=k then some e else getT r k:=by
 by_cases h : j=k
 ·subst h; simp [getT]
 ·simp [getT,h,Sc h]
theorem G6 (m : Nm) (e : List C) (r : List (Nm × List C)) (n : Nm) : getB ((m,e) :: r) n=if m=n then some e else getB r n:=by
 by_cases h : m=n
 ·subst h; simp [getB,Nm.beq_self]
 ·simp [getB,h,Nm.beq_ne h]
theorem L9 (q : Pl) (e : Nat) (r : List (Pl × Nat)) (p : Pl) : getO ((q,e) :: r) p=if q=p then some e else getO r p:=by
 by_cases h : q=p
 ·subst h; simp [getO,Pl.beq_self]
 ·simp [getO,h,Pl.beq_ne h]
theorem L6 (f : Pl→Bool) : ∀ (l : List (Pl × Nat)) (p : Pl),getO (l.filter fun q=>f q.1) p=if f p=true then getO l p else none
 | [],p=>by simp [getO]
 | (q,e) :: r,p=>by
  simp only [List.filter_cons]
  by_cases hq : q=p
  ·subst hq
   by_cases hf : f q=true
   ·simp [hf,L9]
   ·simp only [hf]
    rw[if_neg (by simp),L6 f r q]
    simp [hf]
  ·split
   ·rw[L9,L9,if_neg hq,if_neg hq,L6 f r p]
   ·rw[L9,if_neg hq,L6 f r p]
structure Env where
 B : Nat
 w0 : World
 W0 : Nat→Nat→Who
 A0 : Nat→Nat × Nat
 nt : Nat
 D : Nat:=0
def Env.C (E : Env) : Nat:=E.B - E.D
theorem Env.C_le (E : Env) : E.C≤E.B:=Nat.sub_le _ _
theorem Env.C_new {E : Env} (h : E.D=0) : E.C=E.B:=by unfold Env.C; rw[h]; rfl
def Env.M (E : Env) (b o : Nat) : Prop:=(∃ n,E.W0 b o = .box n) ∨ ∃ p,E.W0 b o = .own p
def L0 (w : World) (b : Nat) : Option (Nat × Nat):=match w.heap[b]? with
 | some (.cells _ _ m)=>some m
 | _=>none
theorem O5 {w w' : World} {b : Nat} (h : L0 w' b=L0 w b) (o : Nat) : w'.frozen? ⟨b,o,none⟩=w.frozen? ⟨b,o,none⟩:=by
 unfold L0 at h
 unfold World.frozen?
 dsimp only
 split at h <;> split at h <;> simp_all
def Tv (m : Option (Nat × Nat)) (k : Nat) : Prop:=∀ lo hi,m=some (lo,hi)→lo=hi∨(lo < hi∧hi≤k)
theorem Ih {m : Option (Nat × Nat)} {k k' : Nat} (h : Tv m k) (hk : k≤k') : Tv m k':=fun lo hi e=>by
 have := h lo hi e; omega
theorem Jn (w : World) (cs : Array Value) (t : TypeId) : L0 (w.alloc (.cells cs t)) w.heap.size=some (0,0):=by
 unfold L0
 rw[show (w.alloc (.cells cs t)).heap[w.heap.size]? = some (.cells cs t) from Array.getElem?_push_size]
theorem Fa (w : World) (cs : Array Value) (t : TypeId) (k : Nat) : Tv (L0 (w.alloc (.cells cs t)) w.heap.size) k:=by
 rw[Jn]
 intro lo hi h
 simp at h
 left; omega
theorem V7 (w : World) (a : Addr) (v : Value) (b : Nat) : L0 (w.setCell a v) b=L0 w b:=by
 unfold L0 World.setCell
 dsimp only
 by_cases h : a.block=b
 ·subst h
  rw[Array.getElem?_modify,if_pos J]
  cases w.heap[a.block]? with
  | none=>rfl
  | some o=>cases o <;> rfl
 ·rw[Array.getElem?_modify,if_neg h]
structure Fr (M : Nat→Nat→Prop) (B : Nat) (w w' : World) : Prop where
 os : w'.os=w.os
 tape : w'.tape=w.tape
 output : w'.output=w.output
 size : w.heap.size≤w'.heap.size
 block : ∀ b,b < B→(∀ o,¬ M b o)→w'.heap[b]? = w.heap[b]?
 cell : ∀ b o,b < B → ¬ M b o→w'.cell? ⟨b,o,none⟩=w.cell? ⟨b,o,none⟩
 mark : ∀ b,b < B→L0 w' b=L0 w b
 shape : ∀ b,b < B→w'.shape? b=w.shape? b
theorem Fr.refl (M : Nat→Nat→Prop) (B : Nat) (w : World) : Fr M B w w :=
 ⟨rfl,rfl,rfl,Nat.le_refl _,fun _ _ _=>rfl,fun _ _ _ _=>rfl,fun _ _=>rfl,fun _ _=>rfl⟩
theorem Fr.trans {M : Nat→Nat→Prop} {B : Nat} {a b c : World} (h : Fr M B a b) (k : Fr M B b c) : Fr M B a c :=
 ⟨k.os.trans h.os,k.tape.trans h.tape,k.output.trans h.output,Nat.le_trans h.size k.size,fun i hi hm=>(k.block i hi hm).trans (h.block i hi hm),
  fun i o hi hm=>(k.cell i o hi hm).trans (h.cell i o hi hm),fun i hi=>(k.mark i hi).trans (h.mark i hi),fun i hi=>(k.shape i hi).trans (h.shape i hi)⟩
theorem Fr.mono {M M' : Nat→Nat→Prop} {B B' : Nat} {w w' : World} (h : Fr M B w w') (hB : B'≤B) (hM : ∀ b o,b < B'→M b o→M' b o) : Fr M' B' w w' :=
 ⟨h.os,h.tape,h.output,h.size,fun i hi hm=>h.block i (by omega) (fun o hmo=>hm o (hM _ _ hi hmo)),fun i o hi hm=>h.cell i o (by omega) (fun hmo=>hm (hM _ _ hi hmo)),
  fun i hi=>h.mark i (by omega),fun i hi=>h.shape i (by omega)⟩
theorem Fr.frozen {M : Nat→Nat→Prop} {B : Nat} {w w' : World} (h : Fr M B w w') (b o : Nat) (hb : b < B) : w'.frozen? ⟨b,o,none⟩=w.frozen? ⟨b,o,none⟩:=O5 (h.mark b hb) o
def R8 (w : World) (G : Gh) (n : Nm) (cs : List C) : Prop :=
 ∀ (j : Nat) (c : C),cs[j]? = some c→G.W (G.A n).1 ((G.A n).2 + j) = .box n∧w.frozen? ⟨(G.A n).1,(G.A n).2 + j,none⟩=false ∧
  ∃ v,w.cell? ⟨(G.A n).1,(G.A n).2 + j,none⟩=some v∧CRep w G.S c v
def OwnAt (B : Nat) (w : World) (G : Gh) (p : Pl) (sz : Nat) (v : Value) : Prop :=
 v = .slice none 0 0 ∨ ∃ blk len cap e,v = .slice (some ⟨blk,0,none⟩) len cap∧(len≤cap∧B≤blk ∧ ∀ t k o,p = .b (.bd t k) o→e=t % 4096)∧(w.shape? blk=some (e,cap * sz)∧Tv (L0 w blk) (len * sz)) ∧
  ∀ o,len * sz≤o→o < cap * sz→G.W blk o = .own p∧w.frozen? ⟨blk,o,none⟩=false
theorem OwnAt.mono {B B' : Nat} {w : World} {G : Gh} {p : Pl} {sz : Nat} {v : Value} (hB : B'≤B) (h : OwnAt B w G p sz v) : OwnAt B' w G p sz v:=by
 rcases h with h | ⟨blk,len,cap,e,q1,q2,q3,q4⟩
 ·exact .inl h
 ·exact .inr ⟨blk,len,cap,e,q1,⟨q2.1,Nat.le_trans hB q2.2.1,q2.2.2⟩,q3,q4⟩
def ValAt (a : Act) (w : World) (G : Gh) : Pl→Value→Prop
 | .t k,v=>a.tmps[k]? = some v
 | .b n off,v=>w.cell? ⟨(G.A n).1,(G.A n).2 + off,none⟩=some v∧G.W (G.A n).1 ((G.A n).2 + off) = .box n
def MapAt (w : World) (b : Nat) (es : List (List UInt8 × Value)) : Prop :=
 ∃ ms clock,w.heap[b]? = some (.map ms clock)∧ms.toList.map (fun e=>(e.key,e.val))=es.map fun p=>((.string ⟨p.1.toArray⟩ : Value),p.2)
theorem MapAt.lt {w : World} {b : Nat} {es : List (List UInt8 × Value)} (h : MapAt w b es) : b < w.heap.size:=by
 obtain ⟨ms,clock,h1,_⟩:=h
 exact (Array.getElem?_eq_some_iff.1 h1).1
theorem MapAt.of_same {w w' : World} {b : Nat} {es : List (List UInt8 × Value)} (h : MapAt w b es) (e : w'.heap[b]? = w.heap[b]?) : MapAt w' b es:=by
 obtain ⟨ms,clock,h1,h2⟩:=h
 exact ⟨ms,clock,by rw[e,h1],h2⟩
structure Rel (E : Env) (G : Gh) (st : St) (a : Act) (w : World) : Prop where
 df : a.defers=[]
 tm : ∀ k g x,st.get k=some (g,x) → ∃ v,a.tmps[k]? = some v∧(g=true→XRep w G x v)∧(g=false→v=undef)
 bx : ∀ n cs,st.box n=some cs→R8 w G n cs
 ow : ∀ p sz,st.own p=some sz → ∃ v,ValAt a w G p v∧OwnAt E.C w G p sz v
 wf : ∀ b o,G.W b o ≠ .none→b < w.heap.size
 olB : ∀ b o n,b < E.B→G.W b o = .box n→E.M b o
 olO : ∀ b o p,b < E.B→G.W b o = .own p → ∃ q,E.W0 b o = .own q
 nt : a.tmps.size=E.nt
 oA : ∀ j,G.A (.o j)=E.A0 j
 im : ∀ b o,E.W0 b o = .imm→G.W b o = .imm
 im' : ∀ b o,b < E.B→G.W b o = .imm→E.W0 b o = .imm ∨ ∃ p,E.W0 b o = .own p
 fr : Fr E.M E.B E.w0 w
 hB : E.B≤E.w0.heap.size
 lo : ∀ b o,b < E.B→(∀ n,G.W b o = .box n → ∃ j,n = .o j)∧(b < E.C → ∀ p,G.W b o ≠ .own p)
 bd : ∀ t k cs,st.box (.bd t k)=some cs→cs≠[]→(G.A (.bd t k)).2=0∧w.shape? (G.A (.bd t k)).1=some (t / 4096,2) ∧
  ∃ x,w.cell? ⟨(G.A (.bd t k)).1,0,none⟩=some (.pointer x)∧(x=none∨x=some ⟨(G.A (.bd t k)).1,0,none⟩)
 mp : ∀ x ∈ st.mp,MapAt w x.1 x.2.2∧(x.2.1=true→E.B≤x.1) ∧ ∀ o,(∀ n,G.W x.1 o ≠ .box n) ∧ ∀ p,G.W x.1 o ≠ .own p
def St.put (st : St) (k : Nat) (e : Bool × X) : St :=
 {st with t:=(k,e) :: st.t,ow:=st.ow.filter fun q=>!Pl.beq q.1 (.t k) }
theorem St.put_get (st : St) (k : Nat) (e : Bool × X) (j : Nat) : (st.put k e).get j=if j=k then some e else st.get j:=by
 show getT ((k,e) :: st.t) j=_
 rw[J9]
 by_cases h : k=j
 ·subst h; simp
 ·have h' : ¬ j=k:=fun e=>h e.symm
  simp [h,h',St.get]
theorem St.put_own (st : St) (k : Nat) (e : Bool × X) (p : Pl) : (st.put k e).own p=if p = .t k then none else st.own p:=by
 show getO (st.ow.filter fun q=>!Pl.beq q.1 (.t k)) p=_
 rw[L6 (fun q=>!Pl.beq q (.t k))]
 by_cases h : p = .t k
 ·subst h; simp [Pl.beq_self]
 ·simp [h,Pl.beq_ne h,St.own]
theorem K2 {a : Act} {d : Nat} {v : Value} {k : Nat} (hk : k < a.tmps.size) : (a.put (some d) v).tmps[k]? = if k=d then some v else a.tmps[k]? := by
 simp only [Act.put,Array.getElem?_setIfInBounds]
 by_cases h : d=k
 ·subst h; simp [hk]
 ·have h' : ¬ k=d:=fun e=>h e.symm
  simp [h,h']
theorem M4 {α : Type} {xs : Array α} {k : Nat} {v : α} (h : xs[k]? = some v) : k < xs.size:=by
 rcases Nat.lt_or_ge k xs.size with h' | h'
 ·exact h'
 ·simp [Array.getElem?_eq_none h'] at h
theorem Rel.put {E : Env} {G : Gh} {st : St} {a : Act} {w : World} (h : Rel E G st a w) {d : Nat} (hd' : d < E.nt) {g : Bool} {x : X} {v : Value}
  (hx : g=true→XRep w G x v) (hu : g=false→v=undef) : Rel E G (st.put d (g,x)) (a.put (some d) v) w where
 df:=h.df
 tm:=by
  have hd : d < a.tmps.size:=by rw[h.nt]; exact hd'
  intro k g' x' hk
  rw[St.put_get] at hk
  split at hk
  ·rename_i he; subst he
   simp only [Option.some.injEq,Prod.mk.injEq] at hk
   obtain ⟨rfl,rfl⟩:=hk
   exact ⟨v,by rw[K2 hd]; simp,hx,hu⟩
  ·rename_i he
   obtain ⟨u,hu',h1,h2⟩:=h.tm k g' x' hk
   exact ⟨u,by rw[K2 (M4 hu')]; simp [he,hu'],h1,h2⟩
 bx:=h.bx
 ow:=by
  have hd : d < a.tmps.size:=by rw[h.nt]; exact hd'
  intro p sz hp
  rw[St.put_own] at hp
  split at hp
  ·simp at hp
  ·rename_i hne
   obtain ⟨u,hu',ho⟩:=h.ow p sz hp
   refine ⟨u,?_,ho⟩
   cases p with
   | t k =>
    have hk : ¬ k=d:=fun e=>hne (by rw[e])
    show (a.put (some d) v).tmps[k]? = _
    rw[K2 (M4 hu')]
    simp only [hk,if_false]
    exact hu'
   | b n off=>exact hu'
 wf:=h.wf
 olB:=h.olB
 olO:=h.olO
 nt:=by rw[← h.nt]; simp [Act.put]
 oA:=h.oA
 im:=h.im
 im':=h.im'
 fr:=h.fr
 hB:=h.hB
 lo:=h.lo
 bd:=h.bd
 mp:=h.mp
theorem Rel.putNone {E : Env} {G : Gh} {st : St} {a : Act} {w : World} (h : Rel E G st a w) (v : Value) : Rel E G st (a.put none v) w:=h
structure Sub (s s' : St) : Prop where
 t : ∀ k e,s.get k=some e→s'.get k=some e
 bx : ∀ n cs,s.box n=some cs→s'.box n=some cs
 ow : ∀ p sz,s.own p=some sz→s'.own p=some sz
 mp : s.mp=[]∨s.mp=s'.mp:=by first|exact .inr J|exact .inl J
theorem Sub.refl (s : St) : Sub s s:=⟨fun _ _ h=>h,fun _ _ h=>h,fun _ _ h=>h, .inr J⟩
theorem Sub.trans {a b c : St} (h : Sub a b) (k : Sub b c) : Sub a c:=⟨fun _ _ x=>k.t _ _ (h.t _ _ x),fun _ _ x=>k.bx _ _ (h.bx _ _ x),fun _ _ x=>k.ow _ _ (h.ow _ _ x),h.mp.elim .inl fun e=>k.mp.elim (fun f=>.inl (e.trans f)) fun f=>.inr (e.trans f)⟩
theorem Rel.sub {E : Env} {G : Gh} {st st' : St} {a : Act} {w : World} (hs : Sub st' st) (h : Rel E G st a w) : Rel E G st' a w where
 df:=h.df
 tm:=fun k g x hk=>h.tm k g x (hs.t _ _ hk)
 bx:=fun n cs hn=>h.bx n cs (hs.bx _ _ hn)
 ow:=fun p sz hp=>h.ow p sz (hs.ow _ _ hp)
 wf:=h.wf
 olB:=h.olB
 olO:=h.olO
 nt:=h.nt
 oA:=h.oA
 im:=h.im
 im':=h.im'
 fr:=h.fr
 hB:=h.hB
 lo:=h.lo
 bd:=fun t k cs hc=>h.bd t k cs (hs.bx _ _ hc)
 mp:=fun x hx=>by
  rcases hs.mp with e | e
  ·rw[e] at hx; cases hx
  ·exact h.mp x (by rw[← e]; exact hx)
end Go.Abs
namespace Go.Abs
structure TyI where
 n : Nat
 agg : Bool
 offs : List Nat
 el : Option (Nat × Nat × Nat)
 z : List C
def tyAt : List (Option TyI)→Nat→Option TyI
 | [],_=>none
 | x :: _,0=>x
 | _ :: r,n + 1=>tyAt r n
def Ax : C→Value→Bool
 | .b x, .bool y=>x == y
 | .i k n, .int k' m=>decide (k=k') && decide (n=m)
 | .s l, .string t=>t.data.toList == l && Nat.ble t.data.toList.length 1000000
 | .sl _ [], .slice none 0 0=>true
 | .o (.pointer none), .pointer none=>true
 | .o .nilFunc, .nilFunc=>true
 | .o (.map none), .map none=>true
 | .o .nilIface, .nilIface=>true
 | _,_=>false
theorem Tx (t : ByteArray) : (⟨t.data.toList.toArray⟩ : ByteArray)=t:=by cases t; simp
theorem CRep.str {w : World} {S : Nat→Nat→Prop} (t : ByteArray) (h : Nat.ble t.data.toList.length 1000000=true) : CRep w S (.s t.data.toList) (.string t):=by
 have := CRep.s (w := w) (S := S) t.data.toList (by have := Nat.le_of_ble_eq_true h; omega)
 rwa [Tx] at this
theorem CRep.ofConst {w : World} {S : Nat→Nat→Prop} {c : C} {v : Value} (h : Ax c v=true) : CRep w S c v:=by
 unfold Ax at h
 split at h
 ·simp at h; subst h; exact .b _
 ·simp at h; obtain ⟨rfl,rfl⟩:=h; exact .i _ _
 ·rename_i l t
  rw[Bool.and_eq_true] at h
  have : l=t.data.toList:=by simpa using (beq_iff_eq.1 h.1).symm
  subst this
  exact CRep.str t h.2
 ·exact .nil _
 ·exact .o _ J
 ·exact .o _ J
 ·exact .o _ J
 ·exact .o _ J
 ·simp at h
def Hi {α β : Type} (f : α→β→Bool) : List α→List β→Bool
 | [],[]=>true
 | a :: as,b :: bs=>f a b && Hi f as bs
 | _,_=>false
theorem All2.ofB {α β : Type} {f : α→β→Bool} : ∀ {as : List α} {bs : List β},Hi f as bs=true→All2 (fun a b=>f a b=true) as bs
 | [],[],_=>O
 | _ :: _,_ :: _,h=>by simp only [Hi,Bool.and_eq_true] at h; exact ⟨h.1,All2.ofB h.2⟩
 | [],_ :: _,h=>by simp [Hi] at h
 | _ :: _,[],h=>by simp [Hi] at h
def Yj : Value→Bool
 | .agg _=>true
 | _=>false
def tyB (P : Program) (t : TypeId) (ti : TyI) : Bool :=
 match P.info? t,P.underlying t with
 | some i,some d =>
  i.size == ti.n && d.isRow == ti.agg &&
  (match i.zero with | some zv=>Yj zv == ti.agg && Hi Ax ti.z zv.cells.toList | none=>false) &&
  (match d with
   | .struct fs=>fs.size == ti.offs.length && Hi (fun (off : Nat) (f : Field)=>f.offset == off && (match P.info? f.type with | some j=>j.size != 0 | none=>false)) ti.offs fs.toList && ti.el.isNone
   | .slice e=>ti.offs.isEmpty && (match ti.el,P.info? e with
    | some (e',sz,by'),some j=>e' == e && j.size == sz && j.bytes == by' && sz != 0 && (match j.zero with | some ze=>ze.cells.size == sz | none=>false)
    | _,_=>false)
   | _=>ti.offs.isEmpty && ti.el.isNone)
 | _,_=>false
def Ae (P : Program) : Nat→List (Option TyI)→Bool
 | _,[]=>true
 | n,none :: r=>Ae P (n + 1) r
 | n,some ti :: r=>tyB P n ti && Ae P (n + 1) r
theorem Cu {P : Program} : ∀ {l : List (Option TyI)} {n : Nat},Ae P n l=true → ∀ {k : Nat} {ti : TyI},tyAt l k=some ti→tyB P (n + k) ti=true
 | [],_,_,k,_,h=>by simp [tyAt] at h
 | none :: r,n,hb,0,_,h=>by simp [tyAt] at h
 | none :: r,n,hb,k + 1,_,h=>by
  have := Cu (l := r) (n := n + 1) hb (k := k) h
  rwa [show n + 1 + k=n + (k + 1) by omega] at this
 | some ti :: r,n,hb,0,_,h=>by
  simp only [Ae,Bool.and_eq_true] at hb
  simp [tyAt] at h
  subst h
  exact hb.1
 | some ti :: r,n,hb,k + 1,_,h=>by
  simp only [Ae,Bool.and_eq_true] at hb
  have := Cu (l := r) (n := n + 1) hb.2 (k := k) h
  rwa [show n + 1 + k=n + (k + 1) by omega] at this
structure Pg where
 P : Program
 T : List (Option TyI)
 ok : Ae P 0 T=true
 mix : P.follows .mixedOrders=true
 gv : List (Nat × (Option Obj→Prop)):=[]
 old : Bool:=false
 ex : (Nat→Nat × Nat)→Prop:=fun _=>True
structure EOk (Z : Pg) (N : Nat) (E : Env) : Prop where
 nt : E.nt=N
 old : Z.old=false→E.D=0
 gl : ∀ g ∈ Z.gv,g.1 < E.B∧g.2 E.w0.heap[g.1]? ∧ ∀ o,¬ E.M g.1 o
 ex : Z.ex E.A0
def GlOk (Z : Pg) (w : World) (G : Gh) : Prop:=∀ g ∈ Z.gv,g.1 < w.heap.size∧g.2 w.heap[g.1]? ∧ (∀ o n,G.W g.1 o ≠ .box n) ∧ ∀ o p,G.W g.1 o ≠ .own p
theorem EOk.at {Z : Pg} {N : Nat} {E : Env} {G : Gh} {st : St} {a : Act} {w : World} (hE : EOk Z N E) (hr : Rel E G st a w) : GlOk Z w G:=by
 intro g hg
 obtain ⟨h1,h2,h3⟩:=hE.gl g hg
 refine ⟨Nat.lt_of_lt_of_le h1 (Nat.le_trans hr.hB hr.fr.size),?_,fun o n hn=>h3 o (hr.olB g.1 o n h1 hn),fun o p hp=>h3 o (.inr (hr.olO g.1 o p h1 hp))⟩
 rw[hr.fr.block g.1 h1 h3]
 exact h2
variable {Z : Pg}
theorem Pg.ty (Z : Pg) {t : Nat} {ti : TyI} (h : tyAt Z.T t=some ti) : tyB Z.P t ti=true:=by
 simpa using Cu Z.ok h
structure TyOk (P : Program) (t : TypeId) (ti : TyI) : Prop where
 info : ∃ i d zv,P.info? t=some i∧P.underlying t=some d∧i.size=ti.n∧d.isRow=ti.agg∧i.zero=some zv∧Yj zv=ti.agg∧All2 (fun c v=>Ax c v=true) ti.z zv.cells.toList
 fld : ∀ (j off : Nat),ti.offs[j]? = some off → ∃ (fs : Array Field) (f : Field) (i : TypeInfo),P.underlying t=some (.struct fs)∧fs[j]? = some f∧f.offset=off∧P.info? f.type=some i∧i.size≠0
 sl : ∀ e sz by',ti.el=some (e,sz,by')→P.underlying t=some (.slice e) ∧ ∃ j ze,P.info? e=some j∧j.size=sz∧j.bytes=by'∧sz≠0∧j.zero=some ze∧ze.cells.size=sz
theorem TyOk.ofB {P : Program} {t : TypeId} {ti : TyI} (h : tyB P t ti=true) : TyOk P t ti:=by
 unfold tyB at h
 split at h
 ·rename_i i d hi hd
  simp only [Bool.and_eq_true,beq_iff_eq] at h
  obtain ⟨⟨⟨h1,h2⟩,h3⟩,h4⟩:=h
  constructor
  ·split at h3
   ·rename_i zv hz
    simp only [Bool.and_eq_true,beq_iff_eq] at h3
    exact ⟨i,d,zv,hi,hd,h1,h2,hz,h3.1,All2.ofB h3.2⟩
   ·simp at h3
  ·intro j off hj
   split at h4
   ·rename_i fs
    simp only [Bool.and_eq_true] at h4
    obtain ⟨f,hf,hr⟩:=(All2.ofB h4.1.2).get j off hj
    simp only [Bool.and_eq_true,beq_iff_eq] at hr
    obtain ⟨hr1,hr2⟩:=hr
    split at hr2
    ·rename_i k hk
     exact ⟨fs,f,k,hd,by simpa using hf,hr1,hk,by simpa using hr2⟩
    ·simp at hr2
   ·simp only [Bool.and_eq_true,List.isEmpty_iff] at h4
    simp [h4.1] at hj
   ·simp only [Bool.and_eq_true,List.isEmpty_iff] at h4
    simp [h4.1] at hj
  ·intro e sz by' he
   split at h4
   ·simp only [Bool.and_eq_true] at h4
    simp [he] at h4
   ·rename_i e'
    simp only [Bool.and_eq_true] at h4
    obtain ⟨_,h4⟩:=h4
    rw[he] at h4
    split at h4
    ·rename_i a b c k hk1 hk
     simp only [Option.some.injEq,Prod.mk.injEq] at hk1
     obtain ⟨rfl,rfl,rfl⟩:=hk1
     simp only [Bool.and_eq_true,beq_iff_eq,bne_iff_ne] at h4
     obtain ⟨⟨⟨⟨ha,hb⟩,hc⟩,hd'⟩,hz⟩:=h4
     subst ha
     split at hz
     ·rename_i ze hze
      exact ⟨hd,k,ze,hk,hb,hc,hd',hze,by simpa using hz⟩
     ·simp at hz
    ·simp at h4
   ·simp only [Bool.and_eq_true] at h4
    simp [he] at h4
 ·simp at h
theorem Pg.tyOk (Z : Pg) {t : Nat} {ti : TyI} (h : tyAt Z.T t=some ti) : TyOk Z.P t ti:=.ofB (Z.ty h)
def lk (T : List (Option TyI)) (st : St) (ty : TypeId) : Operand→Option (Bool × X)
 | .tmp k=>st.get k
 | .const v=>match v with
  | .bool x=>some (true, .v (.c (.b x)))
  | .int k n=>some (true, .v (.c (.i k n)))
  | .string t=>cond (Nat.ble t.data.toList.length 1000000) (some (true, .v (.c (.s t.data.toList)))) none
  | .slice none 0 0=>match tyAt T ty with | some ti=>(match ti.el with | some (_,sz,_)=>some (true, .v (.c (.sl sz []))) | none=>none) | none=>none
  | .nilFunc=>some (true, .v (.c (.o .nilFunc)))
  | .pointer none=>some (true, .v (.c (.o (.pointer none))))
  | .map none=>some (true, .v (.c (.o (.map none))))
  | .nilIface=>some (true, .v (.c (.o .nilIface)))
  | _=>none
 | .func f=>some (true, .fn f [])
 | .global _=>none
theorem F4 {E : Env} {G : Gh} {st : St} {a : Act} {w : World} (hr : Rel E G st a w) {T : List (Option TyI)} {ty : TypeId} {o : Operand} {g : Bool} {x : X}
    (h : lk T st ty o=some (g,x)) (hg : g=true) : XRep w G x (a.eval o):=by
  unfold lk at h
  split at h
  · rename_i k
    obtain ⟨v,hv,h1,_⟩:=hr.tm k g x h
    have : a.eval (.tmp k)=v:=by simp [Act.eval,Array.getD_eq_getD_getElem?,hv]
    rw[this]
    exact h1 hg
  · rename_i v
    split at h
    all_goals first
      | (simp only [Option.some.injEq,Prod.mk.injEq] at h; obtain ⟨_,rfl⟩:=h; first
          | exact CRep.b _
          | exact CRep.i _ _
          | exact CRep.o _ J)
      | (rename_i t
         cases hb : Nat.ble t.data.toList.length 1000000 with
         | false=>simp only [hb,cond_false] at h; simp at h
         | true=>simp only [hb,cond_true,Option.some.injEq,Prod.mk.injEq] at h; obtain ⟨_,rfl⟩:=h; exact CRep.str _ hb)
      | (split at h
         · split at h
           · simp only [Option.some.injEq,Prod.mk.injEq] at h; obtain ⟨_,rfl⟩:=h; exact CRep.nil _
           · simp at h
         · simp at h)
      | simp at h
  · simp only [Option.some.injEq,Prod.mk.injEq] at h
    obtain ⟨_,rfl⟩:=h
    exact ⟨[],rfl,O⟩
  · simp at h
def PureOk (Z : Pg) (st : St) (op : Op) (ty : TypeId) (gate : Bool) (x : X) : Prop :=
 ∀ (o : Oper) (E : Env) (G : Gh) (a : Act) (w : World),o.op=op→o.type=ty→Rel E G st a w→gate=true → ∃ v,XRep w G x v∧(execOp a.eval o).run Z.P w = .ok (.value v) w
section
variable {st : St} {ty : TypeId} {gate : Bool}
theorem A7 {x : Operand} {g : Bool} {X' : X} (h : lk Z.T st ty x=some (g,X')) (hg : gate=true→g=true) : PureOk Z st (.move x) ty gate X':=by
 intro o E G a w ho _ hr hgt
 exact ⟨a.eval x,F4 hr h (hg hgt),by simp [execOp,ho]⟩
theorem A9 {x : Operand} {g : Bool} {X' : X} (h : lk Z.T st ty x=some (g,X')) (hg : gate=true→g=true) : PureOk Z st (.assign x) ty gate X':=by
 intro o E G a w ho _ hr hgt
 exact ⟨a.eval x,F4 hr h (hg hgt),by simp [execOp,ho]⟩
theorem XRep.bool {w : World} {G : Gh} {x : Bool} {v : Value} (h : XRep w G (.v (.c (.b x))) v) : v = .bool x:=by
 cases h; rfl
theorem XRep.int {w : World} {G : Gh} {k : IntKind} {n : Int} {v : Value} (h : XRep w G (.v (.c (.i k n))) v) : v = .int k n:=by
 cases h; rfl
theorem XRep.str {w : World} {G : Gh} {l : List UInt8} {v : Value} (h : XRep w G (.v (.c (.s l))) v) : v = .string ⟨l.toArray⟩:=by
 cases h; rfl
theorem Af (a : Act) (v : Value) : a.eval (.const v)=v:=rfl
theorem XRep.mkBool {w : World} {G : Gh} (x : Bool) : XRep w G (.v (.c (.b x))) (.bool x):=CRep.b x
theorem E5 {c b : Operand} {gc gb : Bool} {x y : Bool} (hc : lk Z.T st ty c=some (gc, .v (.c (.b x)))) (hb : lk Z.T st ty b=some (gb, .v (.c (.b y))))
  (hgc : gate=true→gc=true) (hgb : gate=true→x=false→gb=true) : PureOk Z st (.pick c (.const (.bool true)) b) ty gate (.v (.c (.b (x || y)))):=by
 intro o E G a w ho _ hr hgt
 have h1:=XRep.bool (F4 hr hc (hgc hgt))
 cases x with
 | true=>exact ⟨.bool true,by simpa using XRep.mkBool true,by simp [execOp,ho,h1,asBool,Af]⟩
 | false =>
  have h2:=XRep.bool (F4 hr hb (hgb hgt J))
  exact ⟨.bool y,by simpa using XRep.mkBool y,by simp [execOp,ho,h1,h2,asBool]⟩
theorem E0 {c b : Operand} {gc gb : Bool} {x y : Bool} (hc : lk Z.T st ty c=some (gc, .v (.c (.b x)))) (hb : lk Z.T st ty b=some (gb, .v (.c (.b y))))
  (hgc : gate=true→gc=true) (hgb : gate=true→x=true→gb=true) : PureOk Z st (.pick c b (.const (.bool false))) ty gate (.v (.c (.b (x && y)))):=by
 intro o E G a w ho _ hr hgt
 have h1:=XRep.bool (F4 hr hc (hgc hgt))
 cases x with
 | false=>exact ⟨.bool false,by simpa using XRep.mkBool false,by simp [execOp,ho,h1,asBool,Af]⟩
 | true =>
  have h2:=XRep.bool (F4 hr hb (hgb hgt J))
  exact ⟨.bool y,by simpa using XRep.mkBool y,by simp [execOp,ho,h1,h2,asBool]⟩
theorem F8 {x : Operand} {t : TypeId} {g : Bool} {y : Bool} (h : lk Z.T st ty x=some (g, .v (.c (.b y)))) (hg : gate=true→g=true) :
  PureOk Z st (.unOp .not t x) ty gate (.v (.c (.b (!y)))):=by
 intro o E G a w ho _ hr hgt
 have h1:=XRep.bool (F4 hr h (hg hgt))
 exact ⟨.bool (!y),CRep.b _,by simp [execOp,ho,h1,Op.unary]⟩
theorem B1 {s : TypeId} {x : Operand} {f : Nat} {g : Bool} {n : Nm} {off foff : Nat} {ti : TyI} (h : lk Z.T st ty x=some (g, .v (.ptr n off))) (hg : gate=true→g=true)
  (ht : tyAt Z.T s=some ti) (hf : ti.offs[f]? = some foff) : PureOk Z st (.fieldAddr s x f) ty gate (.v (.ptr n (off + foff))):=by
 intro o E G a w ho _ hr hgt
 have h1 : a.eval x=_:=F4 hr h (hg hgt)
 obtain ⟨fs,fl,i,hu,hfs,hoff,hi,hne⟩:=(Z.tyOk ht).fld f foff hf
 refine ⟨.pointer (some ⟨(G.A n).1,(G.A n).2 + (off + foff),none⟩),rfl,?_⟩
 have hadd : (⟨(G.A n).1,(G.A n).2 + off,none⟩ : Addr).add fl.offset=⟨(G.A n).1,(G.A n).2 + (off + foff),none⟩:=by
  unfold Addr.add; subst hoff; split
  ·rename_i hz; simp [hz]
  ·simp; omega
 simp [execOp,ho,Instr.fieldAt,underlying,hu,hfs,h1,Instr.sureAddr,fieldPlace,sizeOf,typeInfo,hi,hne,hadd]
theorem F1 {s : TypeId} {x : Operand} {f : Nat} {g : Bool} {cs : List C} {foff : Nat} {ti : TyI} (h : lk Z.T st ty x=some (g, .v (.ro cs))) (hg : gate=true→g=true)
  (ht : tyAt Z.T s=some ti) (hf : ti.offs[f]? = some foff) : PureOk Z st (.fieldAddr s x f) ty gate (.v (.ro (cs.drop foff))):=by
 intro o E G a w ho _ hr hgt
 obtain ⟨blk,off,h1,h2⟩:=F4 hr h (hg hgt)
 obtain ⟨fs,fl,i,hu,hfs,hoff,hi,hne⟩:=(Z.tyOk ht).fld f foff hf
 refine ⟨.pointer (some ⟨blk,off + foff,none⟩),⟨blk,off + foff,rfl,?_⟩,?_⟩
 ·intro j c hj
  rw[List.getElem?_drop] at hj
  have := h2 _ _ hj
  rwa [show off + (foff + j)=off + foff + j by omega] at this
 ·have hadd : (⟨blk,off,none⟩ : Addr).add fl.offset=⟨blk,off + foff,none⟩:=by
   unfold Addr.add; subst hoff; split
   ·rename_i hz; simp [hz]
   ·simp
  simp [execOp,ho,Instr.fieldAt,underlying,hu,hfs,h1,Instr.sureAddr,fieldPlace,sizeOf,typeInfo,hi,hne,hadd]
theorem O6 {x : Operand} {g : Bool} {n : Nm} {off : Nat} (h : lk Z.T st ty x=some (g, .v (.ptr n off))) (hg : gate=true→g=true) :
  PureOk Z st (.nilCheck x) ty gate (.v (.ptr n off)):=by
 intro o E G a w ho _ hr hgt
 have h1 : a.eval x=_:=F4 hr h (hg hgt)
 exact ⟨_,rfl,by simp [execOp,ho,h1]⟩
end
end Go.Abs
namespace Go.Abs
variable {Z : Pg}
theorem Al {R : Nat→Value→Prop} : ∀ (n : Nat),(∀ j,j < n → ∃ v,R j v) → ∃ vs : List Value,vs.length=n ∧ ∀ (j : Nat) (v : Value),vs[j]? = some v→R j v
 | 0,_=>⟨[],rfl,fun j v h=>by simp at h⟩
 | n + 1,h=>by
  obtain ⟨vs,hl,hv⟩:=Al n fun j hj=>h j (by omega)
  obtain ⟨v,hv'⟩:=h n (by omega)
  refine ⟨vs++[v],by simp [hl],fun j u hj=>?_⟩
  rcases Nat.lt_or_ge j n with hlt | hge
  ·exact hv j u (by rwa [List.getElem?_append_left (by omega)] at hj)
  ·have : j=n:=by
    have := (List.getElem?_eq_some_iff.1 hj).1
    simp at this; omega
   subst this
   rw[List.getElem?_append_right (by omega),hl] at hj
   simp at hj
   subst hj
   exact hv'
section
variable {st : St} {ty : TypeId} {gate : Bool}
theorem V5 {w : World} {t : TypeId} {ti : TyI} (ht : tyAt Z.T t=some ti) (hagg : ti.agg=true) {blk off : Nat} {vs : List Value} (hl : vs.length=ti.n)
  (hv : ∀ (j : Nat) (v : Value),vs[j]? = some v→w.cell? ⟨blk,off + j,none⟩=some v) :
  (Instr.loadAt t (.pointer (some ⟨blk,off,none⟩))).run Z.P w = .ok (.agg vs.toArray) w:=by
 obtain ⟨i,d,zv,hi,hd,hn,hrow,_⟩:=(Z.tyOk ht).info
 exact run_loadAt_mid w blk off t vs d hv hd (by rw[hrow,hagg]) (by rw[hi]; simp [hn,hl])
theorem S8 {w : World} {t : TypeId} {ti : TyI} (ht : tyAt Z.T t=some ti) (hagg : ti.agg=false) {blk off : Nat} {v : Value}
  (hv : w.cell? ⟨blk,off,none⟩=some v) : (Instr.loadAt t (.pointer (some ⟨blk,off,none⟩))).run Z.P w = .ok v w:=by
 obtain ⟨i,d,zv,hi,hd,hn,hrow,_⟩:=(Z.tyOk ht).info
 have hA : (isAgg t).run Z.P w = .ok false w:=by
  unfold isAgg underlying
  rw[hagg] at hrow
  cases d <;> simp_all
 simp [Instr.loadAt,Instr.sureAddr,loadVar,hA,hv]
theorem B2 {t : TypeId} {x : Operand} {g : Bool} {n : Nm} {off : Nat} {ti : TyI} {cs : List C} {c : C} (h : lk Z.T st ty x=some (g, .v (.ptr n off))) (hg : gate=true→g=true)
  (ht : tyAt Z.T t=some ti) (hagg : ti.agg=false) (hb : st.box n=some cs) (hc : cs[off]? = some c) : PureOk Z st (.load t x) ty gate (.v (.c c)):=by
 intro o E G a w ho _ hr hgt
 have h1 : a.eval x=_:=F4 hr h (hg hgt)
 obtain ⟨_,_,v,hv,hcr⟩:=hr.bx n cs hb off c hc
 exact ⟨v,hcr,by simp [execOp,ho,h1,S8 ht hagg hv]⟩
theorem B8 {t : TypeId} {x : Operand} {g : Bool} {n : Nm} {off : Nat} {ti : TyI} {cs ds : List C} (h : lk Z.T st ty x=some (g, .v (.ptr n off))) (hg : gate=true→g=true)
  (ht : tyAt Z.T t=some ti) (hagg : ti.agg=true) (hb : st.box n=some cs) (hd : (cs.drop off).take ti.n=ds) (hl : ds.length=ti.n) : PureOk Z st (.load t x) ty gate (.v (.agg ds)):=by
 intro o E G a w ho _ hr hgt
 have h1 : a.eval x=_:=F4 hr h (hg hgt)
 have hget : ∀ (j : Nat) (c : C),ds[j]? = some c→cs[off + j]? = some c:=by
  intro j c hj
  rw[← hd,List.getElem?_take] at hj
  split at hj
  ·rwa [List.getElem?_drop] at hj
  ·simp at hj
 obtain ⟨vs,hvl,hvs⟩:=Al (R:=fun j v=>w.cell? ⟨(G.A n).1,(G.A n).2 + off + j,none⟩=some v ∧ ∀ c,ds[j]? = some c→CRep w G.S c v) ti.n fun j hj=>by
  have hj' : ds[j]? = some (ds[j]'(by omega)):=List.getElem?_eq_getElem (by omega)
  obtain ⟨_,_,v,hv,hcr⟩:=hr.bx n cs hb _ _ (hget j _ hj')
  exact ⟨v,by rwa [Nat.add_assoc],fun c hc=>by rw[hj'] at hc; simp at hc; subst hc; exact hcr⟩
 refine ⟨.agg vs.toArray,⟨vs,rfl,All2.mk (by omega) fun j c v hc hv=>(hvs j v hv).2 c hc⟩,?_⟩
 simp [execOp,ho,h1,V5 ht hagg hvl fun j v hv=>(hvs j v hv).1]
theorem E3 {t : TypeId} {x : Operand} {g : Bool} {ti : TyI} {cs : List C} {c : C} (h : lk Z.T st ty x=some (g, .v (.ro cs))) (hg : gate=true→g=true)
  (ht : tyAt Z.T t=some ti) (hagg : ti.agg=false) (hc : cs[0]? = some c) : PureOk Z st (.load t x) ty gate (.v (.c c)):=by
 intro o E G a w ho _ hr hgt
 obtain ⟨blk,off,h1,h2⟩:=F4 hr h (hg hgt)
 obtain ⟨_,v,hv,hcr⟩:=h2 0 c hc
 exact ⟨v,hcr,by simp [execOp,ho,h1,S8 ht hagg (blk:=blk) (off:=off) (v:=v) (by simpa using hv)]⟩
theorem D4 {t : TypeId} {x : Operand} {g : Bool} {ti : TyI} {cs ds : List C} (h : lk Z.T st ty x=some (g, .v (.ro cs))) (hg : gate=true→g=true)
  (ht : tyAt Z.T t=some ti) (hagg : ti.agg=true) (hd : cs.take ti.n=ds) (hl : ds.length=ti.n) : PureOk Z st (.load t x) ty gate (.v (.agg ds)):=by
 intro o E G a w ho _ hr hgt
 obtain ⟨blk,off,h1,h2⟩:=F4 hr h (hg hgt)
 have hget : ∀ (j : Nat) (c : C),ds[j]? = some c→cs[j]? = some c:=by
  intro j c hj
  rw[← hd,List.getElem?_take] at hj
  split at hj
  ·exact hj
  ·simp at hj
 obtain ⟨vs,hvl,hvs⟩:=Al (R:=fun j v=>w.cell? ⟨blk,off + j,none⟩=some v ∧ ∀ c,ds[j]? = some c→CRep w G.S c v) ti.n fun j hj=>by
  have hj' : ds[j]? = some (ds[j]'(by omega)):=List.getElem?_eq_getElem (by omega)
  obtain ⟨_,v,hv,hcr⟩:=h2 _ _ (hget j _ hj')
  exact ⟨v,hv,fun c hc=>by rw[hj'] at hc; simp at hc; subst hc; exact hcr⟩
 refine ⟨.agg vs.toArray,⟨vs,rfl,All2.mk (by omega) fun j c v hc hv=>(hvs j v hv).2 c hc⟩,?_⟩
 simp [execOp,ho,h1,V5 ht hagg hvl fun j v hv=>(hvs j v hv).1]
def cmpI : BinOp→Int→Int→Option Bool
 | .eql,x,y=>some (x == y)
 | .neq,x,y=>some (x != y)
 | .lss,x,y=>some (decide (x < y))
 | .leq,x,y=>some (decide (x≤y))
 | .gtr,x,y=>some (decide (y < x))
 | .geq,x,y=>some (decide (y≤x))
 | _,_,_=>none
theorem B7 {op : BinOp} {t t' : TypeId} {x y : Operand} {gx gy : Bool} {k : IntKind} {m n : Int} {r : Bool} (hx : lk Z.T st ty x=some (gx, .v (.c (.i k m)))) (hy : lk Z.T st ty y=some (gy, .v (.c (.i k n))))
  (hgx : gate=true→gx=true) (hgy : gate=true→gy=true) (hr' : cmpI op m n=some r) : PureOk Z st (.binOp op t x y t') ty gate (.v (.c (.b r))):=by
 intro o E G a w ho _ hr hgt
 have h1:=XRep.int (F4 hr hx (hgx hgt))
 have h2:=XRep.int (F4 hr hy (hgy hgt))
 refine ⟨.bool r,CRep.b _,?_⟩
 cases op <;> simp only [cmpI,Option.some.injEq,reduceCtorEq] at hr' <;> subst hr' <;> simp [execOp,ho,h1,h2,binOp,eqGuard,Op.intCmp]
def Zm : BinOp→Int→Int→Option Int
 | .add,x,y=>some (x + y)
 | .sub,x,y=>some (x - y)
 | .mul,x,y=>some (x * y)
 | _,_,_=>none
theorem D0 {op : BinOp} {t t' : TypeId} {x y : Operand} {gx gy : Bool} {k : IntKind} {m n r s : Int} (hx : lk Z.T st ty x=some (gx, .v (.c (.i k m)))) (hy : lk Z.T st ty y=some (gy, .v (.c (.i k n))))
  (hgx : gate=true→gx=true) (hgy : gate=true→gy=true) (hr' : Zm op m n=some r) (hs : k.wrap r=s) : PureOk Z st (.binOp op t x y t') ty gate (.v (.c (.i k s))):=by
 intro o E G a w ho _ hr hgt
 have h1:=XRep.int (F4 hr hx (hgx hgt))
 have h2:=XRep.int (F4 hr hy (hgy hgt))
 refine ⟨.int k s,CRep.i _ _,?_⟩
 cases op <;> simp only [Zm,Option.some.injEq,reduceCtorEq] at hr' <;> subst hr' <;> subst hs <;> simp [execOp,ho,h1,h2,binOp,eqGuard,Op.intArith]
theorem uAM {t t' : TypeId} {x y : Operand} {gx gy : Bool} {k : IntKind} {m n s : Int} (hx : lk Z.T st ty x=some (gx, .v (.c (.i k m)))) (hy : lk Z.T st ty y=some (gy, .v (.c (.i k n))))
  (hgx : gate=true→gx=true) (hgy : gate=true→gy=true) (hn : n≠0) (hs : k.wrap (m.tdiv n)=s) : PureOk Z st (.binOp .quo t x y t') ty gate (.v (.c (.i k s))):=by
 intro o E G a w ho _ hr hgt
 have h1:=XRep.int (F4 hr hx (hgx hgt))
 have h2:=XRep.int (F4 hr hy (hgy hgt))
 exact ⟨.int k s,CRep.i _ _,by subst hs; simp [execOp,ho,h1,h2,binOp,eqGuard,Op.intDiv,hn]⟩
theorem En {x : Operand} {src dst : TypeId} {g : Bool} {k k' : IntKind} {n s : Int} (h : lk Z.T st ty x=some (g, .v (.c (.i k n)))) (hg : gate=true→g=true)
  (hd : ∃ d,Z.P.underlying src=some d) (hu : Z.P.underlying dst=some (.int k')) (hs : k'.wrap n=s) : PureOk Z st (.convert src dst x) ty gate (.v (.c (.i k' s))):=by
 intro o E G a w ho _ hr hgt
 have h1:=XRep.int (F4 hr h (hg hgt))
 obtain ⟨d,hd⟩:=hd
 exact ⟨.int k' s,CRep.i _ _,by subst hs; simp [execOp,ho,h1,convert,underlying,hd,hu,Conv.intToInt]⟩
def cmpS : BinOp→List UInt8→List UInt8→Option Bool
 | .eql,x,y=>some (x == y)
 | .neq,x,y=>some (!(x == y))
 | .lss,x,y=>some (Op.bytesLess x y)
 | .leq,x,y=>some (Op.bytesLess x y || x == y)
 | .gtr,x,y=>some (!(Op.bytesLess x y || x == y))
 | .geq,x,y=>some (!(Op.bytesLess x y))
 | _,_,_=>none
theorem Et (l : List UInt8) : (⟨l.toArray⟩ : ByteArray).toList=l:=by rw[Lib.toList_data]
theorem Dx (l : List UInt8) : (⟨l.toArray⟩ : ByteArray).size=l.length:=rfl
theorem G0 {op : BinOp} {t t' : TypeId} {x y : Operand} {gx gy : Bool} {m n : List UInt8} {r : Bool} (hx : lk Z.T st ty x=some (gx, .v (.c (.s m)))) (hy : lk Z.T st ty y=some (gy, .v (.c (.s n))))
  (hgx : gate=true→gx=true) (hgy : gate=true→gy=true) (hr' : cmpS op m n=some r) : PureOk Z st (.binOp op t x y t') ty gate (.v (.c (.b r))):=by
 intro o E G a w ho _ hr hgt
 have h1:=XRep.str (F4 hr hx (hgx hgt))
 have h2:=XRep.str (F4 hr hy (hgy hgt))
 refine ⟨.bool r,CRep.b _,?_⟩
 cases op <;> simp only [cmpS,Option.some.injEq,reduceCtorEq] at hr' <;> subst hr' <;> simp [execOp,ho,h1,h2,binOp,eqGuard,Op.stringOp,Et]
theorem Bu {t t' : TypeId} {x y : Operand} {gx gy : Bool} {m n : List UInt8} (hx : lk Z.T st ty x=some (gx, .v (.c (.s m)))) (hy : lk Z.T st ty y=some (gy, .v (.c (.s n))))
  (hgx : gate=true→gx=true) (hgy : gate=true→gy=true) (hl : m.length + n.length≤9223372036854775807) : PureOk Z st (.binOp .add t x y t') ty gate (.v (.c (.s (m++n)))):=by
 intro o E G a w ho _ hr hgt
 have h1:=XRep.str (F4 hr hx (hgx hgt))
 have h2:=XRep.str (F4 hr hy (hgy hgt))
 refine ⟨.string ⟨(m++n).toArray⟩,CRep.s _ (by simpa using hl),?_⟩
 have hsz : ¬ ((((⟨m.toArray⟩ : ByteArray).size + (⟨n.toArray⟩ : ByteArray).size : Nat) : Int) > IntKind.i64.max):=by
  rw[Dx,Dx]; simp [IntKind.max,IntKind.signed,IntKind.bits]; omega
 have happ : ((⟨m.toArray⟩ : ByteArray)++⟨n.toArray⟩)=⟨(m++n).toArray⟩:=by
  apply ByteArray.ext; simp
 simp only [execOp,ho,h1,h2,binOp,eqGuard,Op.stringOp]
 simp only [Sem.run_bind,Sem.run_ite,hsz,if_false]
 simp [happ]
theorem O4 {x : Operand} {t : TypeId} {g : Bool} {l : List UInt8} (h : lk Z.T st ty x=some (g, .v (.c (.s l)))) (hg : gate=true→g=true) (hu : Z.P.underlying t=some .string) :
  PureOk Z st (.call { callee:=.builtin .len,args:=#[x],argTypes:=#[t] }) ty gate (.v (.c (.i .i64 (l.length : Int)))):=by
 intro o E G a w ho _ hr hgt
 have h1:=XRep.str (F4 hr h (hg hgt))
 exact ⟨.int .i64 l.length,CRep.i _ _,by simp [execOp,ho,h1,Go.resolve,invoke,builtin,Builtin.len_,underlying,hu,goInt,Dx]⟩
theorem G7 {x : Operand} {t : TypeId} {g : Bool} {sz : Nat} {es : List (List C)} {ti : TyI} {el : Nat × Nat × Nat} (h : lk Z.T st ty x=some (g, .v (.c (.sl sz es)))) (hg : gate=true→g=true)
  (ht : tyAt Z.T t=some ti) (hel : ti.el=some el) : PureOk Z st (.call { callee:=.builtin .len,args:=#[x],argTypes:=#[t] }) ty gate (.v (.c (.i .i64 (es.length : Int)))):=by
 intro o E G a w ho _ hr hgt
 obtain ⟨e,s,by'⟩:=el
 have hu:=((Z.tyOk ht).sl e s by' hel).1
 refine ⟨.int .i64 es.length,CRep.i _ _,?_⟩
 have h1:=F4 hr h (hg hgt)
 rcases CRep.sl_cases h1 with ⟨_,h2,rfl⟩ | ⟨blk,off,len,cap,h2,hl⟩
 ·simp [execOp,ho,h2,Go.resolve,invoke,builtin,Builtin.len_,underlying,hu,goInt]
 ·simp [execOp,ho,h2,Go.resolve,invoke,builtin,Builtin.len_,underlying,hu,goInt,hl]
theorem Rm {x i : Operand} {t : TypeId} {g gi : Bool} {l : List UInt8} {k : IntKind} {n : Int} {j : Nat} {b : UInt8} (h : lk Z.T st ty x=some (g, .v (.c (.s l)))) (hi : lk Z.T st ty i=some (gi, .v (.c (.i k n))))
  (hg : gate=true→g=true) (hgi : gate=true→gi=true) (hu : Z.P.underlying t=some .string) (hn : n=(j : Int)) (hj : l[j]? = some b) : PureOk Z st (.index t x i) ty gate (.v (.c (.i .u8 (b.toNat : Int)))):=by
 intro o E G a w ho _ hr hgt
 have h1:=XRep.str (F4 hr h (hg hgt))
 have h2:=XRep.int (F4 hr hi (hgi hgt))
 subst hn
 have hlt : j < l.length:=(List.getElem?_eq_some_iff.1 hj).1
 have hget : (⟨l.toArray⟩ : ByteArray)[j]? = some b:=by
  have hlt' : j < (⟨l.toArray⟩ : ByteArray).size:=by simpa [Dx] using hlt
  rw[getElem?_pos _ j hlt']
  have := (List.getElem?_eq_some_iff.1 hj).2
  simp only [Option.some.injEq]
  rw[← this]
  rfl
 exact ⟨.int .u8 b.toNat,CRep.i _ _,by simp [execOp,ho,h1,h2,Instr.index,asIntOf,underlying,hu,hget]⟩
end
end Go.Abs
namespace Go.Abs
variable {Z : Pg}
theorem X7 (f : Nm→Bool) : ∀ (l : List (Nm × List C)) (p : Nm),getB (l.filter fun q=>f q.1) p=if f p=true then getB l p else none
 | [],p=>by simp [getB]
 | (q,e) :: r,p=>by
  simp only [List.filter_cons]
  by_cases hq : q=p
  ·subst hq
   by_cases hf : f q=true
   ·simp [hf,G6]
   ·simp only [hf]
    rw[if_neg (by simp),X7 f r q]
    simp [hf]
  ·split
   ·rw[G6,G6,if_neg hq,if_neg hq,X7 f r p]
   ·rw[G6,if_neg hq,X7 f r p]
structure SameA (st : St) (A A' : Nm→Nat × Nat) : Prop where
 t : ∀ k g x,st.get k=some (g,x) → ∀ n,x.has n=true→A' n=A n
 bx : ∀ n cs,st.box n=some cs→A' n=A n
 ow : ∀ n off sz,st.own (.b n off)=some sz→A' n=A n
 o : ∀ j,A' (.o j)=A (.o j)
theorem SameA.refl (st : St) (A : Nm→Nat × Nat) : SameA st A A:=⟨fun _ _ _ _ _ _=>rfl,fun _ _ _=>rfl,fun _ _ _ _=>rfl,fun _=>rfl⟩
theorem ValAt.lt {E : Env} {G : Gh} {st : St} {a : Act} {w : World} (h : Rel E G st a w) {p : Pl} {sz : Nat} (hp : st.own p=some sz) {n : Nm} {off : Nat} (he : p = .b n off) : (G.A n).1 < w.heap.size:=by
 obtain ⟨v,hv,_⟩:=h.ow p sz hp
 subst he
 exact World.block_lt_of_cell? (a:=⟨(G.A n).1,(G.A n).2 + off,none⟩) w hv.1
theorem Rel.grow {E : Env} {G G1 : Gh} {st : St} {a : Act} {w w1 : World} (h : Rel E G st a w) (hf : Fr (fun _ _=>False) w.heap.size w w1)
  (hW : ∀ b o,b < w.heap.size→G1.W b o=G.W b o) (hA : SameA st G.A G1.A) (hwf : ∀ b o,G1.W b o ≠ .none→b < w1.heap.size) : Rel E G1 st a w1:=by
 have hB : E.B≤w.heap.size:=Nat.le_trans h.hB h.fr.size
 have hS : ∀ b o,G.S b o→G1.S b o:=fun b o hs=>by
  unfold Gh.S at *
  rw[hW b o (h.wf b o (by rw[hs]; simp))]
  exact hs
 have hc : ∀ b o,b < w.heap.size→w1.cell? ⟨b,o,none⟩=w.cell? ⟨b,o,none⟩:=fun b o hb=>hf.cell b o hb (fun x=>x)
 have hcS : ∀ b o,G.S b o→w1.cell? ⟨b,o,none⟩=w.cell? ⟨b,o,none⟩:=fun b o hs=>hc b o (h.wf b o (by unfold Gh.S at hs; rw[hs]; simp))
 constructor
 ·exact h.df
 ·intro k g x hk
  obtain ⟨v,hv,h1,h2⟩:=h.tm k g x hk
  exact ⟨v,hv,fun hg=>(h1 hg).mono hS hcS (hA.t k g x hk),h2⟩
 ·intro n cs hn j c hj
  obtain ⟨h1,h2,v,h3,h4⟩:=h.bx n cs hn j c hj
  have hlt : (G.A n).1 < w.heap.size:=World.block_lt_of_cell? (a:=⟨(G.A n).1,(G.A n).2 + j,none⟩) w h3
  rw[hA.bx n cs hn]
  exact ⟨by rw[hW _ _ hlt]; exact h1,by rw[hf.frozen _ _ hlt]; exact h2,v,by rw[hc _ _ hlt]; exact h3,h4.mono hS hcS⟩
 ·intro p sz hp
  obtain ⟨v,hv,ho⟩:=h.ow p sz hp
  refine ⟨v,?_,?_⟩
  ·cases p with
   | t k=>exact hv
   | b n off =>
    show w1.cell? _=_∧G1.W _ _=_
    rw[hA.ow n off sz hp,hc _ _ (ValAt.lt h hp J),hW _ _ (ValAt.lt h hp J)]
    exact hv
  ·rcases ho with ho | ⟨blk,len,cap,e,h1,h2,h3,h4⟩
   ·exact .inl ho
   ·by_cases hz : len * sz < cap * sz
    ·have hlt:=h.wf blk (len * sz) (by rw[(h4 _ (Nat.le_refl _) hz).1]; simp)
     exact .inr ⟨blk,len,cap,e,h1,h2,⟨by rw[hf.shape blk hlt]; exact h3.1,by rw[hf.mark blk hlt]; exact h3.2⟩,fun o ho1 ho2=>by
      rw[hW blk o hlt,hf.frozen blk o hlt]; exact h4 o ho1 ho2⟩
    ·have hlt : blk < w.heap.size:=by
      rcases Nat.lt_or_ge blk w.heap.size with hx | hx
      ·exact hx
      ·have h3:=h3.1; simp [World.shape?,Array.getElem?_eq_none hx] at h3
     exact .inr ⟨blk,len,cap,e,h1,h2,⟨by rw[hf.shape blk hlt]; exact h3.1,by rw[hf.mark blk hlt]; exact h3.2⟩,fun o ho1 ho2=>by omega⟩
 ·exact hwf
 ·intro b o n hb hn
  rw[hW b o (by omega)] at hn
  exact h.olB b o n hb hn
 ·intro b o p hb hn
  rw[hW b o (by omega)] at hn
  exact h.olO b o p hb hn
 ·exact h.nt
 ·exact fun j=>(hA.o j).trans (h.oA j)
 ·intro b o hi
  have := h.im b o hi
  exact hS b o this
 ·intro b o hb hi
  rw[hW b o (by omega)] at hi
  exact h.im' b o hb hi
 ·exact h.fr.trans (hf.mono hB (fun _ _ _ x=>x.elim))
 ·exact h.hB
 ·intro b o hb
  rw[hW b o (by omega)]
  exact h.lo b o hb
 ·intro t k cs hn hne
  obtain ⟨q1,q2,x,q3,q4⟩:=h.bd t k cs hn hne
  have hlt : (G.A (.bd t k)).1 < w.heap.size:=World.block_lt_of_cell? (a:=⟨(G.A (.bd t k)).1,0,none⟩) w q3
  rw[hA.bx _ cs hn,hf.shape _ hlt,hc _ _ hlt]
  exact ⟨q1,q2,x,q3,q4⟩
 ·intro x hx
  obtain ⟨q1,q2,q3⟩:=h.mp x hx
  have hlt:=q1.lt
  exact ⟨q1.of_same (hf.block _ hlt fun _ z=>z),q2,fun o=>by rw[hW _ o hlt]; exact q3 o⟩
theorem Bt (w : World) (o : Obj) : Fr (fun _ _=>False) w.heap.size w (w.alloc o) where
 os:=rfl
 tape:=rfl
 output:=rfl
 size:=by simp
 block:=fun b hb _=>RowKit.Below.heap_alloc _ _ _ hb
 cell:=fun b o' hb _=>World.cell?_alloc_lt w o _ hb
 mark:=fun b hb=>by
  have := RowKit.Below.heap_alloc w o b hb
  unfold L0
  rw[this]
 shape:=fun b hb=>by
  have := RowKit.Below.heap_alloc w o b hb
  unfold World.shape?
  rw[this]
def Gh.push (G : Gh) (n : Nat) (f : Nat→Who) : Gh:={ G with W:=fun b o=>if b=n then f o else G.W b o }
def Gh.name (G : Gh) (n : Nm) (x : Nat × Nat) : Gh:={ G with A:=fun m=>if m=n then x else G.A m }
def St.fresh (st : St) (n : Nm) : Bool:=st.t.all fun e=>!e.2.2.has n
def Pl.inBox (n : Nm) : Pl→Bool
 | .b m _=>Nm.beq m n
 | .t _=>false
def St.drop (st : St) (n : Nm) : St :=
 {t:=st.t,bx:=st.bx.filter fun q=>!Nm.beq q.1 n,ow:=st.ow.filter fun q=>!Pl.inBox n q.1,mp:=st.mp }
theorem St.drop_box (st : St) (n m : Nm) : (st.drop n).box m=if m=n then none else st.box m:=by
 show getB (st.bx.filter fun q=>!Nm.beq q.1 n) m=_
 rw[X7 (fun q=>!Nm.beq q n)]
 by_cases h : m=n
 ·subst h; simp [Nm.beq_self]
 ·simp [h,Nm.beq_ne h,St.box]
theorem St.drop_own (st : St) (n : Nm) (p : Pl) : (st.drop n).own p=if Pl.inBox n p=true then none else st.own p:=by
 show getO (st.ow.filter fun q=>!Pl.inBox n q.1) p=_
 rw[L6 (fun q=>!Pl.inBox n q)]
 cases hb : Pl.inBox n p <;> simp [St.own]
theorem St.drop_sub (st : St) (n : Nm) : Sub (st.drop n) st where
 t:=fun _ _ h=>h
 bx:=fun m cs h=>by
  rw[St.drop_box] at h
  split at h
  ·simp at h
  ·exact h
 ow:=fun p sz h=>by
  rw[St.drop_own] at h
  split at h
  ·simp at h
  ·exact h
theorem Nw : ∀ {l : List (Nat × Bool × X)} {k : Nat} {e : Bool × X},getT l k=some e→(k,e) ∈ l
 | [],k,e,h=>by simp [getT] at h
 | (j,e') :: r,k,e,h=>by
  rw[J9] at h
  split at h
  ·rename_i hj; subst hj; simp at h; subst h; simp
  ·exact List.mem_cons_of_mem _ (Nw h)
theorem St.fresh_has {st : St} {n : Nm} (h : st.fresh n=true) {k : Nat} {g : Bool} {x : X} (hk : st.get k=some (g,x)) : x.has n=false:=by
 have := List.all_eq_true.1 h _ (Nw hk)
 simpa using this
def FreshG (st : St) (n : Nm × Bool) : Prop:=(n.2=true → ∀ k g x,st.get k=some (g,x)→x.has n.1=false) ∧ ∀ p sz,st.own p=some sz→Pl.inBox n.1 p=false
def St.freshO (st : St) (n : Nm × Bool) : Bool:=(!n.2 || st.fresh n.1) && st.ow.all fun q=>!Pl.inBox n.1 q.1
theorem Qc : ∀ {l : List (Pl × Nat)} {p : Pl} {sz : Nat},getO l p=some sz→(p,sz) ∈ l
 | [],p,sz,h=>by simp [getO] at h
 | (q,e) :: r,p,sz,h=>by
  rw[L9] at h
  split at h
  ·rename_i he; subst he; simp at h; subst h; simp
  ·have := Qc h; simp [this]
theorem St.freshO_ok {st : St} {n : Nm × Bool} (h : st.freshO n=true) : FreshG st n:=by
 unfold St.freshO at h
 rw[Bool.and_eq_true] at h
 refine ⟨fun hn k g x hk=>St.fresh_has (by have := h.1; rw[hn] at this; simpa using this) hk,fun p sz hp=>?_⟩
 have := List.all_eq_true.1 h.2 _ (Qc hp)
 simpa using this
theorem St.drop_same {st : St} {k0 : Nat} {n : Nm} (hn : n = .l k0) (h : ∀ k g x,st.get k=some (g,x)→x.has n=false) (A : Nm→Nat × Nat) (x : Nat × Nat) : SameA (st.drop n) A (fun m=>if m=n then x else A m) where
 t:=fun k g x' hk m hm=>by
  have : m≠n := fun e=>by subst e; have := h k g x' hk; rw[hm] at this; simp at this
  simp [this]
 bx:=fun m cs hm=>by
  rw[St.drop_box] at hm
  split at hm
  ·simp at hm
  ·rename_i hne; simp [hne]
 ow:=fun m off sz hm=>by
  rw[St.drop_own] at hm
  split at hm
  ·simp at hm
  ·rename_i hne
   have : m≠n:=fun e=>hne (by subst e; simp [Pl.inBox,Nm.beq_self])
   simp [this]
 o:=fun j=>by subst hn; simp
def St.addBox (st : St) (n : Nm) (cs : List C) : St:={ (st.drop n) with bx:=(n,cs) :: (st.drop n).bx }
theorem Rel.addBox {E : Env} {G : Gh} {st : St} {a : Act} {w : World} {n : Nm} {cs : List C} (h : Rel E G (st.drop n) a w) (hb : R8 w G n cs) (hnb : n.isBd=false) : Rel E G (st.addBox n cs) a w where
 df:=h.df
 tm:=h.tm
 bx:=by
  intro m ds hm
  have : (st.addBox n cs).box m=if n=m then some cs else (st.drop n).box m:=G6 _ _ _ _
  rw[this] at hm
  split at hm
  ·rename_i he; subst he; simp at hm; subst hm; exact hb
  ·exact h.bx m ds hm
 ow:=h.ow
 wf:=h.wf
 olB:=h.olB
 olO:=h.olO
 nt:=h.nt
 oA:=h.oA
 im:=h.im
 im':=h.im'
 fr:=h.fr
 hB:=h.hB
 lo:=h.lo
 bd:=by
  intro t k ds hm
  have : (st.addBox n cs).box (.bd t k)=if n = .bd t k then some cs else (st.drop n).box (.bd t k):=G6 _ _ _ _
  rw[this,if_neg (fun e=>by rw[e] at hnb; simp [Nm.isBd] at hnb)] at hm
  exact h.bd t k ds hm
 mp:=h.mp
theorem Rel.newBox {E : Env} {G : Gh} {st : St} {a : Act} {w : World} (h : Rel E G st a w) {d : Nat} (hfr : ∀ k g x,st.get k=some (g,x)→x.has (.l d)=false) {cs : List C} {vs : Array Value} {t : TypeId}
  (hv : All2 (CRep w G.S) cs vs.toList) :
  ∃ G',Rel E G' (st.addBox (.l d) cs) a (w.alloc (.cells vs t))∧G'.A (.l d)=(w.heap.size,0):=by
 refine ⟨(G.push w.heap.size fun o=>if o < cs.length then .box (.l d) else .none).name (.l d) (w.heap.size,0),?_,by simp [Gh.name]⟩;refine Rel.addBox ?_ ?_ J
 ·refine (h.sub (St.drop_sub st (.l d))).grow (Bt w _) ?_ (St.drop_same J hfr _ _) ?_
  ·intro b o hb
   have : ¬ b=w.heap.size:=by omega
   simp [Gh.name,Gh.push,this]
  ·intro b o hne
   simp only [Gh.name,Gh.push] at hne
   split at hne
   ·rename_i hb; subst hb; simp
   ·have := h.wf b o hne; simp; omega
 ·intro j c hj
  have hjl : j < cs.length:=(List.getElem?_eq_some_iff.1 hj).1
  obtain ⟨v,hv',hr⟩:=hv.get j c hj
  refine ⟨by simp [Gh.name,Gh.push,hjl],by simp [Gh.name],v,?_,?_⟩
  ·simp only [Gh.name,if_true]
   rw[World.cell?_alloc_new]
   simpa using hv'
  ·refine hr.mono ?_ ?_
   ·intro b o hs
    have hb:=h.wf b o (by unfold Gh.S at hs; rw[hs]; simp)
    have : ¬ b=w.heap.size:=by omega
    simpa [Gh.S,Gh.name,Gh.push,this] using hs
   ·intro b o hs
    have hb:=h.wf b o (by unfold Gh.S at hs; rw[hs]; simp)
    exact World.cell?_alloc_lt w _ _ hb
def Qn (K : Act→World→Prop) : Exit→Act→World→Prop
 | .normal,a,w=>K a w
 | _,_,_=>False
def AL (Z : Pg) (N : Nat) (ops : Array Oper) (rest : List Oper) (K : St→Prop) (st : St) : Prop :=
 ∀ (E : Env) (G : Gh) (a : Act) (w : World),Rel E G st a w→EOk Z N E → ∀ K' : Act→World→Prop,(∀ st' G' a' w',K st'→Rel E G' st' a' w'→K' a' w')→wpList Z.P ops (Qn K') rest a w
def G8 (ops : Array Oper) (st : St) (o : Oper) : Option Bool :=
 match o.guard with
 | none=>some true
 | some (j,want)=>match (ops[j]?).bind (·.dst) with
  | some d=>(match st.get d with | some (g, .v (.c (.b x)))=>some (g && (x == want)) | _=>none)
  | none=>none
theorem J6 {E : Env} {G : Gh} {st : St} {a : Act} {w : World} (hr : Rel E G st a w) {ops : Array Oper} {o : Oper} {gate : Bool} (h : G8 ops st o=some gate) :
  Region.wanted o (yielded ops a.tmps)=gate:=by
 unfold G8 at h
 unfold Region.wanted
 split at h
 ·rename_i hg; simp at h; subst h; simp [hg]
 ·rename_i j want hg
  simp only [hg]
  split at h
  ·rename_i d hd
   split at h
   ·rename_i g x hx
    simp at h
    subst h
    obtain ⟨v,hv,h1,h2⟩:=hr.tm d g _ hx
    unfold yielded
    rw[hd]
    simp only [Option.bind_some,hv]
    cases g with
    | false=>rw[h2 J]; simp [undef]
    | true =>
     have := XRep.bool (h1 J)
     subst this
     simp
   ·simp at h
  ·simp at h
theorem B0 {N : Nat} {ops : Array Oper} {K : St→Prop} {st : St} (h : K st) : AL Z N ops [] K st :=
 fun _ G a w hr _ _ hK=>hK st G a w h hr
def Op1 (Z : Pg) (N : Nat) (ops : Array Oper) (o : Oper) (st st' : St) : Prop :=
 ∀ (E : Env) (G : Gh) (a : Act) (w : World),Rel E G st a w→EOk Z N E → ∀ (K : Act→World→Prop) (Q : Exit→Act→World→Prop),(∀ G' v w',Rel E G' st' (a.put o.dst v) w'→K (a.put o.dst v) w') →
  if Region.wanted o (yielded ops a.tmps) then o.wp Z.P a w K Q else K (a.put o.dst undef) w
theorem Op1.sub {N : Nat} {ops : Array Oper} {o : Oper} {st st' s' : St} (h : Op1 Z N ops o st st') (hs : Sub s' st') : Op1 Z N ops o st s' :=
 fun E G a w hr hE K Q hK=>h E G a w hr hE K Q fun G' v w' hr'=>hK G' v w' (hr'.sub hs)
theorem U7 {N : Nat} {ops : Array Oper} {rest : List Oper} {K : St→Prop} {st st' : St} {o : Oper} (hp : Op1 Z N ops o st st') (h : AL Z N ops rest K st') : AL Z N ops (o :: rest) K st:=by
 intro E G a w hr hE K' hK
 have := hp E G a w hr hE (wpList Z.P ops (Qn K') rest) (Qn K') fun G' v w' hr'=>h E G' _ w' hr' hE K' hK
 unfold wpList
 split at this
 ·rename_i hw; rw[if_pos hw]; exact .inl this
 ·rename_i hw; rw[if_neg hw]; exact this
theorem Of {N : Nat} {ops : Array Oper} {st : St} {o : Oper} {gate : Bool} {d : Nat} {x : X} (hg : G8 ops st o=some gate) (hd : o.dst=some d) (hN : Nat.ble (d + 1) N=true)
  (hp : PureOk Z st o.op o.type gate x) : Op1 Z N ops o st (st.put d (gate,x)):=by
 intro E G a w hr hE K Q hK
 have hdN : d < E.nt:=by rw[hE.nt]; exact Nat.le_of_ble_eq_true hN
 rw[J6 hr hg,hd]
 rw[hd] at hK
 cases gate with
 | true =>
  obtain ⟨v,hx,hrun⟩:=hp o E G a w rfl rfl hr rfl
  simp only [if_true]
  unfold Oper.wp
  rw[hrun,Oper.upon_value,hd]
  exact hK G v w (hr.put hdN (fun _=>hx) (fun hf=>by simp at hf))
 | false =>
  simp only [Bool.false_eq_true,if_false]
  exact hK G undef w (hr.put hdN (fun hf=>by simp at hf) (fun _=>rfl))
theorem A5 {N : Nat} {ops : Array Oper} {rest : List Oper} {K : St→Prop} {st : St} {o : Oper} {gate : Bool} {d : Nat} {x : X} (hg : G8 ops st o=some gate) (hd : o.dst=some d) (hN : Nat.ble (d + 1) N=true)
  (hp : PureOk Z st o.op o.type gate x) (h : AL Z N ops rest K (st.put d (gate,x))) : AL Z N ops (o :: rest) K st:=U7 (Of hg hd hN hp) h
def Does (Z : Pg) (N : Nat) (st : St) (dst : Option Nat) (op : Op) (ty : TypeId) (st' : St) : Prop :=
 ∀ (o : Oper) (E : Env) (G : Gh) (a : Act) (w : World),o.dst=dst→o.op=op→o.type=ty→Rel E G st a w→EOk Z N E → ∀ (K : Act→World→Prop) (Q : Exit→Act→World→Prop),
  (∀ G' v w',Rel E G' st' (a.put dst v) w'→K (a.put dst v) w')→o.wp Z.P a w K Q
theorem Dn {N : Nat} {ops : Array Oper} {st st' : St} {o : Oper} (hg : G8 ops st o=some true)
  (hp : Does Z N st o.dst o.op o.type st') : Op1 Z N ops o st st':=by
 intro E G a w hr hE K Q hK
 rw[J6 hr hg]
 simp only [if_true]
 exact hp o E G a w J J J hr hE _ _ hK
theorem C3 {N : Nat} {ops : Array Oper} {rest : List Oper} {K : St→Prop} {st st' : St} {o : Oper} (hg : G8 ops st o=some true)
  (hp : Does Z N st o.dst o.op o.type st') (h : AL Z N ops rest K st') : AL Z N ops (o :: rest) K st:=U7 (Dn hg hp) h
theorem H3 {N : Nat} {ops : Array Oper} {rest : List Oper} {K : St→Prop} {st s : St} (hs : Sub s st) (h : AL Z N ops rest K s) : AL Z N ops rest K st :=
 fun E G a w hr hE K' hK=>h E G a w (hr.sub hs) hE K' hK
def AWP (Z : Pg) (N : Nat) (c : Code) (Q : Exit→St→Prop) (st : St) : Prop :=
 ∀ (E : Env) (G : Gh) (a : Act) (w : World),Rel E G st a w→EOk Z N E→c.wp Z.P (fun e a' w'=>∃ G' st',Q e st'∧Rel E G' st' a' w') a w
def Hr (next : St→Prop) (Q : Exit→St→Prop) : Exit→St→Prop
 | .normal,s=>next s
 | e,s=>Q e s
def Cv (id : Nat) (Q : Exit→St→Prop) : Exit→St→Prop
 | .exit id',s=>if id'=id then Q .normal s else Q (.exit id') s
 | e,s=>Q e s
section
variable {N : Nat} {Q : Exit→St→Prop} {st : St}
theorem A6 {id : Nat} {ops : List Oper} (h : AL Z N ops.toArray ops (Q .normal) st) : AWP Z N (.region id ops.toArray false) Q st:=by
 intro E G a w hr hE
 refine wp_mono (wp_region_lit (h E G a w hr hE (fun a' w'=>∃ G' st',Q .normal st'∧Rel E G' st' a' w') fun st' G' a' w' hq hr'=>⟨G',st',hq,hr'⟩)) ?_
 intro e a' w' hq
 cases e <;> first|exact hq|exact hq.elim
theorem C0 (h : Q .normal st) : AWP Z N .skip Q st:=fun _ G _ _ hr _=>wp_skip ⟨G,st,h,hr⟩
theorem E2 {id : Nat} (h : Q (.exit id) st) : AWP Z N (.exit id) Q st:=fun _ G _ _ hr _=>wp_exit ⟨G,st,h,hr⟩
theorem C1 (h : Q .ret st) : AWP Z N .ret Q st:=fun _ G _ _ hr _=>wp_ret ⟨G,st,h,hr⟩
theorem Rp {c : Code} {Q' : Exit→St→Prop} (h : AWP Z N c Q st) (hq : ∀ e s,Q e s→Q' e s) : AWP Z N c Q' st :=
 fun E G a w hr hE=>wp_mono (h E G a w hr hE) fun _ _ _ ⟨G',st',h1,h2⟩=>⟨G',st',hq _ _ h1,h2⟩
theorem B5 {c : Code} {s : St} (hs : Sub s st) (h : AWP Z N c Q s) : AWP Z N c Q st :=
 fun E G a w hr hE=>h E G a w (hr.sub hs) hE
theorem A8 {x y : Code} (h : AWP Z N x (Hr (AWP Z N y Q) Q) st) : AWP Z N (x.seq y) Q st:=by
 intro E G a w hr hE
 refine wp_seq (wp_mono (h E G a w hr hE) ?_)
 rintro e a' w' ⟨G',st',hq,hr'⟩
 cases e <;> first
  | exact hq E G' a' w' hr' hE
  | exact ⟨G',st',hq,hr'⟩
theorem C4 {id : Nat} {c : Code} (h : AWP Z N c (Cv id Q) st) : AWP Z N (.block id c) Q st:=by
 intro E G a w hr hE
 refine wp_block (wp_mono (h E G a w hr hE) ?_)
 rintro e a' w' ⟨G',st',hq,hr'⟩
 cases e with
 | exit id' =>
  simp only [Cv,Exit.inBlock] at hq ⊢
  split
  ·rename_i he; rw[if_pos he] at hq; exact ⟨G',st',hq,hr'⟩
  ·rename_i he; rw[if_neg he] at hq; exact ⟨G',st',hq,hr'⟩
 | normal=>exact ⟨G',st',hq,hr'⟩
 | goto l=>exact ⟨G',st',hq,hr'⟩
 | ret=>exact ⟨G',st',hq,hr'⟩
 | panic ch=>exact ⟨G',st',hq,hr'⟩
 | outgrown=>exact ⟨G',st',hq,hr'⟩
theorem B9 {c : Operand} {x y : Code} {b : Bool} (hc : lk Z.T st 0 c=some (true, .v (.c (.b b)))) (ht : b=true→AWP Z N x Q st) (hf : b=false→AWP Z N y Q st) :
  AWP Z N (.cond c x y) Q st:=by
 intro E G a w hr hE
 have h1:=XRep.bool (F4 hr hc J)
 exact wp_cond_split h1 (fun h=>ht h E G a w hr hE) (fun h=>hf h E G a w hr hE)
theorem Nn {P : Program} {c : Code} {Q : Exit→Act→World→Prop} (I : Nat→Act→World→Prop) (n : Nat) {a : Act} {w : World} (h0 : I n a w)
  (round : ∀ n a w,I n a w→c.wp P (Exit.then (fun a' w'=>∃ m,m < n∧I m a' w') Q) a w) : (Code.loop c).wp P Q a w:=by
 intro b k cs
 have key : ∀ n a w,I n a w → ∃ e a' w',Q e a' w'∧Arrives P (lone (b.at a (.code c :: .inLoop c :: k)) cs w) b k cs e a' w':=by
  intro n
  induction n using Nat.strongRecOn with
  | _ n ih =>
   intro a w hI
   obtain ⟨e,a1,w1,hq,harr⟩:=round n a w hI b (.inLoop c :: k) cs
   cases e with
   | normal =>
    obtain ⟨m,hlt,hI1⟩:=hq
    obtain ⟨e2,a2,w2,hq2,harr2⟩:=ih m hlt a1 w1 hI1
    exact ⟨e2,a2,w2,hq2, .of_steps (Steps.trans harr (.one step_inLoop)) harr2⟩
   | exit id=>exact ⟨_,a1,w1,hq, .pass (x:=.inLoop c) J (fun _ _=>.inl (by simp)) harr⟩
   | goto l=>exact ⟨_,a1,w1,hq, .pass (x:=.inLoop c) J (fun _ _=>.inl (by simp)) harr⟩
   | ret=>exact ⟨_,a1,w1,hq, .pass (x:=.inLoop c) J (fun _ _=>.inl (by simp)) harr⟩
   | panic ch=>exact ⟨_,a1,w1,hq, .pass (x:=.inLoop c) J (fun _ _=>.inl (by simp)) harr⟩
   | outgrown=>exact ⟨_,a1,w1,hq, .pass (x:=.inLoop c) J (fun _ _=>.inl (by simp)) harr⟩
 obtain ⟨e,a',w',hq,harr⟩:=key n a w h0
 exact ⟨e,a',w',hq, .of_steps (.one step_loop) harr⟩
theorem P3 {ι : Type} {c : Code} (S : ι→St) (ok : ι→Prop) (m : ι→Nat) (i0 : ι) (h0 : ok i0) (hs : Sub (S i0) st)
  (round : ∀ i,ok i→AWP Z N c (Hr (fun s=>∃ j,ok j∧m j < m i∧Sub (S j) s) Q) (S i)) : AWP Z N (.loop c) Q st:=by
 intro E G a w hr hE
 refine Nn (fun n a' w'=>∃ i G',m i=n∧ok i∧Rel E G' (S i) a' w') (m i0) ⟨i0,G,rfl,h0,hr.sub hs⟩ ?_
 rintro n a' w' ⟨i,G',rfl,hi,hr'⟩
 refine wp_mono (round i hi E G' a' w' hr' hE) ?_
 rintro e a2 w2 ⟨G2,st2,hq,hr2⟩
 cases e <;> first
  | (obtain ⟨j,hj,hlt,hsub⟩:=hq; exact ⟨m j,hlt,j,G2,rfl,hj,hr2.sub hsub⟩)
  | exact ⟨G2,st2,hq,hr2⟩
end
end Go.Abs
namespace Go.Abs
variable {Z : Pg}
def P8 (Z : Pg) (f : FuncId) : Prop := ∃ fn, Z.P.funcs[f]? = some fn ∧ fn.body.isNone = false ∧ (fn.name == "runtime.NumGoroutine") = false
def Ctr (Z : Pg) (f : FuncId) (args : List X) (bs : List (List C)) (res : X) (ro : Option Nat) (bs' : List (List C)) : Prop :=
 P8 Z f ∧ ∀ (w : World) (G : Gh) (vs : List Value),All2 (XRep w G) args vs→(∀ b o,G.W b o ≠ .none→b < w.heap.size)→(∀ (j : Nat) (cs : List C),bs[j]? = some cs→R8 w G (.o j) cs) →
  (∀ b o n,G.W b o = .box n → ∃ j cs k,n = .o j∧bs[j]? = some cs∧k < cs.length∧b=(G.A n).1∧o=(G.A n).2 + k)→(∀ b o p,G.W b o ≠ .own p)→GlOk Z w G →
  Calls Z.P f vs.toArray w fun e w'=>∃ v G',e = .returned v∧Fr (fun b o=>∃ n,G.W b o = .box n) w.heap.size w w' ∧
   (∀ b o,G.W b o = .imm→G'.W b o = .imm)∧(∀ b o,b < w.heap.size→G'.W b o = .imm→G.W b o = .imm)∧(∀ b o,G'.W b o ≠ .none→b < w'.heap.size)∧XRep w' G' res v ∧
   (∀ j,G'.A (.o j)=G.A (.o j))∧(∀ (j : Nat) (cs : List C),bs'[j]? = some cs→R8 w' G' (.o j) cs) ∧
   (∀ sz,ro=some sz→OwnAt w.heap.size w' G' (.t 0) sz v)∧(∀ b o,G'.W b o = .own (.t 0)→w.heap.size≤b)
def Y.clean : Y→Bool
 | .ptr _ _ | .ms _ _ _ _ | .msv _ _ _ _ _=>false
 | _=>true
def X.clean : X→Bool
 | .v z=>z.clean
 | .tup ys | .fn _ ys=>ys.all (·.clean)
 | .kn _ _ _ | .fnv _ _ _=>false
theorem Y.clean_has {y : Y} (h : y.clean=true) (n : Nm) : y.has n=false:=by
 cases y <;> simp_all [Y.clean,Y.has]
theorem X.clean_has {x : X} (h : x.clean=true) (n : Nm) : x.has n=false:=by
 cases x with
 | v z=>exact Y.clean_has h n
 | tup ys =>
  simp only [X.clean,X.has] at *
  rw[List.any_eq_false]
  intro y hy
  simp [Y.clean_has (List.all_eq_true.1 h y hy) n]
 | fn f ys =>
  simp only [X.clean,X.has] at *
  rw[List.any_eq_false]
  intro y hy
  simp [Y.clean_has (List.all_eq_true.1 h y hy) n]
 | kn one cs ms=>cases h
 | fnv f ys u=>cases h
def M2 (T : List (Option TyI)) (st : St) : List TypeId→List Operand→Option (Bool × List X)
 | _,[]=>some (true,[])
 | [],_ :: _=>none
 | t :: ts,o :: os=>match lk T st t o with
  | some (g,x)=>(match M2 T st ts os with | some (g',xs)=>some (g && g',x :: xs) | none=>none)
  | none=>none
theorem P5 {E : Env} {G : Gh} {st : St} {a : Act} {w : World} (hr : Rel E G st a w) {T : List (Option TyI)} : ∀ {ts : List TypeId} {os : List Operand} {g : Bool} {xs : List X},
  M2 T st ts os=some (g,xs)→g=true→All2 (XRep w G) xs (os.map a.eval)
 | _,[],g,xs,h,hg=>by simp [M2] at h; obtain ⟨_,rfl⟩:=h; trivial
 | [],_ :: _,g,xs,h,hg=>by simp [M2] at h
 | t :: ts,o :: os,g,xs,h,hg=>by
  simp only [M2] at h
  split at h
  ·rename_i g1 x h1
   split at h
   ·rename_i g2 xs' h2
    simp only [Option.some.injEq,Prod.mk.injEq] at h
    obtain ⟨rfl,rfl⟩:=h
    rw[Bool.and_eq_true] at hg
    exact ⟨F4 hr h1 hg.1,P5 hr h2 hg.2⟩
   ·simp at h
  ·simp at h
theorem U1 {fo : Operand} {args : Array Operand} {ts : Array TypeId} {f : FuncId} {caps : List Value} {o : Oper} {a : Act} {w : World}
  (ho : o.op = .call { callee:=.value fo,args:=args,argTypes:=ts }) (hf : a.eval fo = .func (.func f) #[] caps.toArray) (he : P8 Z f) :
  (execOp a.eval o).run Z.P w = .ok (.enter f ((args.toList.map a.eval)++caps).toArray) w:=by
 obtain ⟨fn,h1,h2,h3⟩:=he
 have h3' : ¬ fn.name = "runtime.NumGoroutine" := by simpa using h3
 have h2' : ¬ fn.body=none:=by
  intro e; rw[e] at h2; simp at h2
 simp [execOp,ho,Go.resolve,hf,Deferred.ofValue,invoke,callFunc,h1,h3',h2']
def Gh.pure (G : Gh) : Gh:={ G with W:=fun b o=>match G.W b o with | .imm=>.imm | _=>.none }
theorem Gh.pure_imm (G : Gh) (b o : Nat) : G.pure.W b o = .imm ↔ G.W b o = .imm:=by
 unfold Gh.pure; dsimp only; cases G.W b o <;> simp
theorem Gh.pure_cases (G : Gh) (b o : Nat) : G.pure.W b o = .imm∨G.pure.W b o = .none:=by
 unfold Gh.pure; dsimp only; cases G.W b o <;> simp
theorem GlOk.pure {Z : Pg} {w : World} {G : Gh} (h : GlOk Z w G) : GlOk Z w G.pure:=fun g hg =>
 ⟨(h g hg).1,(h g hg).2.1,fun o n hn=>by rcases G.pure_cases g.1 o with q | q <;> rw[q] at hn <;> simp at hn,fun o p hp=>by rcases G.pure_cases g.1 o with q | q <;> rw[q] at hp <;> simp at hp⟩
def Gh.back (G G' : Gh) (B : Nat) (own : Who) : Gh :=
 {A:=G.A,W:=fun b o=>if b < B then G.W b o else match G'.W b o with | .imm=>.imm | .own (.t 0)=>own | _=>.none }
def St.addOwn (st : St) (p : Pl) (sz : Nat) : St:={ st with ow:=(p,sz) :: st.ow }
theorem St.addOwn_own (st : St) (p : Pl) (sz : Nat) (q : Pl) : (st.addOwn p sz).own q=if p=q then some sz else st.own q:=L9 _ _ _ _
theorem Rel.addOwn {E : Env} {G : Gh} {st : St} {a : Act} {w : World} {p : Pl} {sz : Nat} (h : Rel E G st a w) {v : Value} (hv : ValAt a w G p v) (ho : OwnAt E.C w G p sz v) : Rel E G (st.addOwn p sz) a w where
 df:=h.df
 tm:=h.tm
 bx:=h.bx
 ow:=by
  intro q s hq
  rw[St.addOwn_own] at hq
  split at hq
  ·rename_i he; subst he; simp at hq; subst hq; exact ⟨v,hv,ho⟩
  ·exact h.ow q s hq
 wf:=h.wf
 olB:=h.olB
 olO:=h.olO
 nt:=h.nt
 oA:=h.oA
 im:=h.im
 im':=h.im'
 fr:=h.fr
 hB:=h.hB
 lo:=h.lo
 bd:=h.bd
 mp:=h.mp
def St.ret (st : St) (d : Nat) (gate : Bool) (res : X) (ro : Option Nat) : St :=
 match ro with
 | none=>st.put d (gate,res)
 | some sz=>cond gate ((st.put d (gate,res)).addOwn (.t d) sz) (st.put d (gate,res))
theorem Gh.back_imm {G G' : Gh} {B : Nat} {own : Who} (h2 : ∀ b o,b < B→G'.W b o = .imm→G.W b o = .imm) (b o : Nat)
  (h : G'.S b o) : (G.back G' B own).S b o:=by
 unfold Gh.S Gh.back at *
 dsimp only
 split
 ·rename_i hb; exact h2 b o hb h
 ·rw[h]
theorem Rl {N : Nat} {ops : Array Oper} {st : St} {o : Oper} {gate g gf : Bool} {d : Nat} {fo : Operand} {args : Array Operand} {ts : Array TypeId} {f : FuncId} {caps : List Y} {xs : List X} {res : X} {ro : Option Nat}
  (ho : o.op = .call { callee:=.value fo,args:=args,argTypes:=ts }) (hg : G8 ops st o=some gate) (hd : o.dst=some d) (hN : Nat.ble (d + 1) N=true)
  (hf : lk Z.T st 0 fo=some (gf, .fn f caps)) (ha : M2 Z.T st ts.toList args.toList=some (g,xs)) (hgf : gate=true→gf=true) (hga : gate=true→g=true)
  (hs : Ctr Z f (xs++caps.map .v) [] res ro []) (hc : res.clean=true) : Op1 Z N ops o st (st.ret d gate res ro):=by
 intro E G a w hr hE K' Q' hK
 have hdN : d < E.nt:=by rw[hE.nt]; exact Nat.le_of_ble_eq_true hN
 rw[J6 hr hg,hd]
 rw[hd] at hK
 cases gate with
 | false =>
  simp only [Bool.false_eq_true,if_false]
  have : st.ret d false res ro=st.put d (false,res):=by unfold St.ret; split <;> rfl
  rw[this] at hK
  exact hK G undef w (hr.put hdN (fun hf=>by simp at hf) (fun _=>rfl))
 | true =>
  simp only [if_true]
  obtain ⟨cvs,hfv,hcv⟩:=F4 hr hf (hgf rfl)
  have hav:=P5 hr ha (hga J)
  obtain ⟨hen,hsp⟩:=hs
  unfold Oper.wp
  rw[U1 ho hfv hen,Oper.upon_enter]
  have hmono : ∀ {x : X} {v : Value},XRep w G x v→XRep w G.pure x v:=fun hx=>hx.mono (fun b o hs=>(G.pure_imm b o).2 hs) (fun _ _ _=>rfl) (fun _ _=>rfl)
  have hcv' : All2 (XRep w G) (caps.map X.v) cvs:=by
   have : ∀ (as : List Y) (bs : List Value),All2 (YRep w G) as bs→All2 (XRep w G) (as.map X.v) bs:=by
    intro as
    induction as with
    | nil=>intro bs h; cases bs <;> exact h
    | cons y ys ih=>intro bs h; cases bs with
     | nil=>exact h.elim
     | cons b bs=>exact ⟨h.1,ih bs h.2⟩
   exact this _ _ hcv
  refine (hsp w G.pure _ ((hav.append hcv').mono fun _ _=>hmono) ?_ ?_ ?_ ?_ ((hE.at hr).pure)).mono ?_
  ·intro b o' hb
   refine hr.wf b o' ?_
   intro e; apply hb; unfold Gh.pure; simp [e]
  ·intro j cs hj; simp at hj
  ·intro b o' n hn; rcases G.pure_cases b o' with h' | h' <;> rw[h'] at hn <;> simp at hn
  ·intro b o' p hn; rcases G.pure_cases b o' with h' | h' <;> rw[h'] at hn <;> simp at hn
  ·rintro e w' ⟨v,G',rfl,hfr,h1,h2,h3,h4,h5,h6,h7,h8⟩
   dsimp only
   have hfr' : Fr (fun _ _=>False) w.heap.size w w':=hfr.mono (Nat.le_refl _) (fun b o' _ ⟨n,hn⟩=>by rcases G.pure_cases b o' with h' | h' <;> rw[h'] at hn <;> simp at hn)
   have g1 : ∀ b o',G.W b o' = .imm→G'.W b o' = .imm:=fun b o' hi=>h1 b o' ((G.pure_imm b o').2 hi)
   have g2 : ∀ b o',b < w.heap.size→G'.W b o' = .imm→G.W b o' = .imm:=fun b o' hb hi=>(G.pure_imm b o').1 (h2 b o' hb hi)
   let G2:=G.back G' w.heap.size (.own (.t d))
   have hrel : Rel E G2 st a w':=hr.grow hfr' (fun b o' hb=>by simp [G2,Gh.back,hb]) (SameA.refl _ _) (fun b o' hb=>by
    dsimp only [G2,Gh.back] at hb
    split at hb
    ·rename_i hlt; exact Nat.lt_of_lt_of_le hlt hfr'.size
    ·refine h3 b o' ?_
     intro e; rw[e] at hb; simp at hb)
   have hX : XRep w' G2 res v:=h4.mono (fun b o'=>Gh.back_imm g2 b o') (fun _ _ _=>rfl) (fun n hn=>by rw[X.clean_has hc n] at hn; simp at hn)
   have hput:=hrel.put hdN (g:=true) (fun _=>hX) (fun hf=>by simp at hf)
   cases hro : ro with
   | none =>
    rw[hro] at hK
    rw[hd]
    exact hK G2 v w' hput
   | some sz =>
    rw[hro] at hK
    rw[hd]
    refine hK G2 v w' (hput.addOwn (v:=v) ?_ ?_)
    ·show (a.put (some d) v).tmps[d]? = _
     rw[K2 (by rw[hr.nt]; exact hdN)]; simp
    ·rcases h7 sz hro with h7 | ⟨blk,len,cap,e,k1,k2,k3,k4⟩
     ·exact .inl h7
     ·refine .inr ⟨blk,len,cap,e,k1,⟨k2.1,Nat.le_trans (Nat.le_trans E.C_le (Nat.le_trans hr.hB hr.fr.size)) k2.2.1,fun _ _ _ hh=>by simp at hh⟩,k3,fun o' ho1 ho2=>?_⟩
      obtain ⟨k5,k6⟩:=k4 o' ho1 ho2
      refine ⟨?_,k6⟩
      have hnb : ¬ blk < w.heap.size := by have := h8 _ _ k5; omega
      simp [G2,Gh.back,hnb,k5]
theorem C8 {N : Nat} {ops : Array Oper} {rest : List Oper} {K : St→Prop} {st : St} {o : Oper} {gate g gf : Bool} {d : Nat} {fo : Operand} {args : Array Operand} {ts : Array TypeId} {f : FuncId} {caps : List Y} {xs : List X} {res : X} {ro : Option Nat}
  (ho : o.op = .call { callee:=.value fo,args:=args,argTypes:=ts }) (hg : G8 ops st o=some gate) (hd : o.dst=some d) (hN : Nat.ble (d + 1) N=true)
  (hf : lk Z.T st 0 fo=some (gf, .fn f caps)) (ha : M2 Z.T st ts.toList args.toList=some (g,xs)) (hgf : gate=true→gf=true) (hga : gate=true→g=true)
  (hs : Ctr Z f (xs++caps.map .v) [] res ro []) (hc : res.clean=true)
  (h : AL Z N ops rest K (st.ret d gate res ro)) : AL Z N ops (o :: rest) K st:=U7 (Rl ho hg hd hN hf ha hgf hga hs hc) h
def resY (T : List (Option TyI)) (s : St) : ResultVar→Option Y
 | .tmp t=>match s.get t with
  | some (true, .v y)=>some y
  | _=>none
 | .cell a t=>match s.get a with
  | some (true, .v (.ptr n 0))=>(match s.box n,tyAt T t with
   | some cs,some ti=>cond ti.agg (cond (Nat.beq cs.length ti.n) (some (.agg cs)) none) (match cs with | c :: _=>some (.c c) | []=>none)
   | _,_=>none)
  | _=>none
def Z1 (T : List (Option TyI)) (s : St) : List ResultVar→Option (List Y)
 | []=>some []
 | r :: rs=>match resY T s r with
  | some y=>(match Z1 T s rs with | some ys=>some (y :: ys) | none=>none)
  | none=>none
def Ao : List Y→X
 | [y]=>.v y
 | ys=>.tup ys
def resX (T : List (Option TyI)) (s : St) (rs : List ResultVar) : Option X :=
 match Z1 T s rs with
 | some ys=>some (Ao ys)
 | none=>none
def Au (tmps : Array Value) : ResultVar→Sem Value
 | .tmp t=>pure (tmps.getD t undef)
 | .cell b t=>do loadVar t (← asAddr (tmps.getD b undef))
theorem Av (fn : Func) (tmps : Array Value) : results fn tmps=(fn.results.mapM (Au tmps)) >>= fun vs=>pure (if h : vs.size=1 then vs[0] else .tuple vs):=by
 unfold results
 congr 2
def uB5 : List ResultVar→Nat
 | [.tmp t]=>t
 | _=>0
def Ze (s : St) : List ResultVar→Option Nat→Prop
 | _,none=>True
 | [.tmp t],some sz=>s.own (.t t)=some sz
 | _,_=>False
def retS (T : List (Option TyI)) (rs : List ResultVar) (res : X) (ro : Option Nat) (bs' : List (List C)) : Exit→St→Prop
 | .normal,s | .ret,s=>resX T s rs=some res∧Ze s rs ro ∧ ∀ (j : Nat) (cs : List C),bs'[j]? = some cs→s.box (.o j)=some cs
 | _,_=>False
theorem T3 {E : Env} {G : Gh} {s : St} {a : Act} {w : World} (hr : Rel E G s a w) : ∀ {rs : List ResultVar} {ys : List Y},Z1 Z.T s rs=some ys →
  ∃ vs : List Value,(rs.mapM (Au a.tmps)).run Z.P w = .ok vs w∧All2 (YRep w G) ys vs ∧
   (∀ t,rs=[.tmp t] → ∃ v,vs=[v]∧a.tmps[t]? = some v)
 | [],ys,h=>by
  simp [Z1] at h; subst h
  exact ⟨[],by simp,O,fun t ht=>by simp at ht⟩
 | r :: rs,ys,h=>by
  simp only [Z1] at h
  split at h
  ·rename_i y hy
   split at h
   ·rename_i ys' hys
    simp only [Option.some.injEq] at h
    subst h
    obtain ⟨vs,hvs,hall,_⟩:=T3 hr hys
    have : ∃ v,(Au a.tmps r).run Z.P w = .ok v w∧YRep w G y v∧(∀ t,r = .tmp t→a.tmps[t]? = some v):=by
     cases r with
     | tmp t =>
      simp only [resY] at hy
      split at hy
      ·rename_i y' hg
       simp only [Option.some.injEq] at hy
       subst hy
       obtain ⟨v,hv,h1,_⟩:=hr.tm t _ _ hg
       exact ⟨v,by simp [Au,Array.getD_eq_getD_getElem?,hv],h1 J,fun t' ht=>by simp at ht; subst ht; exact hv⟩
      ·simp at hy
     | cell b t =>
      simp only [resY] at hy
      split at hy
      ·rename_i n hg
       split at hy
       ·rename_i cs ti hb ht
        obtain ⟨v,hv,h1,_⟩:=hr.tm b _ _ hg
        have h1' : v=_:=h1 J
        subst h1'
        have hbox:=hr.bx n cs hb
        cases hagg : ti.agg with
        | true =>
         rw[hagg,cond_true] at hy
         cases hlen : Nat.beq cs.length ti.n with
         | false=>rw[hlen] at hy; simp at hy
         | true =>
          rw[hlen,cond_true] at hy
          simp only [Option.some.injEq] at hy
          subst hy
          have hln : cs.length=ti.n:=Nat.eq_of_beq_eq_true hlen
          obtain ⟨us,hul,hus⟩:=Al (R:=fun j v=>w.cell? ⟨(G.A n).1,(G.A n).2 + 0 + j,none⟩=some v ∧ ∀ c,cs[j]? = some c→CRep w G.S c v) ti.n fun j hj=>by
           have hj' : cs[j]? = some (cs[j]'(by omega)):=List.getElem?_eq_getElem (by omega)
           obtain ⟨_,_,v,hv,hcr⟩:=hbox _ _ hj'
           exact ⟨v,by simpa using hv,fun c hc=>by rw[hj'] at hc; simp at hc; subst hc; exact hcr⟩
          have hrun:=V5 (Z:=Z) (w:=w) ht hagg hul fun j v hv=>(hus j v hv).1
          simp only [Instr.loadAt,Instr.sureAddr,Sem.run_bind,Sem.run_pure,Result.andThen_ok] at hrun
          refine ⟨.agg us.toArray,?_,⟨us,rfl,All2.mk (by omega) fun j c v hc hv=>(hus j v hv).2 c hc⟩,fun t' ht'=>by simp at ht'⟩
          simp [Au,Array.getD_eq_getD_getElem?,hv,asAddr]
          simpa using hrun
        | false =>
         rw[hagg,cond_false] at hy
         split at hy
         ·rename_i c r'
          simp only [Option.some.injEq] at hy
          subst hy
          obtain ⟨_,_,u,hu,hcr⟩:=hbox 0 c rfl
          have hrun:=S8 (Z:=Z) (w:=w) (blk:=(G.A n).1) (off:=(G.A n).2 + 0) ht hagg (v:=u) hu
          simp only [Instr.loadAt,Instr.sureAddr,Sem.run_bind,Sem.run_pure,Result.andThen_ok] at hrun
          refine ⟨u,?_,hcr,fun t' ht'=>by simp at ht'⟩
          simp [Au,Array.getD_eq_getD_getElem?,hv,asAddr]
          simpa using hrun
         ·simp at hy
       ·simp at hy
      ·simp at hy
    obtain ⟨v,hv,hy1,hy2⟩:=this
    refine ⟨v :: vs,?_,⟨hy1,hall⟩,?_⟩
    ·rw[List.mapM_cons,Sem.run_bind,hv]
     simp only [Result.andThen_ok,Sem.run_bind,hvs,Sem.run_pure]
    ·intro t ht
     simp only [List.cons.injEq] at ht
     obtain ⟨rfl,rfl⟩:=ht
     simp [Z1] at hys
     subst hys
     cases vs with
     | nil=>exact ⟨v,rfl,hy2 t J⟩
     | cons _ _=>exact hall.elim
   ·simp at h
  ·simp at h
def Ku : Nat→List X→List (Nat × Bool × X)
 | _,[]=>[]
 | k,x :: r=>(k,true,x) :: Ku (k + 1) r
def U5 : Nat→List (List C)→List (Nm × List C)
 | _,[]=>[]
 | j,c :: r=>(.o j,c) :: U5 (j + 1) r
def st0 (args : List X) (bs : List (List C)) : St:={ t:=Ku 0 args,bx:=U5 0 bs,ow:=[] }
theorem Z2 : ∀ (k : Nat) (xs : List X) (j : Nat) (e : Bool × X),getT (Ku k xs) j=some e → ∃ i x,j=k + i∧xs[i]? = some x∧e=(true,x)
 | k,[],j,e,h=>by simp [Ku,getT] at h
 | k,x :: r,j,e,h=>by
  rw[Ku,J9] at h
  split at h
  ·rename_i hk; subst hk; simp at h; exact ⟨0,x,rfl,rfl,h.symm⟩
  ·obtain ⟨i,y,h1,h2,h3⟩:=Z2 (k + 1) r j e h
   exact ⟨i + 1,y,by omega,by simpa using h2,h3⟩
theorem N8 : ∀ (k : Nat) (bs : List (List C)) (n : Nm) (cs : List C),getB (U5 k bs) n=some cs → ∃ i,n = .o (k + i)∧bs[i]? = some cs
 | k,[],n,cs,h=>by simp [U5,getB] at h
 | k,c :: r,n,cs,h=>by
  rw[U5,G6] at h
  split at h
  ·rename_i hk; subst hk; simp at h; exact ⟨0,rfl,by simp [h]⟩
  ·obtain ⟨i,h1,h2⟩:=N8 (k + 1) r n cs h
   exact ⟨i + 1,by rw[h1]; congr 1; omega,by simpa using h2⟩
theorem D1 {f : FuncId} {fn : Func} {c : Code} {N : Nat} {rs : List ResultVar} {args : List X} {bs bs' : List (List C)} {res : X} {ro : Option Nat}
  (hf : Z.P.funcs[f]? = some fn) (hb : fn.body = some c) (hname : (fn.name == "runtime.NumGoroutine") = false) (hN : fn.ntmps = N) (hrs : fn.results = rs.toArray) (hlen' : Nat.ble args.length N = true) (hc : res.clean = true)
  (h : AWP Z N c (retS Z.T rs res ro bs') (st0 args bs)) (hx : ∀ A,Z.ex A:=by intro _; exact O) : Ctr Z f args bs res ro bs':=by
 have hlen : args.length≤N:=Nat.le_of_ble_eq_true hlen'
 refine ⟨⟨fn,hf,by rw[hb]; rfl,hname⟩,?_⟩
 intro w G vs hvs hwf hbx hbox hown hgl
 let E : Env:={ B:=w.heap.size,w0:=w,W0:=G.W,A0:=fun j=>G.A (.o j),nt:=N }
 let a : Act:={ tmps:=vs.toArray++Array.replicate (fn.ntmps - vs.toArray.size) undef,defers:=[] }
 have hal : args.length=vs.length:=hvs.len
 have hrel : Rel E G (st0 args bs) a w:={
  df:=rfl
  tm:=by
   intro k g x hk
   obtain ⟨i,y,h1,h2,h3⟩:=Z2 0 args k (g,x) hk
   simp only [Prod.mk.injEq] at h3
   obtain ⟨rfl,rfl⟩:=h3
   obtain ⟨v,hv,hx⟩:=hvs.get i x h2
   have hi : i < vs.length:=(List.getElem?_eq_some_iff.1 hv).1
   refine ⟨v,?_,fun _=>hx,fun hg=>by simp at hg⟩
   show (vs.toArray++_)[k]? = _
   rw[h1,Nat.zero_add,Array.getElem?_append_left (by simpa using hi)]
   simpa using hv
  bx:=by
   intro n cs hn
   obtain ⟨i,h1,h2⟩:=N8 0 bs n cs hn
   rw[h1,Nat.zero_add]
   exact hbx i cs h2
  ow:=by intro p sz hp; simp [St.own,st0,getO] at hp
  wf:=hwf
  olB:=fun b o n _ hn=>.inl ⟨n,hn⟩
  olO:=fun b o p _ hn=>⟨p,hn⟩
  nt:=by
   show (vs.toArray++Array.replicate (fn.ntmps - vs.toArray.size) undef).size=N
   simp; omega
  oA:=fun _=>rfl
  im:=fun b o h=>h
  im':=fun b o _ h=>.inl h
  fr:=Fr.refl _ _ _
  hB:=Nat.le_refl _
  lo:=fun b o _=>⟨fun n hn=>by obtain ⟨j,_,_,e,_⟩:=hbox b o n hn; exact ⟨j,e⟩,fun _ p=>hown b o p⟩
  bd:=fun t k cs hn=>by
   obtain ⟨i,h1,_⟩:=N8 0 bs _ cs hn
   simp at h1
  mp:=fun x hx=>by cases hx }
 refine calls_of_wp hf hb ?_
 have hwp:=h E G a w hrel ⟨rfl,fun _=>rfl,fun g hg=>⟨(hgl g hg).1,(hgl g hg).2.1,fun o hm=>by
  rcases hm with ⟨n,hn⟩ | ⟨p,hp⟩
  ·exact (hgl g hg).2.2.1 o n hn
  ·exact (hgl g hg).2.2.2 o p hp⟩,hx _⟩
 refine wp_mono hwp ?_
 rintro e a' w' ⟨G',s,hq,hr'⟩
 have key : resX Z.T s rs=some res∧Ze s rs ro∧(∀ (j : Nat) (cs : List C),bs'[j]? = some cs→s.box (.o j)=some cs) →
   a'.defers=[] ∧ ∃ v,(results fn a'.tmps).run Z.P w' = .ok v w' ∧ ∃ u G',Ending.returned v = .returned u∧Fr (fun b o=>∃ n,G.W b o = .box n) w.heap.size w w' ∧
    (∀ b o,G.W b o = .imm→G'.W b o = .imm)∧(∀ b o,b < w.heap.size→G'.W b o = .imm→G.W b o = .imm)∧(∀ b o,G'.W b o ≠ .none→b < w'.heap.size)∧XRep w' G' res u ∧
    (∀ j,G'.A (.o j)=G.A (.o j))∧(∀ (j : Nat) (cs : List C),bs'[j]? = some cs→R8 w' G' (.o j) cs) ∧
    (∀ sz,ro=some sz→OwnAt w.heap.size w' G' (.t 0) sz u)∧(∀ b o,G'.W b o = .own (.t 0)→w.heap.size≤b):=by
  rintro ⟨hres,hro,hbs⟩
  refine ⟨hr'.df,?_⟩
  unfold resX at hres
  have hys : ∃ ys,Z1 Z.T s rs=some ys∧res=Ao ys:=by
   split at hres
   ·rename_i ys hy; simp only [Option.some.injEq] at hres; exact ⟨ys,hy,hres.symm⟩
   ·simp at hres
  obtain ⟨ys,hys,rfl⟩:=hys
  obtain ⟨us,hrun,hall,hone⟩:=T3 hr' hys
  have hresv : ∃ v,(results fn a'.tmps).run Z.P w' = .ok v w'∧XRep w' G' (Ao ys) v∧(∀ t,rs=[.tmp t]→a'.tmps[t]? = some v):=by
   have hr0 : (results fn a'.tmps).run Z.P w' = .ok (if h : us.toArray.size=1 then us.toArray[0] else .tuple us.toArray) w':=by
    rw[Av,hrs,List.mapM_toArray]
    simp only [Sem.run_bind,Sem.run_map,hrun,Result.andThen_ok,Sem.run_pure]
   refine ⟨_,hr0,?_,?_⟩
   ·clear hres hrun hone hr0 hq hwp h hc hys
    cases ys with
    | nil=>cases us with
     | nil=>exact ⟨[],rfl,O⟩
     | cons _ _=>exact hall.elim
    | cons y r=>cases us with
     | nil=>exact hall.elim
     | cons u q =>
      cases r with
      | nil=>cases q with
       | nil=>exact hall.1
       | cons _ _=>exact hall.2.elim
      | cons y' r=>cases q with
       | nil=>exact hall.2.elim
       | cons u' q =>
        simp only [List.size_toArray,List.length_cons]
        rw[dif_neg (by omega)]
        exact ⟨_,rfl,hall⟩
   ·intro t ht
    obtain ⟨v,rfl,hv⟩:=hone t ht
    exact hv
  obtain ⟨v,hv1,hv2,hv3⟩:=hresv
  refine ⟨v,hv1,?_⟩
  have hfr : Fr (fun b o=>∃ n,G.W b o = .box n) w.heap.size w w':=hr'.fr.mono (Nat.le_refl _) fun b o _ hm=>by
   rcases hm with ⟨n,hn⟩ | ⟨p,hp⟩
   ·exact ⟨n,hn⟩
   ·exact absurd hp (hown b o p)
  obtain ⟨k0,hk0⟩ : ∃ k0,k0=uB5 rs:=⟨_,rfl⟩
  let G2 : Gh:={ A:=G'.A,W:=fun b o=>match G'.W b o with | .imm=>.imm | .box (.o j)=>.box (.o j) | .own (.t k)=>if k=k0 then .own (.t 0) else .none | _=>.none }
  have hS : ∀ b o,G'.S b o→G2.S b o:=fun b o hs=>by unfold Gh.S at *; simp [G2,hs]
  have hI : ∀ b o,G2.W b o = .imm→G'.W b o = .imm:=fun b o hi=>by
   simp only [G2] at hi
   split at hi
   ·assumption
   ·simp at hi
   ·split at hi <;> simp at hi
   ·simp at hi
  have hO : ∀ b o,G2.W b o = .own (.t 0)→G'.W b o = .own (.t k0):=fun b o hi=>by
   simp only [G2] at hi
   split at hi
   ·simp at hi
   ·simp at hi
   ·rename_i k hk
    split at hi
    ·rename_i he; subst he; exact hk
    ·simp at hi
   ·simp at hi
  refine ⟨v,G2,rfl,hfr,fun b o hi=>hS b o (hr'.im b o hi),fun b o hb hi=>?_,fun b o hn=>?_,?_,fun j=>hr'.oA j,fun j cs hj=>?_,fun sz hsz=>?_,fun b o hi=>?_⟩
  ·rcases hr'.im' b o hb (hI b o hi) with h1 | ⟨p,hp⟩
   ·exact h1
   ·exact absurd hp (hown b o p)
  ·refine hr'.wf b o ?_
   intro he; apply hn; simp [G2,he]
  ·exact hv2.mono hS (fun _ _ _=>rfl) (fun _ _=>rfl)
  ·intro i c hi
   obtain ⟨h1,h2,u,h3,h4⟩:=hr'.bx _ _ (hbs j cs hj) i c hi
   exact ⟨by simp only [G2]; rw[h1],h2,u,h3,h4.mono hS (fun _ _ _=>rfl)⟩
  ·subst hsz
   obtain ⟨t,rfl,hro⟩ : ∃ t,rs=[.tmp t]∧s.own (.t t)=some sz:=by
    unfold Ze at hro
    split at hro
    ·rename_i hh; simp at hh
    ·rename_i t _ hh
     simp only [Option.some.injEq] at hh
     subst hh
     exact ⟨t,rfl,hro⟩
    ·exact hro.elim
   obtain ⟨u,hu,ho⟩:=hr'.ow _ _ hro
   have hu' : a'.tmps[t]? = some u:=hu
   rw[hv3 t J] at hu'
   simp only [Option.some.injEq] at hu'
   subst hu'
   rcases ho with ho | ⟨blk,len,cap,e,q1,q2,q3,q4⟩
   ·exact .inl ho
   ·refine .inr ⟨blk,len,cap,e,q1,⟨q2.1,q2.2.1,fun _ _ _ hh=>by simp at hh⟩,q3,fun o ho1 ho2=>?_⟩
    obtain ⟨q5,q6⟩:=q4 o ho1 ho2
    refine ⟨?_,q6⟩
    have : k0=t:=hk0
    simp [G2,q5,this]
  ·have := hO b o hi
   rcases Nat.lt_or_ge b w.heap.size with hlt | hge
   ·obtain ⟨q,hq⟩:=hr'.olO b o _ hlt this
    exact absurd hq (hown b o q)
   ·exact hge
 cases e <;> first
  | exact key hq
  | exact hq.elim
end Go.Abs
namespace Go.Abs
variable {Z : Pg}
def Y.cells : Y→Option (List C)
 | .c x=>some [x]
 | .agg cs=>some cs
 | .msv _ _ _ _ u=>some [.o u]
 | _=>none
theorem Lg {v : Value} (h : v.oneCell'=true) : v.cells = #[v]:=by
 cases v <;> first|rfl|simp [Value.oneCell'] at h
theorem YRep.cells {w : World} {G : Gh} {y : Y} {v : Value} {cs : List C} (h : YRep w G y v) (hc : y.cells=some cs) : All2 (CRep w G.S) cs v.cells.toList:=by
 cases y with
 | c x =>
  simp [Y.cells] at hc; subst hc
  rw[Lg (CRep.one h)]
  exact ⟨h,O⟩
 | agg ds =>
  simp [Y.cells] at hc; subst hc
  obtain ⟨vs,rfl,hall⟩:=h
  simpa [Value.cells] using hall
 | ro _=>simp [Y.cells] at hc
 | ptr _ _=>simp [Y.cells] at hc
 | ms _ _ _ _=>simp [Y.cells] at hc
 | msv n sz off len u =>
  simp [Y.cells] at hc; subst hc
  obtain ⟨rfl,cap,_,rfl⟩:=h
  exact ⟨CRep.o _ J,O⟩
section
variable {N : Nat} {st : St} {ty : TypeId}
theorem Rel.boxed {E : Env} {G : Gh} {a : Act} {w : World} (h : Rel E G st a w) {d : Nat} (hN : d < E.nt) (hfr : ∀ k g x,st.get k=some (g,x)→x.has (.l d)=false) {cs : List C} {vs : Array Value} {t : TypeId}
  (hv : All2 (CRep w G.S) cs vs.toList) :
  ∃ G',Rel E G' ((st.addBox (.l d) cs).put d (true, .v (.ptr (.l d) 0))) (a.put (some d) (.pointer (some ⟨w.heap.size,0,none⟩))) (w.alloc (.cells vs t)):=by
 obtain ⟨G',hr,hA⟩:=h.newBox hfr (t:=t) hv
 exact ⟨G',hr.put hN (fun _=>by show _=_; rw[hA]) (fun hf=>by simp at hf)⟩
theorem D8 {d : Nat} {t : TypeId} {x : Operand} {y : Y} {cs : List C} (h : lk Z.T st t x=some (true, .v y)) (hc : y.cells=some cs) (hN : Nat.ble (d + 1) N=true) (hfr : st.fresh (.l d)=true) :
  Does Z N st (some d) (.box t x) ty ((st.addBox (.l d) cs).put d (true, .v (.ptr (.l d) 0))):=by
 intro o E G a w hd ho _ hr hE K Q hK
 have hdN : d < E.nt:=by rw[hE.nt]; exact Nat.le_of_ble_eq_true hN
 have hx:=F4 hr h J
 obtain ⟨G',hr'⟩:=hr.boxed hdN (fun _ _ _ hk=>St.fresh_has hfr hk) (t:=t) (hx.cells hc)
 unfold Oper.wp
 have : (execOp a.eval o).run Z.P w = .ok (.value (.pointer (some ⟨w.heap.size,0,none⟩))) (w.alloc (.cells (a.eval x).cells t)):=by
  simp [execOp,ho,Instr.box,newVar,newRow]
 rw[this,Oper.upon_value,hd]
 exact hK G' _ _ hr'
theorem Qs {d : Nat} {t : TypeId} {ti : TyI} (ht : tyAt Z.T t=some ti) (hN : Nat.ble (d + 1) N=true) (hfr : ∀ k g x,st.get k=some (g,x)→x.has (.l d)=false) :
  Does Z N st (some d) (.alloc t) ty ((st.addBox (.l d) ti.z).put d (true, .v (.ptr (.l d) 0))):=by
 intro o E G a w hd ho _ hr hE K Q hK
 have hdN : d < E.nt:=by rw[hE.nt]; exact Nat.le_of_ble_eq_true hN
 obtain ⟨i,dd,zv,hi,_,_,_,hz,_,hall⟩:=(Z.tyOk ht).info
 obtain ⟨G',hr'⟩:=hr.boxed hdN hfr (t:=t) (hall.mono fun c v hcv=>CRep.ofConst (w:=w) (S:=G.S) hcv)
 unfold Oper.wp
 have : (execOp a.eval o).run Z.P w = .ok (.value (.pointer (some ⟨w.heap.size,0,none⟩))) (w.alloc (.cells zv.cells t)):=by
  simp [execOp,ho,Instr.alloc,zeroValue,typeInfo,hi,hz,newVar,newRow]
 rw[this,Oper.upon_value,hd]
 exact hK G' _ _ hr'
theorem E1 {d : Nat} {t : TypeId} {ti : TyI} (ht : tyAt Z.T t=some ti) (hN : Nat.ble (d + 1) N=true) (hfr : st.fresh (.l d)=true) :
  Does Z N st (some d) (.alloc t) ty ((st.addBox (.l d) ti.z).put d (true, .v (.ptr (.l d) 0))):=Qs ht hN fun _ _ _ hk=>St.fresh_has hfr hk
def I4 (cs : List C) (off : Nat) : List C→List C
 | []=>cs
 | d :: ds=>I4 (cs.set off d) (off + 1) ds
theorem L3 : ∀ (ds cs : List C) (off : Nat),(I4 cs off ds).length=cs.length
 | [],_,_=>rfl
 | d :: ds,cs,off=>by rw[I4,L3 ds]; simp
def Pl.inCells (n : Nm) (off len : Nat) : Pl→Bool
 | .b m k=>Nm.beq m n && (Nat.ble off k && Nat.ble (k + 1) (off + len))
 | .t _=>false
def St.store (st : St) (n : Nm) (cs : List C) (off len : Nat) : St :=
 {t:=st.t,bx:=(n,cs) :: st.bx,ow:=st.ow.filter fun q=>!Pl.inCells n off len q.1,mp:=st.mp }
theorem St.store_box (st : St) (n : Nm) (cs : List C) (off len : Nat) (m : Nm) : (st.store n cs off len).box m=if n=m then some cs else st.box m:=G6 _ _ _ _
theorem St.store_own (st : St) (n : Nm) (cs : List C) (off len : Nat) (p : Pl) : (st.store n cs off len).own p=if Pl.inCells n off len p=true then none else st.own p:=by
 show getO (st.ow.filter fun q=>!Pl.inCells n off len q.1) p=_
 rw[L6 (fun q=>!Pl.inCells n off len q)]
 cases hb : Pl.inCells n off len p <;> simp [St.own]
theorem M7 (w : World) (a : Addr) (v : Value) (b : Nat) : (w.setCell a v).shape? b=w.shape? b:=by
 unfold World.shape? World.setCell
 simp only [Array.getElem?_modify]
 by_cases hb : a.block=b
 ·simp only [hb,if_true]
  cases hh : w.heap[b]? with
  | none=>simp
  | some x=>cases x <;> simp; split <;> simp
 ·simp [hb]
theorem Rel.store1 {E : Env} {G : Gh} {a : Act} {w : World} (h : Rel E G st a w) {n : Nm} {cs : List C} {k : Nat} {c : C} {v : Value} (hb : st.box n=some cs) (hk : k < cs.length) (hv : CRep w G.S c v) (hnb : n.isBd=true→k=0 → ∃ x,v = .pointer x∧(x=none∨x=some ⟨(G.A n).1,0,none⟩)) :
  Rel E G (st.store n (cs.set k c) k 1) a (w.setCell ⟨(G.A n).1,(G.A n).2 + k,none⟩ v):=by
 have hkc : cs[k]? = some cs[k]:=List.getElem?_eq_getElem hk
 obtain ⟨hW,hfz,u,hu,_⟩:=h.bx n cs hb k _ hkc
 have hne : ∀ b o,G.W b o ≠ .box n→(w.setCell ⟨(G.A n).1,(G.A n).2 + k,none⟩ v).cell? ⟨b,o,none⟩=w.cell? ⟨b,o,none⟩:=fun b o hbo =>
  World.cell?_setCell_other _ _ _ _ (by
   intro he; simp at he; obtain ⟨rfl,rfl⟩:=he; exact hbo hW)
 have hS : ∀ b o,G.S b o→(w.setCell ⟨(G.A n).1,(G.A n).2 + k,none⟩ v).cell? ⟨b,o,none⟩=w.cell? ⟨b,o,none⟩:=fun b o hs=>hne b o (by unfold Gh.S at hs; rw[hs]; simp)
 have hsame : (w.setCell ⟨(G.A n).1,(G.A n).2 + k,none⟩ v).cell? ⟨(G.A n).1,(G.A n).2 + k,none⟩=some v:=World.cell?_setCell_same _ _ _ hu
 have hoth : ∀ j,j≠k→(w.setCell ⟨(G.A n).1,(G.A n).2 + k,none⟩ v).cell? ⟨(G.A n).1,(G.A n).2 + j,none⟩=w.cell? ⟨(G.A n).1,(G.A n).2 + j,none⟩:=fun j hj =>
  World.cell?_setCell_other _ _ _ _ (by simp; omega)
 constructor
 ·exact h.df
 ·intro j g x hj
  obtain ⟨u',hu',h1,h2⟩:=h.tm j g x hj
  exact ⟨u',hu',fun hg=>(h1 hg).mono (fun _ _ hs=>hs) hS (fun _ _=>rfl),h2⟩
 ·intro m ds hm j c' hj
  rw[St.store_box] at hm
  split at hm
  ·rename_i he; subst he
   simp only [Option.some.injEq] at hm; subst hm
   by_cases hjk : j=k
   ·subst hjk
    rw[List.getElem?_set_self hk] at hj
    simp only [Option.some.injEq] at hj; subst hj
    exact ⟨hW,by rw[World.frozen?_setCell]; exact hfz,v,hsame,hv.mono (fun _ _ hs=>hs) hS⟩
   ·rw[List.getElem?_set_ne (fun e=>hjk e.symm)] at hj
    obtain ⟨q1,q2,u',q3,q4⟩:=h.bx n cs hb j c' hj
    exact ⟨q1,by rw[World.frozen?_setCell]; exact q2,u',by rw[hoth j hjk]; exact q3,q4.mono (fun _ _ hs=>hs) hS⟩
  ·rename_i hnm
   obtain ⟨q1,q2,u',q3,q4⟩:=h.bx m ds hm j c' hj
   exact ⟨q1,by rw[World.frozen?_setCell]; exact q2,u',by rw[hne _ _ (by rw[q1]; intro e; injection e with e; exact hnm e.symm)]; exact q3,q4.mono (fun _ _ hs=>hs) hS⟩
 ·intro p sz hp
  rw[St.store_own] at hp
  split at hp
  ·simp at hp
  ·rename_i hin
   obtain ⟨u',hu',ho⟩:=h.ow p sz hp
   refine ⟨u',?_,?_⟩
   ·cases p with
    | t j=>exact hu'
    | b m off =>
     refine ⟨?_,hu'.2⟩
     by_cases hm : m=n
     ·subst hm
      have : off≠k:=fun e=>hin (by subst e; simp [Pl.inCells,Nm.beq_self])
      rw[hoth off this]
      exact hu'.1
     ·rw[hne _ _ (by rw[hu'.2]; intro e; injection e with e; exact hm e)]
      exact hu'.1
   ·rcases ho with ho | ⟨blk,len,cap,e,q1,q2,q3,q4⟩
    ·exact .inl ho
    ·exact .inr ⟨blk,len,cap,e,q1,q2,⟨by rw[M7]; exact q3.1,by rw[V7]; exact q3.2⟩,fun o ho1 ho2=>by rw[World.frozen?_setCell]; exact q4 o ho1 ho2⟩
 ·intro b o hbo
  rw[World.size_setCell]; exact h.wf b o hbo
 ·exact h.olB
 ·exact h.olO
 ·exact h.nt
 ·exact h.oA
 ·exact h.im
 ·exact h.im'
 ·refine h.fr.trans ⟨rfl,rfl,rfl,by simp,?_,?_,?_,?_⟩
  ·intro b hbB hM
   refine RowKit.Below.heap_setCell _ _ _ _ ?_
   intro e
   subst e
   exact hM _ (h.olB _ _ n hbB hW)
  ·intro b o hbB hM
   refine hne b o ?_
   intro e
   exact hM (h.olB b o n hbB e)
  ·intro b _; exact V7 _ _ _ _
  ·intro b _; exact M7 _ _ _ _
 ·exact h.hB
 ·exact h.lo
 ·intro t j ds hm hds
  rw[St.store_box] at hm
  have hold : ∃ ds',st.box (.bd t j)=some ds'∧ds'≠[]:=by
   split at hm
   ·rename_i he
    subst he
    exact ⟨cs,hb,fun e=>by rw[e] at hk; simp at hk⟩
   ·exact ⟨ds,hm,hds⟩
  obtain ⟨ds',hm',hds'⟩:=hold
  obtain ⟨q1,q2,x,q3,q4⟩:=h.bd t j ds' hm' hds'
  by_cases hn : n = .bd t j
  ·subst hn
   by_cases hk0 : k=0
   ·subst hk0
    obtain ⟨y,rfl,hy⟩:=hnb rfl rfl
    refine ⟨q1,by rw[M7]; exact q2,y,?_,hy⟩
    rw[Nat.add_zero,q1] at hsame
    rw[Nat.add_zero,q1]
    exact hsame
   ·refine ⟨q1,by rw[M7]; exact q2,x,?_,q4⟩
    rw[← q3]
    refine World.cell?_setCell_other _ _ _ _ ?_
    intro e; simp at e; omega
  ·refine ⟨q1,by rw[M7]; exact q2,x,?_,q4⟩
   rw[← q3]
   obtain ⟨c0,hc0⟩ : ∃ c0,ds'[0]? = some c0:=by
    cases ds' with
    | nil=>exact absurd J hds'
    | cons c0 r=>exact ⟨c0,rfl⟩
   obtain ⟨r1,_⟩:=h.bx _ ds' hm' 0 c0 hc0
   rw[q1] at r1
   refine hne _ _ ?_
   rw[r1]; intro e; injection e with e; exact hn e.symm
 ·intro x hx
  obtain ⟨q1,q2,q3⟩:=h.mp x hx
  refine ⟨q1.of_same (RowKit.Below.heap_setCell _ _ _ _ ?_),q2,q3⟩
  intro e
  exact (q3 ((G.A n).2 + k)).1 n (by rw[← hW]; congr 1)
end
end Go.Abs
namespace Go.Abs
variable {Z : Pg}
section
variable {N : Nat} {st : St} {ty : TypeId} {gate : Bool}
theorem Q1 (blk off n : Nat) : (⟨blk,off,none⟩ : Addr).add n=⟨blk,off + n,none⟩:=by
 unfold Addr.add; split
 ·rename_i h; simp [h]
 ·simp
theorem C2 {x i : Operand} {t : TypeId} {g gi : Bool} {sz : Nat} {es : List (List C)} {k : IntKind} {n : Int} {j : Nat} {row : List C} {ti : TyI} {e by' : Nat} (h : lk Z.T st ty x=some (g, .v (.c (.sl sz es)))) (hi : lk Z.T st ty i=some (gi, .v (.c (.i k n))))
  (hg : gate=true→g=true) (hgi : gate=true→gi=true) (ht : tyAt Z.T t=some ti) (hel : ti.el=some (e,sz,by')) (hn : n=(j : Int)) (hj : gate=true→es[j]? = some row) : PureOk Z st (.indexAddr t x i) ty gate (.v (.ro row)):=by
 intro o E G a w ho _ hr hgt
 have h1:=F4 hr h (hg hgt)
 have h2:=XRep.int (F4 hr hi (hgi hgt))
 have hj:=hj hgt
 subst hn
 obtain ⟨hu,jf,ze,hinfo,hsz,_,_,_,_⟩:=(Z.tyOk ht).sl e sz by' hel
 rcases CRep.sl_cases h1 with ⟨_,_,rfl⟩ | ⟨blk,off,len,cap,hv,hl⟩
 ·simp at hj
 ·rw[hv] at h1
  obtain ⟨_,_,_,hel'⟩:=h1.elem
  obtain ⟨hrl,hrow⟩:=hel' j row hj
  have hlt : j < len:=by rw[← hl]; exact (List.getElem?_eq_some_iff.1 hj).1
  refine ⟨.pointer (some ⟨blk,off + j * sz,none⟩),⟨blk,off + j * sz,rfl,hrow⟩,?_⟩
  simp [execOp,ho,hv,h2,Instr.indexAt,asIntOf,underlying,hu,hlt,sizeOf,typeInfo,hinfo,hsz,Q1]
theorem D9 {ops : Array Oper} {rest : List Oper} {K : St→Prop} {o : Oper} {d : Nat} {x : Operand} {t : TypeId} {g : Bool} {sz : Nat} {es : List (List C)} {ti : TyI} {el : Nat × Nat × Nat}
  (ho : o.op = .call { callee:=.builtin .len,args:=#[x],argTypes:=#[t] }) (hgt : G8 ops st o=some gate) (hd : o.dst=some d) (hN : Nat.ble (d + 1) N=true) (h : lk Z.T st o.type x=some (g, .v (.c (.sl sz es)))) (hg : gate=true→g=true)
  (ht : tyAt Z.T t=some ti) (hel : ti.el=some el) (hK : es.length≤9223372036854775807→AL Z N ops rest K (st.put d (gate, .v (.c (.i .i64 (es.length : Int)))))) (hskip : gate=false→es.length≤9223372036854775807) : AL Z N ops (o :: rest) K st:=by
 intro E G a w hr hE K' hK'
 have hlen : es.length≤9223372036854775807:=by
  cases hgv : gate with
  | false=>exact hskip hgv
  | true=>exact CRep.lenMax (F4 hr h (hg hgv))
 exact A5 hgt hd hN (by rw[ho]; exact G7 h hg ht hel) (hK hlen) E G a w hr hE K' hK'
theorem L4 {ops : Array Oper} {rest : List Oper} {K : St→Prop} {o : Oper} {d : Nat} {x : Operand} {t : TypeId} {g : Bool} {l : List UInt8}
  (ho : o.op = .call { callee:=.builtin .len,args:=#[x],argTypes:=#[t] }) (hgt : G8 ops st o=some gate) (hd : o.dst=some d) (hN : Nat.ble (d + 1) N=true) (h : lk Z.T st o.type x=some (g, .v (.c (.s l)))) (hg : gate=true→g=true)
  (hu : Z.P.underlying t=some .string) (hK : l.length≤9223372036854775807→AL Z N ops rest K (st.put d (gate, .v (.c (.i .i64 (l.length : Int)))))) (hskip : gate=false→l.length≤9223372036854775807) : AL Z N ops (o :: rest) K st:=by
 intro E G a w hr hE K' hK'
 have hlen : l.length≤9223372036854775807:=by
  cases hgv : gate with
  | false=>exact hskip hgv
  | true=>exact CRep.strMax (F4 hr h (hg hgv))
 exact A5 hgt hd hN (by rw[ho]; exact O4 h hg hu) (hK hlen) E G a w hr hE K' hK'
def subT (s : St) : List (Nat × Bool × X)→Prop
 | []=>True
 | (k,e) :: r=>(∃ e',s.get k=some e'∧e'=e)∧subT s r
def subB (s : St) : List (Nm × List C)→Prop
 | []=>True
 | (n,cs) :: r=>(∃ ds,s.box n=some ds∧ds=cs)∧subB s r
def subO (s : St) : List (Pl × Nat)→Prop
 | []=>True
 | (p,sz) :: r=>s.own p=some sz∧subO s r
theorem Rc {s : St} : ∀ {l : List (Nat × Bool × X)},subT s l → ∀ k e,getT l k=some e→s.get k=some e
 | [],_,k,e,h=>by simp [getT] at h
 | (j,e') :: r,hs,k,e,h=>by
  rw[J9] at h
  split at h
  ·rename_i hj; subst hj
   obtain ⟨⟨e2,h1,h2⟩,_⟩:=hs
   simp only [Option.some.injEq] at h; subst h; subst h2; exact h1
  ·exact Rc hs.2 k e h
theorem Il {s : St} : ∀ {l : List (Nm × List C)},subB s l → ∀ k e,getB l k=some e→s.box k=some e
 | [],_,k,e,h=>by simp [getB] at h
 | (j,e') :: r,hs,k,e,h=>by
  rw[G6] at h
  split at h
  ·rename_i hj; subst hj
   obtain ⟨⟨e2,h1,h2⟩,_⟩:=hs
   simp only [Option.some.injEq] at h; subst h; subst h2; exact h1
  ·exact Il hs.2 k e h
theorem Pk {s : St} : ∀ {l : List (Pl × Nat)},subO s l → ∀ k e,getO l k=some e→s.own k=some e
 | [],_,k,e,h=>by simp [getO] at h
 | (j,e') :: r,hs,k,e,h=>by
  rw[L9] at h
  split at h
  ·rename_i hj; subst hj
   simp only [Option.some.injEq] at h; subst h; exact hs.1
  ·exact Pk hs.2 k e h
theorem B4 {s s' : St} (h1 : subT s' s.t) (h2 : subB s' s.bx) (h3 : subO s' s.ow) (h4 : s.mp=[]∨s.mp=s'.mp:=by exact .inl J) : Sub s s' :=
 ⟨fun k e h=>Rc h1 k e h,fun k e h=>Il h2 k e h,fun k e h=>Pk h3 k e h,h4⟩
theorem D5 {id : Nat} {next : St→Prop} {Q : Exit→St→Prop} {s : St} (h : Q (.exit id) s) : Hr next Q (.exit id) s:=h
theorem D6 {id : Nat} {Q : Exit→St→Prop} {s : St} (h : Q .normal s) : Cv id Q (.exit id) s:=by simp only [Cv,if_true]; exact h
theorem D2 {id id' : Nat} {Q : Exit→St→Prop} {s : St} (hne : Nat.beq id' id=false) (h : Q (.exit id') s) : Cv id Q (.exit id') s:=by
 simp only [Cv]
 rw[if_neg (fun e=>by subst e; simp at hne)]
 exact h
theorem C5 {T : List (Option TyI)} {rs : List ResultVar} {res x : X} {bs' : List (List C)} {s : St} (h : resX T s rs=some x) (hx : x=res) (hb : subB s (U5 0 bs')) : retS T rs res none bs' .ret s:=by
 subst hx
 refine ⟨h,O,fun j cs hj=>Il hb (.o j) cs ?_⟩
 have : ∀ (l : List (List C)) (k j : Nat) (cs : List C),l[j]? = some cs→getB (U5 k l) (.o (k + j))=some cs:=by
  intro l
  induction l with
  | nil=>intro k j cs h; simp at h
  | cons c r ih =>
   intro k j cs h
   rw[U5,G6]
   cases j with
   | zero=>simp at h; subst h; simp
   | succ j =>
    have : ¬ (Nm.o k=Nm.o (k + (j + 1))):=by simp
    rw[if_neg this,show k + (j + 1)=k + 1 + j by omega]
    exact ih (k + 1) j cs (by simpa using h)
 have := this bs' 0 j cs hj
 rwa [Nat.zero_add] at this
end
end Go.Abs
namespace Go.Abs
variable {Z : Pg}
section
variable {N : Nat} {st : St} {ty : TypeId} {gate : Bool}
theorem nbOf {n : Nm} {off : Nat} (h : (!n.isBd || !Nat.beq off 0)=true) : n.isBd=true→off≠0:=by
 intro h1 h2
 subst h2
 rw[h1] at h
 simp at h
theorem Rel.storeAll {E : Env} {G : Gh} {a : Act} {n : Nm} : ∀ (ds : List C) (vs : List Value) {w : World} {st : St} {cs : List C} {off : Nat},Rel E G st a w→st.box n=some cs→off + ds.length≤cs.length→All2 (CRep w G.S) ds vs→(n.isBd=true→off≠0) →
  Rel E G (st.store n (I4 cs off ds) off ds.length) a (w.setCells (G.A n).1 ((G.A n).2 + off) vs)
 | [],[],w,st,cs,off,h,hb,_,_,_=>by
  refine Rel.sub (st:=st) ⟨fun _ _ x=>x,?_,?_, .inr J⟩ h
  ·intro m ds hm
   rw[St.store_box] at hm
   split at hm
   ·rename_i he; subst he; simp [I4] at hm; subst hm; exact hb
   ·exact hm
  ·intro p sz hp
   rw[St.store_own] at hp
   split at hp
   ·simp at hp
   ·exact hp
 | d :: ds,v :: vs,w,st,cs,off,h,hb,hl,hall,hnb=>by
  have hk : off < cs.length:=by simp at hl; omega
  have h1:=h.store1 hb hk hall.1 (fun hb0 e=>absurd e (hnb hb0))
  have hS : ∀ b o,G.S b o→(w.setCell ⟨(G.A n).1,(G.A n).2 + off,none⟩ v).cell? ⟨b,o,none⟩=w.cell? ⟨b,o,none⟩:=fun b o hs =>
   World.cell?_setCell_other _ _ _ _ (by
    intro he; simp at he; obtain ⟨rfl,rfl⟩:=he
    have := (h.bx n cs hb off _ (List.getElem?_eq_getElem hk)).1
    unfold Gh.S at hs; rw[this] at hs; simp at hs)
  have h2:=Rel.storeAll ds vs (off:=off + 1) h1 (by rw[St.store_box,if_pos J]) (by simp at hl ⊢; omega) (hall.2.mono fun c u hc=>hc.mono (fun _ _ hs=>hs) hS) (fun _=>by omega)
  have hw : (w.setCells (G.A n).1 ((G.A n).2 + off) (v :: vs))=((w.setCell ⟨(G.A n).1,(G.A n).2 + off,none⟩ v).setCells (G.A n).1 ((G.A n).2 + (off + 1)) vs):=by
   rw[World.setCells,← Nat.add_assoc]
  rw[hw]
  refine Rel.sub (st:=(st.store n (cs.set off d) off 1).store n (I4 (cs.set off d) (off + 1) ds) (off + 1) ds.length) ⟨fun _ _ x=>x,?_,?_, .inr J⟩ h2
  ·intro m es hm
   rw[St.store_box] at hm ⊢
   split at hm
   ·rename_i he; rw[if_pos he]; exact hm
   ·rename_i he; rw[if_neg he,St.store_box,if_neg he]; exact hm
  ·intro p sz hp
   rw[St.store_own] at hp ⊢
   split at hp
   ·simp at hp
   ·rename_i hin
    have e1 : Pl.inCells n (off + 1) ds.length p=false:=by
     cases p with
     | t k=>rfl
     | b m k =>
      simp only [Pl.inCells,Bool.not_eq_true] at hin ⊢
      cases hm : Nm.beq m n with
      | false=>simp
      | true =>
       simp only [hm,Bool.true_and] at hin ⊢
       simp only [Bool.and_eq_false_iff] at hin ⊢
       simp only [List.length_cons] at hin
       rcases hin with hin | hin
       ·left
        have : ¬ off≤k := by intro hle; have := Nat.ble_eq_true_of_le hle; rw[hin] at this; simp at this
        cases hb2 : Nat.ble (off + 1) k with
        | false=>rfl
        | true=>have := Nat.le_of_ble_eq_true hb2; omega
       ·right
        have : ¬ k + 1≤off + (ds.length + 1) := by intro hle; have := Nat.ble_eq_true_of_le hle; rw[hin] at this; simp at this
        cases hb2 : Nat.ble (k + 1) (off + 1 + ds.length) with
        | false=>rfl
        | true=>have := Nat.le_of_ble_eq_true hb2; omega
    have e2 : Pl.inCells n off 1 p=false:=by
     cases p with
     | t k=>rfl
     | b m k =>
      simp only [Pl.inCells,Bool.not_eq_true] at hin ⊢
      cases hm : Nm.beq m n with
      | false=>simp
      | true =>
       simp only [hm,Bool.true_and] at hin ⊢
       simp only [Bool.and_eq_false_iff] at hin ⊢
       simp only [List.length_cons] at hin
       rcases hin with hin | hin
       ·exact .inl hin
       ·right
        have : ¬ k + 1≤off + (ds.length + 1) := by intro hle; have := Nat.ble_eq_true_of_le hle; rw[hin] at this; simp at this
        cases hb2 : Nat.ble (k + 1) (off + 1) with
        | false=>rfl
        | true=>have := Nat.le_of_ble_eq_true hb2; omega
    rw[e1,St.store_own,e2]
    simpa using hp
 | [],_ :: _,_,_,_,_,_,_,_,hall,_=>hall.elim
 | _ :: _,[],_,_,_,_,_,_,_,hall,_=>hall.elim
theorem Ro {w : World} {G : Gh} {n : Nm} {cs : List C} (h : R8 w G n cs) {off len : Nat} (hl : off + len≤cs.length) :
  (∀ j,j < len→(w.cell? ⟨(G.A n).1,(G.A n).2 + off + 0 + j,none⟩).isSome=true)∧(∀ j,j < len→w.frozen? ⟨(G.A n).1,(G.A n).2 + off + 0 + j,none⟩=false):=by
 refine ⟨fun j hj=>?_,fun j hj=>?_⟩
 ·obtain ⟨_,_,v,hv,_⟩:=h (off + j) _ (List.getElem?_eq_getElem (by omega))
  rw[show (G.A n).2 + off + 0 + j=(G.A n).2 + (off + j) by omega,hv]; rfl
 ·obtain ⟨_,hf,_⟩:=h (off + j) _ (List.getElem?_eq_getElem (by omega))
  rw[show (G.A n).2 + off + 0 + j=(G.A n).2 + (off + j) by omega]; exact hf
theorem Q0 {E : Env} {G : Gh} {a : Act} {w : World} (h : Rel E G st a w) {n : Nm} {cs ds : List C} {off : Nat} {t : TypeId} {ti : TyI} {v : Value} (hb : st.box n=some cs) (hl : off + ds.length≤cs.length)
  (ht : tyAt Z.T t=some ti) (hn : ds.length=ti.n) (hall : All2 (CRep w G.S) ds v.cells.toList) :
  (Instr.storeAt t (.pointer (some ⟨(G.A n).1,(G.A n).2 + off,none⟩)) v).run Z.P w = .ok () (w.setCells (G.A n).1 ((G.A n).2 + off) v.cells.toList):=by
 obtain ⟨i,d,zv,hi,hd,hsz,hrow,_⟩:=(Z.tyOk ht).info
 have hlen:=hall.len
 obtain ⟨q1,q2⟩:=Ro (h.bx n cs hb) hl
 have hrun:=run_storeCells_cells (P:=Z.P) (G.A n).1 ((G.A n).2 + off) v.cells.toList 0 w (fun j hj=>q1 j (by omega)) (fun j hj=>q2 j (by omega)) (by
  intro u hu
  obtain ⟨j,hj⟩:=List.getElem?_of_mem hu
  have hjl : j < ds.length:=by rw[hlen]; exact (List.getElem?_eq_some_iff.1 hj).1
  obtain ⟨u',hu',hc⟩:=hall.get j _ (List.getElem?_eq_getElem hjl)
  rw[hj] at hu'; simp at hu'; subst hu'
  exact hc.one)
 rw[Nat.add_zero] at hrun
 have hs : v.cells.size=i.size:=by rw[hsz,← hn,hlen]; simp
 simp [Instr.storeAt,Instr.sureAddr,storeVar,sizeOf,typeInfo,hi,hs,hrun]
theorem C7 {t : TypeId} {x v : Operand} {n : Nm} {off : Nat} {y : Y} {cs ds : List C} {ti : TyI} (hx : lk Z.T st t x=some (true, .v (.ptr n off))) (hv : lk Z.T st t v=some (true, .v y)) (hc : y.cells=some ds)
  (hb : st.box n=some cs) (ht : tyAt Z.T t=some ti) (hn : ds.length=ti.n) (hl : Nat.ble (off + ds.length) cs.length=true) (hnb : (!n.isBd || !Nat.beq off 0)=true:=by rfl) :
  Does Z N st none (.store t x v) ty (st.store n (I4 cs off ds) off ds.length):=by
 intro o E G a w hd ho _ hr hE K Q hK
 have h1 : a.eval x=_:=F4 hr hx J
 have h2:=(F4 hr hv J).cells hc
 have hl':=Nat.le_of_ble_eq_true hl
 have hrun:=Q0 hr hb hl' ht hn h2
 unfold Oper.wp
 have : (execOp a.eval o).run Z.P w = .ok .skip (w.setCells (G.A n).1 ((G.A n).2 + off) (a.eval v).cells.toList):=by
  simp [execOp,ho,h1,hrun]
 rw[this,Oper.upon_skip,hd]
 exact hK G undef _ (hr.storeAll ds _ hb hl' h2 (nbOf hnb))
def Gh.relabel (G : Gh) (p q : Pl) : Gh:={ G with W:=fun b o=>match G.W b o with | .own r=>if r=p then .own q else .own r | x=>x }
theorem Gh.relabel_imm (G : Gh) (p q : Pl) (b o : Nat) : (G.relabel p q).W b o = .imm ↔ G.W b o = .imm:=by
 unfold Gh.relabel; dsimp only
 cases G.W b o <;> simp
 split <;> simp
theorem Gh.relabel_box (G : Gh) (p q : Pl) (b o : Nat) (n : Nm) : (G.relabel p q).W b o = .box n ↔ G.W b o = .box n:=by
 unfold Gh.relabel; dsimp only
 cases G.W b o <;> simp
 split <;> simp
theorem Gh.relabel_none (G : Gh) (p q : Pl) (b o : Nat) : (G.relabel p q).W b o = .none ↔ G.W b o = .none:=by
 unfold Gh.relabel; dsimp only
 cases G.W b o <;> simp
 split <;> simp
theorem Gh.relabel_own (G : Gh) (p q : Pl) (b o : Nat) (r : Pl) (h : G.W b o = .own r) : (G.relabel p q).W b o = .own (if r=p then q else r):=by
 unfold Gh.relabel; dsimp only
 rw[h]; dsimp only
 split <;> rfl
def St.unown (st : St) (p : Pl) : St:={ st with ow:=st.ow.filter fun q=>!Pl.beq q.1 p }
theorem St.unown_own (st : St) (p r : Pl) : (st.unown p).own r=if r=p then none else st.own r:=by
 show getO (st.ow.filter fun q=>!Pl.beq q.1 p) r=_
 rw[L6 (fun q=>!Pl.beq q p)]
 by_cases h : r=p
 ·subst h; simp [Pl.beq_self]
 ·simp [h,Pl.beq_ne h,St.own]
theorem Rel.relabel {E : Env} {G : Gh} {a : Act} {w : World} (h : Rel E G st a w) {p q : Pl} {sz : Nat} {v : Value} (hp : OwnAt E.C w G p sz v) (hq : st.own q=none) (hv : ValAt a w G q v) (hqb : ∀ t k o,q ≠ .b (.bd t k) o:=by intro _ _ _ hh; simp at hh) :
  Rel E (G.relabel p q) ((st.unown p).addOwn q sz) a w:=by
 have hS : ∀ b o,G.S b o→(G.relabel p q).S b o:=fun b o hs=>(G.relabel_imm p q b o).2 hs
 constructor
 ·exact h.df
 ·intro k g x hk
  obtain ⟨u,hu,h1,h2⟩:=h.tm k g x hk
  exact ⟨u,hu,fun hg=>(h1 hg).mono hS (fun _ _ _=>rfl) (fun _ _=>rfl),h2⟩
 ·intro n cs hn j c hj
  obtain ⟨q1,q2,u,q3,q4⟩:=h.bx n cs hn j c hj
  exact ⟨(G.relabel_box p q _ _ n).2 q1,q2,u,q3,q4.mono hS (fun _ _ _=>rfl)⟩
 ·intro r s hr
  rw[St.addOwn_own] at hr
  split at hr
  ·rename_i he; subst he
   simp only [Option.some.injEq] at hr; subst hr
   refine ⟨v,?_,?_⟩
   ·cases q with
    | t k=>exact hv
    | b n off=>exact ⟨hv.1,(G.relabel_box _ _ _ _ n).2 hv.2⟩
   ·rcases hp with hp | ⟨blk,len,cap,e,q1,q2,q3,q4⟩
    ·exact .inl hp
    ·exact .inr ⟨blk,len,cap,e,q1,⟨q2.1,q2.2.1,fun t k o hh=>absurd hh (hqb t k o)⟩,q3,fun o ho1 ho2=>by
      obtain ⟨q5,q6⟩:=q4 o ho1 ho2
      exact ⟨by rw[G.relabel_own p q _ _ p q5,if_pos J],q6⟩⟩
  ·rw[St.unown_own] at hr
   split at hr
   ·simp at hr
   ·rename_i hrp
    obtain ⟨u,hu,ho⟩:=h.ow r s hr
    refine ⟨u,?_,?_⟩
    ·cases r with
     | t k=>exact hu
     | b n off=>exact ⟨hu.1,(G.relabel_box _ _ _ _ n).2 hu.2⟩
    ·rcases ho with ho | ⟨blk,len,cap,e,q1,q2,q3,q4⟩
     ·exact .inl ho
     ·exact .inr ⟨blk,len,cap,e,q1,q2,q3,fun o ho1 ho2=>by
       obtain ⟨q5,q6⟩:=q4 o ho1 ho2
       exact ⟨by rw[G.relabel_own p q _ _ r q5,if_neg hrp],q6⟩⟩
 ·intro b o hb
  exact h.wf b o fun e=>hb ((G.relabel_none p q b o).2 e)
 ·intro b o n hb hn
  exact h.olB b o n hb ((G.relabel_box p q b o n).1 hn)
 ·intro b o r hb hn
  cases hw : G.W b o with
  | own r'=>exact h.olO b o r' hb hw
  | none=>rw[(G.relabel_none p q b o).2 hw] at hn; simp at hn
  | imm=>rw[(G.relabel_imm p q b o).2 hw] at hn; simp at hn
  | box n=>rw[(G.relabel_box p q b o n).2 hw] at hn; simp at hn
 ·exact h.nt
 ·exact h.oA
 ·intro b o hi; exact hS b o (h.im b o hi)
 ·intro b o hb hi; exact h.im' b o hb ((G.relabel_imm p q b o).1 hi)
 ·exact h.fr
 ·exact h.hB
 ·intro b o hb
  refine ⟨fun n hk=>(h.lo b o hb).1 n ((G.relabel_box p q b o _).1 hk),fun hold r hr=>?_⟩
  cases hw : G.W b o with
  | own r'=>exact (h.lo b o hb).2 hold r' hw
  | none=>rw[(G.relabel_none p q b o).2 hw] at hr; simp at hr
  | imm=>rw[(G.relabel_imm p q b o).2 hw] at hr; simp at hr
  | box n=>rw[(G.relabel_box p q b o n).2 hw] at hr; simp at hr
 ·exact h.bd
 ·intro x hx
  obtain ⟨q1,q2,q3⟩:=h.mp x hx
  refine ⟨q1,q2,fun o=>⟨fun n hk=>(q3 o).1 n ((G.relabel_box p q _ o _).1 hk),fun r hr=>?_⟩⟩
  cases hw : G.W x.1 o with
  | own r'=>exact (q3 o).2 r' hw
  | none=>rw[(G.relabel_none p q _ o).2 hw] at hr; simp at hr
  | imm=>rw[(G.relabel_imm p q _ o).2 hw] at hr; simp at hr
  | box n=>rw[(G.relabel_box p q _ o n).2 hw] at hr; simp at hr
def St.take (st : St) (d k : Nat) (x : X) (sz : Nat) : St:=((st.put d (true,x)).unown (.t k)).addOwn (.t d) sz
theorem F2 {d k : Nat} {x : X} {sz : Nat} {op : Op} (hop : op = .move (.tmp k)∨op = .assign (.tmp k)) (h : st.get k=some (true,x)) (hw : st.own (.t k)=some sz) (hN : Nat.ble (d + 1) N=true) :
  Does Z N st (some d) op ty (st.take d k x sz):=by
 intro o E G a w hd ho _ hr hE K Q hK
 have hdN : d < E.nt:=by rw[hE.nt]; exact Nat.le_of_ble_eq_true hN
 obtain ⟨v,hv,h1,_⟩:=hr.tm k true x h
 obtain ⟨v',hv',ho'⟩:=hr.ow _ _ hw
 have : v'=v:=by
  have hv2 : a.tmps[k]? = some v':=hv'
  rw[hv] at hv2; simpa using hv2.symm
 subst this
 have hev : a.eval (.tmp k)=v':=by simp [Act.eval,Array.getD_eq_getD_getElem?,hv]
 have hrun : (execOp a.eval o).run Z.P w = .ok (.value v') w:=by
  rcases hop with hop | hop <;> simp [execOp,ho,hop,hev]
 unfold Oper.wp
 rw[hrun,Oper.upon_value,hd]
 have hput:=hr.put hdN (g:=true) (v:=v') (fun _=>h1 J) (fun hf=>by simp at hf)
 refine hK (G.relabel (.t k) (.t d)) v' w (hput.relabel ho' ?_ ?_)
 ·rw[St.put_own,if_pos J]
 ·show (a.put (some d) v').tmps[d]? = _
  rw[K2 (by rw[hr.nt]; exact hdN)]; simp
theorem I5 {d : Nat} {t : TypeId} {x : Operand} {n : Nm} {off : Nat} {ti : TyI} {cs : List C} {c : C} {sz : Nat} (h : lk Z.T st ty x=some (true, .v (.ptr n off)))
  (ht : tyAt Z.T t=some ti) (hagg : ti.agg=false) (hb : st.box n=some cs) (hc : cs[off]? = some c) (hw : st.own (.b n off)=some sz) (hN : Nat.ble (d + 1) N=true) :
  Does Z N st (some d) (.load t x) ty (((st.put d (true, .v (.c c))).unown (.b n off)).addOwn (.t d) sz):=by
 intro o E G a w hd ho hty hr hE K Q hK
 have hdN : d < E.nt:=by rw[hE.nt]; exact Nat.le_of_ble_eq_true hN
 have h1 : a.eval x=_:=F4 hr h J
 obtain ⟨_,_,v,hv,hcr⟩:=hr.bx n cs hb off c hc
 obtain ⟨v',hv',ho'⟩:=hr.ow _ _ hw
 have : v'=v := by have := hv'.1; rw[hv] at this; simpa using this.symm
 subst this
 unfold Oper.wp
 have hrun : (execOp a.eval o).run Z.P w = .ok (.value v') w:=by simp [execOp,ho,h1,S8 ht hagg hv]
 rw[hrun,Oper.upon_value,hd]
 have hput:=hr.put hdN (g:=true) (x:=.v (.c c)) (v:=v') (fun _=>hcr) (fun hf=>by simp at hf)
 refine hK (G.relabel (.b n off) (.t d)) v' w (hput.relabel ho' ?_ ?_)
 ·rw[St.put_own,if_pos J]
 ·show (a.put (some d) v').tmps[d]? = _
  rw[K2 (by rw[hr.nt]; exact hdN)]; simp
theorem Jf {cs : List C} {off : Nat} {c : C} (h : off < cs.length) : (I4 cs off [c])[off]? = some c:=by simp [I4,h]
theorem H8 {t : TypeId} {x : Operand} {k : Nat} {n : Nm} {off : Nat} {c : C} {cs : List C} {ti : TyI} {sz : Nat} (hx : lk Z.T st t x=some (true, .v (.ptr n off))) (hv : st.get k=some (true, .v (.c c)))
  (hb : st.box n=some cs) (ht : tyAt Z.T t=some ti) (hn : ti.n=1) (hl : Nat.ble (off + 1) cs.length=true) (hw : st.own (.t k)=some sz) (hnb : n.isBd=false:=by rfl) :
  Does Z N st none (.store t x (.tmp k)) ty (((st.store n (I4 cs off [c]) off 1).unown (.t k)).addOwn (.b n off) sz):=by
 intro o E G a w hd ho _ hr hE K Q hK
 have h1 : a.eval x=_:=F4 hr hx J
 have hv0 : lk Z.T st t (.tmp k)=some (true, .v (.c c)):=hv
 have h2 : All2 (CRep w G.S) [c] (a.eval (.tmp k)).cells.toList:=(show YRep w G (.c c) _ from F4 hr hv0 J).cells J
 have hl':=Nat.le_of_ble_eq_true hl
 have hrun:=Q0 hr hb (ds:=[c]) hl' ht (by simp [hn]) h2
 obtain ⟨v',hv',ho'⟩:=hr.ow _ _ hw
 have hev : a.eval (.tmp k)=v':=by
  have hv2 : a.tmps[k]? = some v':=hv'
  simp [Act.eval,Array.getD_eq_getD_getElem?,hv2]
 have h1c : v'.cells = #[v']:=by
  obtain ⟨u,hu,hcr⟩:=h2.get 0 c rfl
  have hrep : CRep w G.S c (a.eval (.tmp k)):=F4 hr hv0 J
  rw[hev] at hrep
  exact Lg hrep.one
 unfold Oper.wp
 have : (execOp a.eval o).run Z.P w = .ok .skip (w.setCells (G.A n).1 ((G.A n).2 + off) (a.eval (.tmp k)).cells.toList):=by
  simp [execOp,ho,h1,hrun]
 rw[this,Oper.upon_skip,hd]
 have hst:=hr.storeAll [c] _ hb hl' h2 (fun hh=>by rw[hnb] at hh; simp at hh)
 have hin : Pl.inCells n off 1 (.b n off)=true:=by
  simp [Pl.inCells,Nm.beq_self]
 have hown' : (st.store n (I4 cs off [c]) off [c].length).own (.t k)=some sz:=by
  rw[St.store_own]; simp [Pl.inCells,hw]
 obtain ⟨v2,hv2,ho2⟩:=hst.ow _ _ hown'
 have : v2=v':=by
  have e1 : a.tmps[k]? = some v2:=hv2
  have e2 : a.tmps[k]? = some v':=hv'
  rw[e1] at e2; simpa using e2
 subst this
 refine hK (G.relabel (.t k) (.b n off)) undef _ (Rel.putNone (hst.relabel ho2 ?_ ?_ (fun t k o hh=>by simp at hh; rw[hh.1] at hnb; simp [Nm.isBd] at hnb)) undef)
 ·rw[St.store_own]; simp [hin]
 ·obtain ⟨q1,_,u,q3,q4⟩:=hst.bx n (I4 cs off [c]) (by rw[St.store_box,if_pos rfl]) off c (Jf (by omega))
  refine ⟨?_,q1⟩
  rw[hev,h1c]
  have hcell:=hr.bx n cs hb off _ (List.getElem?_eq_getElem (by omega))
  obtain ⟨_,_,u0,hu0,_⟩:=hcell
  simp only [World.setCells]
  exact World.cell?_setCell_same _ _ _ hu0
end
end Go.Abs
namespace Go.Abs
variable {Z : Pg}
theorem Kr (off : Nat) : ∀ (l : List Value) (s : Nat) (cells : Array Value),off + s + l.length≤cells.size →
  ((l.zipIdx s).foldl (fun cs (x : Value × Nat)=>cs.setIfInBounds (off + x.2) x.1) cells).size=cells.size ∧
  ∀ m,((l.zipIdx s).foldl (fun cs (x : Value × Nat)=>cs.setIfInBounds (off + x.2) x.1) cells)[m]? = if off + s≤m∧m < off + s + l.length then l[m - (off + s)]? else cells[m]?
 | [],s,cells,_=>by
  refine ⟨rfl,fun m=>?_⟩
  rw[if_neg (by simp only [List.length_nil]; omega)]
  rfl
 | v :: l,s,cells,h=>by
  simp only [List.zipIdx_cons,List.foldl_cons]
  simp only [List.length_cons] at h
  obtain ⟨h1,h2⟩:=Kr off l (s + 1) (cells.setIfInBounds (off + s) v) (by simp; omega)
  refine ⟨by rw[h1]; simp,fun m=>?_⟩
  rw[h2 m]
  by_cases hm : off + (s + 1)≤m∧m < off + (s + 1) + l.length
  ·rw[if_pos hm,if_pos (by simp only [List.length_cons]; omega)]
   rw[show m - (off + s)=(m - (off + (s + 1))) + 1 by omega]
   simp
  ·rw[if_neg hm]
   by_cases he : m=off + s
   ·subst he
    rw[if_pos (by simp only [List.length_cons]; omega)]
    simp only [Array.getElem?_setIfInBounds_self_of_lt (show off + s < cells.size by omega),Nat.sub_self,List.getElem?_cons_zero]
   ·rw[if_neg (by simp only [List.length_cons]; omega),Array.getElem?_setIfInBounds_ne (fun e=>he e.symm)]
theorem Gf (off : Nat) (v : Value) (cells : Array Value) (h : off + v.cells.size≤cells.size) :
  (v.cells.zipIdx.foldl (fun cs (c,j)=>cs.setIfInBounds (off + j) c) cells).size=cells.size ∧
  ∀ m,(v.cells.zipIdx.foldl (fun cs (c,j)=>cs.setIfInBounds (off + j) c) cells)[m]? = if off≤m∧m < off + v.cells.size then v.cells[m - off]? else cells[m]? := by
 have := Kr off v.cells.toList 0 cells (by simpa using h)
 rw[← Array.foldl_toList,Array.toList_zipIdx]
 simpa using this
def Ec : Nat→List Operand→List (Nat × Operand)
 | _,[]=>[]
 | k,x :: r=>(k,x) :: Ec (k + 1) r
theorem Qg (size : Nat) (ρ : Operand→Value) : ∀ (xs : List Operand) (k : Nat) (cells : Array Value),(∀ x ∈ xs,(ρ x).cells.size=size)→(k + xs.length) * size≤cells.size →
  ∃ cells',Instr.fill (fun i=>some (i * size,size)) cells ((Ec k xs).map fun (i,x)=>(i,ρ x))=some cells'∧cells'.size=cells.size ∧
   (∀ m,m < k * size→cells'[m]? = cells[m]?) ∧ ∀ (i : Nat) (x : Operand) (j : Nat),xs[i]? = some x→j < size→cells'[(k + i) * size + j]? = (ρ x).cells[j]?
 | [],k,cells,_,_=>⟨cells,rfl,rfl,fun _ _=>rfl,fun i x j h=>by simp at h⟩
 | x :: xs,k,cells,hs,hl=>by
  have hsz : (ρ x).cells.size=size:=hs x (by simp)
  simp only [List.length_cons] at hl
  have hfit : k * size + (ρ x).cells.size≤cells.size:=by
   have : (k + (xs.length + 1)) * size=k * size + size + xs.length * size:=by simp only [Nat.add_mul,Nat.one_mul]; omega
   omega
  obtain ⟨f1,f2⟩:=Gf (k * size) (ρ x) cells hfit
  obtain ⟨cells',h1,h2,h3,h4⟩:=Qg size ρ xs (k + 1) ((ρ x).cells.zipIdx.foldl (fun cs (c,j)=>cs.setIfInBounds (k * size + j) c) cells) (fun y hy=>hs y (List.mem_cons_of_mem _ hy)) (by
   rw[f1]; rw[show k + 1 + xs.length=k + (xs.length + 1) by omega]; exact hl)
  refine ⟨cells',?_,by rw[h2,f1],?_,?_⟩
  ·simp only [Ec,List.map_cons,Instr.fill]
   rw[if_neg (by simp [hsz]; omega)]
   exact h1
  ·intro m hm
   rw[h3 m (by rw[Nat.add_mul]; omega),f2 m,if_neg (by omega)]
  ·intro i y j hi hj
   cases i with
   | zero =>
    simp only [List.getElem?_cons_zero,Option.some.injEq] at hi
    subst hi
    rw[Nat.add_zero,h3 _ (by rw[Nat.add_mul]; omega),f2,if_pos (by omega)]
    congr 1; omega
   | succ i =>
    have := h4 i y j (by simpa using hi) hj
    rw[show k + (i + 1)=k + 1 + i by omega]
    exact this
section
variable {N : Nat} {st : St} {ty : TypeId} {gate : Bool}
def R9 (T : List (Option TyI)) (st : St) (ty : TypeId) (sz : Nat) : List Operand→Option (Bool × List (List C))
 | []=>some (true,[])
 | o :: os=>match lk T st ty o with
  | some (g, .v y)=>(match y.cells,R9 T st ty sz os with
   | some cs,some (g',rs)=>cond (Nat.beq cs.length sz) (some (g && g',cs :: rs)) none
   | _,_=>none)
  | _=>none
theorem Hq {E : Env} {G : Gh} {a : Act} {w : World} (hr : Rel E G st a w) {T : List (Option TyI)} {sz : Nat} : ∀ {os : List Operand} {g : Bool} {rs : List (List C)},R9 T st ty sz os=some (g,rs)→g=true →
  All2 (fun row o=>row.length=sz∧All2 (CRep w G.S) row (a.eval o).cells.toList) rs os
 | [],g,rs,h,_=>by simp [R9] at h; obtain ⟨_,rfl⟩:=h; trivial
 | o :: os,g,rs,h,hg=>by
  simp only [R9] at h
  split at h
  ·rename_i g1 y h1
   split at h
   ·rename_i cs g2 rs' h2 h3
    cases hb : Nat.beq cs.length sz with
    | false=>rw[hb] at h; simp at h
    | true =>
     rw[hb,cond_true] at h
     simp only [Option.some.injEq,Prod.mk.injEq] at h
     obtain ⟨rfl,rfl⟩:=h
     rw[Bool.and_eq_true] at hg
     exact ⟨⟨Nat.eq_of_beq_eq_true hb,(F4 hr h1 hg.1).cells h2⟩,Hq hr h3 hg.2⟩
   ·simp at h
  ·simp at h
theorem X2 {ops : Array Oper} {o : Oper} {g : Bool} {d : Nat} {t : TypeId} {len : Nat} {parts : Array (Nat × Operand)} {xs : List Operand} {ti : TyI} {e sz by' : Nat} {rs : List (List C)}
  (ho : o.op = .buildSlice t len parts) (hg : G8 ops st o=some gate) (hd : o.dst=some d) (hN : Nat.ble (d + 1) N=true) (ht : tyAt Z.T t=some ti) (hel : ti.el=some (e,sz,by')) (hp : parts.toList=Ec 0 xs) (hx : Nat.beq xs.length len=true)
  (hrs : R9 Z.T st e sz xs=some (g,rs)) (hga : gate=true→g=true) (hbig : Nat.ble (len * sz) 10000=true) : Op1 Z N ops o st (st.ret d gate (.v (.c (.sl sz rs))) (some sz)):=by
 intro E G a w hr hE K' Q' hK
 have hdN : d < E.nt:=by rw[hE.nt]; exact Nat.le_of_ble_eq_true hN
 rw[J6 hr hg,hd]
 rw[hd] at hK
 cases gate with
 | false =>
  simp only [Bool.false_eq_true,if_false]
  exact hK G undef w (hr.put hdN (fun hf=>by simp at hf) (fun _=>rfl))
 | true =>
  simp only [if_true]
  have hxl : xs.length=len:=Nat.eq_of_beq_eq_true hx
  have hbig' : len * sz≤10000:=Nat.le_of_ble_eq_true hbig
  have hrep:=Hq hr hrs (hga J)
  have hrl : rs.length=xs.length:=hrep.len
  obtain ⟨hu,jf,ze,hinfo,hsz,_,hsz0,hze,hzec⟩:=(Z.tyOk ht).sl e sz by' hel
  have hsz' : ∀ x ∈ xs,(a.eval x).cells.size=sz:=by
   intro x hx
   obtain ⟨j,hj⟩:=List.getElem?_of_mem hx
   have hjl : j < rs.length:=by rw[hrl]; exact (List.getElem?_eq_some_iff.1 hj).1
   obtain ⟨x',hx',h1,h2⟩:=hrep.get j _ (List.getElem?_eq_getElem hjl)
   rw[hj] at hx'; simp at hx'; subst hx'
   rw[← Array.length_toList,← h2.len,h1]
  let zc : Array Value:=if len * sz=0 then #[] else ze.cells
  let cells0 : Array Value:=(Array.range (len * sz)).map (zc[· % zc.size]!)
  obtain ⟨cells,hf1,hf2,_,hf4⟩:=Qg sz a.eval xs 0 cells0 hsz' (by simp [cells0,hxl])
  have hfsz : cells.size=len * sz:=by rw[hf2]; simp [cells0]
  have hrun : (execOp a.eval o).run Z.P w = .ok (.value (.slice (some ⟨w.heap.size,0,none⟩) len len)) (w.alloc (.cells cells e)):=by
   have hmap : (parts.map fun (i,x)=>(i,a.eval x)).toList=(Ec 0 xs).map fun (i,x)=>(i,a.eval x):=by
    rw[Array.toList_map,hp]
   have hnb : ¬ (len * sz > 2 ^ 24):=by omega
   simp only [execOp,ho,Instr.buildSlice,underlying,Sem.run_bind,run_program,Result.andThen_ok,hu,Sem.run_pure,sizeOf,typeInfo,hinfo,hsz,Sem.run_ite,if_neg hnb]
   by_cases hz : len * sz=0
   ·simp only [hz,if_true]
    have hc0 : (Array.range 0).map ((#[] : Array Value)[· % (#[] : Array Value).size]!)=cells0:=by simp [cells0,hz]
    rw[hmap,hc0,hf1]
    simp [newRow]
   ·simp only [if_neg hz,zeroValue,typeInfo,Sem.run_bind,run_program,Result.andThen_ok,hinfo,Sem.run_pure,hze]
    have hc0 : (Array.range (len * sz)).map (ze.cells[· % ze.cells.size]!)=cells0:=by simp only [cells0,zc,if_neg hz]
    rw[hmap,hc0,hf1]
    simp [newRow]
  unfold Oper.wp
  rw[hrun,Oper.upon_value,hd]
  let f : Nat→Who:=fun o'=>if o' < len * sz then .imm else .none
  let G1:=G.push w.heap.size f
  have hG : Rel E G1 st a (w.alloc (.cells cells e)):=by
   refine hr.grow (Bt w _) ?_ (SameA.refl _ _) ?_
   ·intro b o' hb
    have : ¬ b=w.heap.size:=by omega
    simp [G1,Gh.push,this]
   ·intro b o' hne
    simp only [G1,Gh.push] at hne
    split at hne
    ·rename_i hb; subst hb; simp
    ·have := hr.wf b o' hne; simp; omega
  have hS : ∀ b o',G.S b o'→G1.S b o':=fun b o' hs=>by
   have hb:=hr.wf b o' (by unfold Gh.S at hs; rw[hs]; simp)
   have : ¬ b=w.heap.size:=by omega
   unfold Gh.S at *
   simp [G1,Gh.push,this,hs]
  have hc : ∀ b o',G.S b o'→(w.alloc (.cells cells e)).cell? ⟨b,o',none⟩=w.cell? ⟨b,o',none⟩:=fun b o' hs =>
   World.cell?_alloc_lt w _ _ (hr.wf b o' (by unfold Gh.S at hs; rw[hs]; simp))
  have hX : XRep (w.alloc (.cells cells e)) G1 (.v (.c (.sl sz rs))) (.slice (some ⟨w.heap.size,0,none⟩) len len):=by
   refine CRep.mk_sl (by omega) (Nat.le_refl _) (by have := Nat.le_mul_of_pos_right len (show 0 < sz by omega); omega) fun i row hi=>?_
   obtain ⟨x,hx1,hx2,hx3⟩:=hrep.get i row hi
   refine ⟨hx2,fun j c hj=>?_⟩
   have hjl : j < sz:=by rw[← hx2]; exact (List.getElem?_eq_some_iff.1 hj).1
   have hil : i < len:=by rw[← hxl]; exact (List.getElem?_eq_some_iff.1 hx1).1
   obtain ⟨v,hv,hcr⟩:=hx3.get j c hj
   have hlt : i * sz + j < len * sz:=by
    have : (i + 1) * sz≤len * sz:=Nat.mul_le_mul_right sz hil
    rw[Nat.add_mul] at this; omega
   refine ⟨by simp [Gh.S,G1,Gh.push,f,hlt],v,?_,hcr.mono hS hc⟩
   rw[Nat.zero_add,World.cell?_alloc_new]
   have := hf4 i x j hx1 hjl
   rw[Nat.zero_add] at this
   rw[this]
   simpa using hv
  have hput:=hG.put hdN (g:=true) (fun _=>hX) (fun hf=>by simp at hf)
  refine hK G1 _ _ (hput.addOwn (v:=.slice (some ⟨w.heap.size,0,none⟩) len len) ?_ ?_)
  ·show (a.put (some d) _).tmps[d]? = _
   rw[K2 (by rw[hr.nt]; exact hdN)]; simp
  ·refine .inr ⟨w.heap.size,len,len,e,rfl,⟨Nat.le_refl _,Nat.le_trans E.C_le (Nat.le_trans hr.hB hr.fr.size),fun _ _ _ hh=>by simp at hh⟩,⟨?_,Fa w cells e _⟩,fun o' h1 h2=>by omega⟩
   unfold World.shape?
   rw[show (w.alloc (.cells cells e)).heap[w.heap.size]? = some (.cells cells e) from Array.getElem?_push_size]
   simp [hfsz]
theorem E8 {ops : Array Oper} {rest : List Oper} {K : St→Prop} {o : Oper} {g : Bool} {d : Nat} {t : TypeId} {len : Nat} {parts : Array (Nat × Operand)} {xs : List Operand} {ti : TyI} {e sz by' : Nat} {rs : List (List C)}
  (ho : o.op = .buildSlice t len parts) (hg : G8 ops st o=some gate) (hd : o.dst=some d) (hN : Nat.ble (d + 1) N=true) (ht : tyAt Z.T t=some ti) (hel : ti.el=some (e,sz,by')) (hp : parts.toList=Ec 0 xs) (hx : Nat.beq xs.length len=true)
  (hrs : R9 Z.T st e sz xs=some (g,rs)) (hga : gate=true→g=true) (hbig : Nat.ble (len * sz) 10000=true)
  (h : AL Z N ops rest K (st.ret d gate (.v (.c (.sl sz rs))) (some sz))) : AL Z N ops (o :: rest) K st:=U7 (X2 ho hg hd hN ht hel hp hx hrs hga hbig) h
def bnd (T : List (Option TyI)) (st : St) (ty : TypeId) (o : Option Operand) (dflt : Nat) (g0 : Bool) (n : Nat) : Prop :=
 match o with
 | none=>n=dflt
 | some x=>∃ g k m,lk T st ty x=some (g, .v (.c (.i k m)))∧(g0=true→g=true)∧m=(n : Int)
theorem Bx {E : Env} {G : Gh} {a : Act} {w : World} (hr : Rel E G st a w) {x : Operand} {g : Bool} {k : IntKind} {m : Int} {n y : Nat} {code : BoundsCode} (h : lk Z.T st ty x=some (g, .v (.c (.i k m)))) (hg : g=true) (hm : m=(n : Int)) (hy : n≤y) :
  (Instr.sliceBound (a.eval x) y code).run Z.P w = .ok n w:=by
 have h1:=XRep.int (F4 hr h hg)
 subst hm
 simp [Instr.sliceBound,h1,asIntOf,hy]
theorem Ig {E : Env} {G : Gh} {a : Act} {w : World} (hr : Rel E G st a w) (hgt : gate=true) {lo hi : Option Operand} {isSlice : Bool} {len cap l h' : Nat} (hlo : bnd Z.T st ty lo 0 gate l) (hhi : bnd Z.T st ty hi len gate h') (hlh : l≤h') (hle : h'≤len) (hc : len≤cap) :
  (Instr.sliceBounds isSlice len cap (lo.map a.eval) (hi.map a.eval) none).run Z.P w = .ok (l,h',cap) w:=by
 cases lo with
 | none =>
  simp only [bnd] at hlo; subst hlo
  cases hi with
  | none=>simp only [bnd] at hhi; subst hhi; simp [Instr.sliceBounds]
  | some y =>
   obtain ⟨g1,k1,m1,q1,q2,q3⟩:=hhi
   simp [Instr.sliceBounds,Bx hr q1 (q2 hgt) q3 (show h'≤cap by omega)]
 | some z =>
  obtain ⟨g2,k2,m2,p1,p2,p3⟩:=hlo
  cases hi with
  | none=>simp only [bnd] at hhi; subst hhi; simp [Instr.sliceBounds,Bx hr p1 (p2 hgt) p3 hlh]
  | some y =>
   obtain ⟨g1,k1,m1,q1,q2,q3⟩:=hhi
   simp [Instr.sliceBounds,Bx hr q1 (q2 hgt) q3 (show h'≤cap by omega),Bx hr p1 (p2 hgt) p3 hlh]
theorem Am {x : Operand} {lo hi : Option Operand} {t : TypeId} {g : Bool} {sz : Nat} {es : List (List C)} {ti : TyI} {e by' l h' : Nat} (h : lk Z.T st ty x=some (g, .v (.c (.sl sz es)))) (hg : gate=true→g=true)
  (ht : tyAt Z.T t=some ti) (hel : ti.el=some (e,sz,by')) (hlo : gate=true→bnd Z.T st ty lo 0 gate l) (hhi : gate=true→bnd Z.T st ty hi es.length gate h') (hlh : gate=true→l≤h') (hle : gate=true→h'≤es.length) :
  PureOk Z st (.slice t x lo hi none) ty gate (.v (.c (.sl sz ((es.take h').drop l)))):=by
 intro o E G a w ho _ hr hgt
 have hlo:=hlo hgt; have hhi:=hhi hgt; have hlh:=hlh hgt; have hle:=hle hgt
 have h1:=F4 hr h (hg hgt)
 obtain ⟨hu,jf,ze,hinfo,hsz,_,hsz0,_,_⟩:=(Z.tyOk ht).sl e sz by' hel
 have key : ∀ (base : Option Addr) (len cap : Nat),a.eval x = .slice base len cap→len=es.length→len≤cap →
   (execOp a.eval o).run Z.P w = .ok (.value (.slice (if cap=l then base else base.map (·.add (l * sz))) (h' - l) (cap - l))) w:=by
  intro base len cap hv hl hc
  have hb:=Ig hr hgt (isSlice:=true) (cap:=cap) hlo hhi hlh hle (by omega)
  rw[← hl] at hb
  simp only [execOp,ho,hv,Instr.sliceAt,Option.map_none,underlying,Sem.run_bind,run_program,Result.andThen_ok,hu,Sem.run_pure,Instr.slice,hb,sizeOf,typeInfo,hinfo,hsz]
 rcases CRep.sl_cases h1 with ⟨a0,hv,rfl⟩ | ⟨blk,off,len,cap,hv,hl⟩
 ·have : h'=0:=by simpa using hle
  subst this
  have : l=0:=by omega
  subst this
  exact ⟨_,(by simpa using (show XRep w G (.v (.c (.sl sz []))) (.slice a0 0 0) from CRep.emp sz a0)),by rw[key _ _ _ hv J (Nat.le_refl _)]; simp⟩
 ·rw[hv] at h1
  obtain ⟨_,hcap,hmax,hel'⟩:=h1.elem
  refine ⟨_,?_,key _ _ _ hv hl.symm hcap⟩
  by_cases hcl : cap=l
  ·rw[if_pos hcl]
   refine CRep.mk_sl (by simp; omega) (by omega) (by omega) fun i row hi'=>?_
   have := (List.getElem?_eq_some_iff.1 hi').1
   simp at this; omega
  ·rw[if_neg hcl]
   simp only [Option.map_some,Q1]
   refine CRep.mk_sl (by simp; omega) (by omega) (by omega) fun i row hi'=>?_
   rw[List.getElem?_drop,List.getElem?_take] at hi'
   split at hi'
   ·obtain ⟨q1,q2⟩:=hel' _ row hi'
    refine ⟨q1,?_⟩
    rw[show off + l * sz + i * sz=off + (l + i) * sz by rw[Nat.add_mul]; omega]
    exact q2
   ·simp at hi'
theorem K7 {x : Operand} {lo hi : Option Operand} {t : TypeId} {g : Bool} {s : List UInt8} {l h' : Nat} (h : lk Z.T st ty x=some (g, .v (.c (.s s)))) (hg : gate=true→g=true)
  (hu : Z.P.underlying t=some .string) (hlo : gate=true→bnd Z.T st ty lo 0 gate l) (hhi : gate=true→bnd Z.T st ty hi s.length gate h') (hlh : gate=true→l≤h') (hle : gate=true→h'≤s.length) :
  PureOk Z st (.slice t x lo hi none) ty gate (.v (.c (.s ((s.take h').drop l)))):=by
 intro o E G a w ho _ hr hgt
 have hlo:=hlo hgt; have hhi:=hhi hgt; have hlh:=hlh hgt; have hle:=hle hgt
 have h0:=F4 hr h (hg hgt)
 have h1:=XRep.str h0
 have hb:=Ig hr hgt (isSlice:=false) (cap:=s.length) hlo hhi hlh hle (Nat.le_refl _)
 refine ⟨.string ⟨((s.take h').drop l).toArray⟩,CRep.s _ (by have := CRep.strMax h0; simp; omega),?_⟩
 have hex : (⟨s.toArray⟩ : ByteArray).extract l h'=⟨((s.take h').drop l).toArray⟩:=by
  rw[Lib.extract_eq]
  simp [List.drop_take]
 simp [execOp,ho,h1,Instr.sliceAt,underlying,hu,Instr.slice,Dx,hb,hex]
theorem C6 {x : Operand} {i : Nat} {g : Bool} {ys : List Y} {y : Y} (h : lk Z.T st ty x=some (g, .tup ys)) (hg : gate=true→g=true) (hi : ys[i]? = some y) : PureOk Z st (.extract x i) ty gate (.v y):=by
 intro o E G a w ho _ hr hgt
 obtain ⟨vs,hv,hall⟩:=F4 hr h (hg hgt)
 obtain ⟨v,hv',hy⟩:=hall.get i y hi
 exact ⟨v,hy,by simp [execOp,ho,hv,Instr.extract,hv']⟩
theorem Hw {x : Operand} {i : Nat} {t tf : TypeId} {g : Bool} {cs : List C} {c : C} {off : Nat} {tj : TyI} {fs : Array Field} {f : Field} (h : lk Z.T st ty x=some (g, .v (.agg cs))) (hg : gate=true→g=true)
  (hu : Z.P.underlying t=some (.struct fs)) (hf : fs[i]? = some f) (htf : f.type=tf) (hoff : f.offset=off) (htj : tyAt Z.T tf=some tj) (hagg : tj.agg=false) (hc : cs[off]? = some c) : PureOk Z st (.field t x i) ty gate (.v (.c c)):=by
 intro o E G a w ho _ hr hgt
 obtain ⟨vs,hv,hall⟩:=F4 hr h (hg hgt)
 obtain ⟨v,hv',hcr⟩:=hall.get off c hc
 obtain ⟨_,d,zv,_,hd,_,hrow,_⟩:=(Z.tyOk htj).info
 have hA : (isAgg f.type).run Z.P w = .ok false w:=by
  unfold isAgg underlying
  rw[hagg] at hrow
  rw[htf]
  cases d <;> simp_all
 exact ⟨v,hcr,by simp [execOp,ho,hv,Instr.field,underlying,hu,hf,asAgg,part,hA,hoff,hv']⟩
end
end Go.Abs
namespace Go.Abs
variable {Z : Pg}
theorem X0 (b : Nat) : ∀ (vs : List Value) (o : Nat) (w : World),(∀ j,j < vs.length→(w.cell? ⟨b,o + j,none⟩).isSome=true) →
  (w.setCells b o vs).os=w.os∧(w.setCells b o vs).tape=w.tape∧(w.setCells b o vs).output=w.output∧(w.setCells b o vs).heap.size=w.heap.size ∧
  (∀ k,k≠b→(w.setCells b o vs).heap[k]? = w.heap[k]?)∧(∀ c p,¬ (c=b∧o≤p∧p < o + vs.length)→(w.setCells b o vs).cell? ⟨c,p,none⟩=w.cell? ⟨c,p,none⟩) ∧
  (∀ (j : Nat) (v : Value),vs[j]? = some v→(w.setCells b o vs).cell? ⟨b,o + j,none⟩=some v)∧(∀ c,L0 (w.setCells b o vs) c=L0 w c)∧(∀ c,(w.setCells b o vs).shape? c=w.shape? c)
 | [],o,w,_=>⟨rfl,rfl,rfl,rfl,fun _ _=>rfl,fun _ _ _=>rfl,fun j v h=>by simp at h,fun _=>rfl,fun _=>rfl⟩
 | v :: r,o,w,h=>by
  have h0:=h 0 (by simp)
  obtain ⟨u,hu⟩:=Option.isSome_iff_exists.1 h0
  obtain ⟨h1,h2,h3,h4,h5,h6,h7,h8,h9⟩:=X0 b r (o + 1) (w.setCell ⟨b,o,none⟩ v) (fun j hj=>by
   rw[World.cell?_setCell_other _ _ _ _ (by simp; omega)]
   have := h (j + 1) (by simp; omega)
   rwa [show o + (j + 1)=o + 1 + j by omega] at this)
  simp only [World.setCells]
  refine ⟨h1,h2,h3,by rw[h4]; simp,fun k hk=>?_,fun c p hcp=>?_,fun j x hj=>?_,fun a=>by rw[h8]; exact V7 _ _ _ _,fun c=>by rw[h9,M7]⟩
  ·rw[h5 k hk,RowKit.Below.heap_setCell _ _ _ _ (by simpa using hk)]
  ·simp only [List.length_cons] at hcp
   rw[h6 c p (by omega),World.cell?_setCell_other]
   intro he; simp at he; omega
  ·cases j with
   | zero =>
    simp at hj; subst hj
    show ((w.setCell { block:=b,off:=o } v).setCells b (o + 1) r).cell? ⟨b,o,none⟩=some v
    rw[h6 b o (by omega)]
    exact World.cell?_setCell_same _ _ _ hu
   | succ j =>
    have := h7 j x (by simpa using hj)
    rwa [show o + 1 + j=o + (j + 1) by omega] at this
theorem St.unown_sub (st : St) (p : Pl) : Sub (st.unown p) st where
 t:=fun _ _ q=>q
 bx:=fun _ _ q=>q
 ow:=fun q s hq=>by
  rw[St.unown_own] at hq; split at hq
  ·simp at hq
  ·exact hq
theorem Rel.write {E : Env} {G : Gh} {st : St} {a : Act} {w w1 : World} {p : Pl} {F : Nat→Nat→Prop} [∀ b o,Decidable (F b o)] (h : Rel E G st a w) (hF : ∀ b o,F b o→G.W b o = .own p)
  (h1 : w1.os=w.os) (h2 : w1.tape=w.tape) (h3 : w1.output=w.output) (h4 : w1.heap.size=w.heap.size) (h5 : ∀ b,(∀ o,¬ F b o)→w1.heap[b]? = w.heap[b]?)
  (h6 : ∀ b o,¬ F b o→w1.cell? ⟨b,o,none⟩=w.cell? ⟨b,o,none⟩) (h8 : ∀ b,L0 w1 b=L0 w b) (h9 : ∀ b,w1.shape? b=w.shape? b) :
  Rel E { G with W:=fun b o=>if F b o then .imm else G.W b o } (st.unown p) a w1:=by
 have hnF : ∀ b o,G.W b o ≠ .own p → ¬ F b o:=fun b o hn hf=>hn (hF b o hf)
 have hS : ∀ b o,G.S b o→Gh.S { G with W:=fun b o=>if F b o then .imm else G.W b o } b o:=fun b o hs=>by
  unfold Gh.S at *
  dsimp only
  split
  ·rfl
  ·exact hs
 have hc : ∀ b o,G.S b o→w1.cell? ⟨b,o,none⟩=w.cell? ⟨b,o,none⟩:=fun b o hs=>h6 b o (hnF b o (by unfold Gh.S at hs; rw[hs]; simp))
 constructor
 ·exact h.df
 ·intro k g x hk
  obtain ⟨u,hu,q1,q2⟩:=h.tm k g x hk
  exact ⟨u,hu,fun hg=>(q1 hg).mono hS hc (fun _ _=>rfl),q2⟩
 ·intro n cs hn j c hj
  obtain ⟨q1,q2,u,q3,q4⟩:=h.bx n cs hn j c hj
  have hnf:=hnF _ _ (by rw[q1]; simp : G.W (G.A n).1 ((G.A n).2 + j) ≠ .own p)
  exact ⟨by dsimp only; rw[if_neg hnf]; exact q1,by rw[O5 (h8 _)]; exact q2,u,by rw[h6 _ _ hnf]; exact q3,q4.mono hS hc⟩
 ·intro r s hr
  rw[St.unown_own] at hr
  split at hr
  ·simp at hr
  ·rename_i hrp
   obtain ⟨u,hu,ho⟩:=h.ow r s hr
   refine ⟨u,?_,?_⟩
   ·cases r with
    | t k=>exact hu
    | b n off =>
     have hnf:=hnF _ _ (by rw[hu.2]; simp : G.W (G.A n).1 ((G.A n).2 + off) ≠ .own p)
     exact ⟨by rw[h6 _ _ hnf]; exact hu.1,by dsimp only; rw[if_neg hnf]; exact hu.2⟩
   ·rcases ho with ho | ⟨blk,len,cap,e,q1,q2,q3,q4⟩
    ·exact .inl ho
    ·refine .inr ⟨blk,len,cap,e,q1,q2,⟨by rw[h9]; exact q3.1,by rw[h8]; exact q3.2⟩,fun o ho1 ho2=>?_⟩
     obtain ⟨q5,q6⟩:=q4 o ho1 ho2
     have hnf:=hnF blk o (by rw[q5]; intro e; injection e with e; exact hrp e)
     exact ⟨by dsimp only; rw[if_neg hnf]; exact q5,by rw[O5 (h8 _)]; exact q6⟩
 ·intro b o hb
  rw[h4]
  dsimp only at hb
  split at hb
  ·rename_i hf; exact h.wf b o (by rw[hF b o hf]; simp)
  ·exact h.wf b o hb
 ·intro b o n hb hn
  dsimp only at hn
  split at hn
  ·simp at hn
  ·exact h.olB b o n hb hn
 ·intro b o q hb hn
  dsimp only at hn
  split at hn
  ·simp at hn
  ·exact h.olO b o q hb hn
 ·exact h.nt
 ·exact h.oA
 ·intro b o hi; exact hS b o (h.im b o hi)
 ·intro b o hb hi
  dsimp only at hi
  split at hi
  ·rename_i hf
   exact .inr (h.olO b o p hb (hF b o hf))
  ·exact h.im' b o hb hi
 ·refine h.fr.trans ⟨h1,h2,h3,by rw[h4]; exact Nat.le_refl _,?_,?_,fun b _=>h8 _,fun b _=>h9 _⟩
  ·intro b hb hM
   refine h5 b fun o hf=>hM o (.inr ?_)
   exact h.olO b o p hb (hF b o hf)
  ·intro b o hb hM
   refine h6 b o fun hf=>hM (.inr ?_)
   exact h.olO b o p hb (hF b o hf)
 ·exact h.hB
 ·intro b o hb
  dsimp only
  split
  ·exact ⟨fun n=>by simp,fun q=>by simp⟩
  ·exact h.lo b o hb
 ·intro t k cs hn hne
  obtain ⟨q1,q2,x,q3,q4⟩:=h.bd t k cs hn hne
  obtain ⟨c0,hc0⟩ : ∃ c0,cs[0]? = some c0:=by
   cases cs with
   | nil=>exact absurd J hne
   | cons c0 r=>exact ⟨c0,rfl⟩
  obtain ⟨r1,_⟩:=h.bx _ cs hn 0 c0 hc0
  rw[q1] at r1
  refine ⟨q1,by rw[h9]; exact q2,x,?_,q4⟩
  dsimp only
  rw[h6 _ _ (hnF _ _ (by rw[r1]; simp))]
  exact q3
 ·intro x hx
  obtain ⟨q1,q2,q3⟩:=h.mp x hx
  refine ⟨q1.of_same (h5 _ fun o hf=>(q3 o).2 p (hF _ o hf)),q2,fun o=>?_⟩
  dsimp only
  split
  ·exact ⟨fun n=>by simp,fun q=>by simp⟩
  ·exact q3 o
theorem Cx {w : World} {S : Nat→Nat→Prop} {sz : Nat} {es : List (List C)} {blk off len cap : Nat} (h : CRep w S (.sl sz es) (.slice (some ⟨blk,off,none⟩) len cap)) :
  ∃ vs : List Value,vs.length=len * sz∧(∀ (j : Nat) (v : Value),vs[j]? = some v→w.cell? ((⟨blk,off,none⟩ : Addr).add j)=some v)∧(∀ v ∈ vs,v.oneCell'=true) ∧
   ∀ (i j : Nat) (row : List C) (c : C),es[i]? = some row→row[j]? = some c → ∃ v,vs[i * sz + j]? = some v∧CRep w S c v:=by
 obtain ⟨hl,_,_,hel⟩:=h.elem
 obtain ⟨vs,h1,h2⟩:=Al (R:=fun k v=>w.cell? ⟨blk,off + k,none⟩=some v ∧ ∃ row c,es[k / sz]? = some row∧row[k % sz]? = some c∧CRep w S c v) (len * sz) fun k hk=>by
  have hsz : 0 < sz:=by
   rcases Nat.eq_zero_or_pos sz with h0 | h0
   ·rw[h0,Nat.mul_zero] at hk; omega
   ·exact h0
  have hi : k / sz < es.length:=by rw[hl]; exact (Nat.div_lt_iff_lt_mul hsz).2 hk
  obtain ⟨q1,q2⟩:=hel (k / sz) _ (List.getElem?_eq_getElem hi)
  have hj : k % sz < (es[k / sz]).length:=by rw[q1]; exact Nat.mod_lt _ hsz
  obtain ⟨_,v,q3,q4⟩:=q2 (k % sz) _ (List.getElem?_eq_getElem hj)
  refine ⟨v,?_,_,_,List.getElem?_eq_getElem hi,List.getElem?_eq_getElem hj,q4⟩
  rw[show off + k / sz * sz + k % sz=off + k by rw[Nat.mul_comm,Nat.add_assoc,Nat.div_add_mod]] at q3
  exact q3
 refine ⟨vs,h1,fun j v hj=>by rw[Q1]; exact (h2 j v hj).1,fun v hv=>?_,fun i j row c hi hj=>?_⟩
 ·obtain ⟨j,hj⟩:=List.getElem?_of_mem hv
  obtain ⟨_,row,c,_,_,hc⟩:=h2 j v hj
  exact hc.one
 ·have hrow:=(hel i row hi).1
  have hjl : j < sz:=by rw[← hrow]; exact (List.getElem?_eq_some_iff.1 hj).1
  have hil : i < len:=by rw[← hl]; exact (List.getElem?_eq_some_iff.1 hi).1
  have hlt : i * sz + j < vs.length:=by
   rw[h1]
   have : (i + 1) * sz≤len * sz:=Nat.mul_le_mul_right sz hil
   rw[Nat.add_mul] at this; omega
  refine ⟨_,List.getElem?_eq_getElem hlt,?_⟩
  obtain ⟨_,row',c',q1,q2,q3⟩:=h2 _ _ (List.getElem?_eq_getElem hlt)
  have hd : (i * sz + j) / sz=i:=by
   rw[Nat.mul_comm,Nat.mul_add_div (by omega),Nat.div_eq_of_lt hjl,Nat.add_zero]
  have hm : (i * sz + j) % sz=j:=by rw[Nat.mul_comm,Nat.mul_add_mod,Nat.mod_eq_of_lt hjl]
  rw[hd,hi] at q1
  simp only [Option.some.injEq] at q1; subst q1
  rw[hm,hj] at q2
  simp only [Option.some.injEq] at q2; subst q2
  exact q3
theorem Rel.newRow {E : Env} {G : Gh} {st : St} {a : Act} {w : World} (h : Rel E G st a w) (p : Pl) {cells : Array Value} {e : TypeId} (hpe : ∀ t k o,p = .b (.bd t k) o→e=t % 4096) {sz len cap : Nat} {es : List (List C)} (hc : len≤cap) (hm : len≤9223372036854775807) (hsz : cells.size=cap * sz) (hl : es.length=len)
  (hrow : ∀ (i : Nat) (row : List C),es[i]? = some row→row.length=sz)
  (hrep : ∀ (i j : Nat) (row : List C) (c : C),es[i]? = some row→row[j]? = some c → ∃ v,cells[i * sz + j]? = some v∧CRep w G.S c v) :
  ∃ G1,G1.A=G.A∧Rel E G1 (st.unown p) a (w.drew.alloc (.cells cells e))∧CRep (w.drew.alloc (.cells cells e)) G1.S (.sl sz es) (.slice (some ⟨w.heap.size,0,none⟩) len cap) ∧
   OwnAt E.C (w.drew.alloc (.cells cells e)) G1 p sz (.slice (some ⟨w.heap.size,0,none⟩) len cap):=by
 let f : Nat→Who:=fun o=>if o < len * sz then .imm else if o < cap * sz then .own p else .none
 let G1:=G.push w.heap.size f
 have hfr : Fr (fun _ _=>False) w.heap.size w (w.drew.alloc (.cells cells e)):=by
  have h1:=Bt w.drew (.cells cells e)
  exact ⟨h1.os,h1.tape,h1.output,h1.size,h1.block,h1.cell,h1.mark,h1.shape⟩
 have hS : ∀ b o',G.S b o'→G1.S b o':=fun b o' hs=>by
  have hb:=h.wf b o' (by unfold Gh.S at hs; rw[hs]; simp)
  have : ¬ b=w.heap.size:=by omega
  unfold Gh.S at *
  simp [G1,Gh.push,this,hs]
 have hcell : ∀ b o',G.S b o'→(w.drew.alloc (.cells cells e)).cell? ⟨b,o',none⟩=w.cell? ⟨b,o',none⟩:=fun b o' hs =>
  hfr.cell b o' (h.wf b o' (by unfold Gh.S at hs; rw[hs]; simp)) (fun x=>x)
 have hnew : ∀ i,(w.drew.alloc (.cells cells e)).cell? ⟨w.heap.size,i,none⟩=cells[i]? := fun i=>World.cell?_alloc_new w.drew cells e i
 refine ⟨G1,rfl,?_,?_,?_⟩
 ·refine (h.sub (st.unown_sub p)).grow hfr ?_ (SameA.refl _ _) ?_
  ·intro b o' hb
   have : ¬ b=w.heap.size:=by omega
   simp [G1,Gh.push,this]
  ·intro b o' hne
   simp only [G1,Gh.push] at hne
   split at hne
   ·rename_i hb; subst hb; simp
   ·have := h.wf b o' hne; simp; omega
 ·refine CRep.mk_sl hl hc hm fun i row hi=>⟨hrow i row hi,fun j c hj=>?_⟩
  obtain ⟨v,hv,hcr⟩:=hrep i j row c hi hj
  have hjl : j < sz:=by rw[← hrow i row hi]; exact (List.getElem?_eq_some_iff.1 hj).1
  have hil : i < len:=by rw[← hl]; exact (List.getElem?_eq_some_iff.1 hi).1
  have hlt : i * sz + j < len * sz:=by
   have : (i + 1) * sz≤len * sz:=Nat.mul_le_mul_right sz hil
   rw[Nat.add_mul] at this; omega
  refine ⟨by simp [Gh.S,G1,Gh.push,f,hlt],v,?_,hcr.mono hS hcell⟩
  rw[Nat.zero_add,hnew]
  exact hv
 ·refine .inr ⟨w.heap.size,len,cap,e,rfl,⟨hc,Nat.le_trans E.C_le (Nat.le_trans h.hB h.fr.size),hpe⟩,⟨?_,Fa w.drew cells e _⟩,fun o' h1 h2=>?_⟩
  ·unfold World.shape?
   rw[show (w.drew.alloc (.cells cells e)).heap[w.heap.size]? = some (.cells cells e) from Array.getElem?_push_size]
   simp [hsz]
  ·have hn : ¬ o' < len * sz:=by omega
   exact ⟨by simp [G1,Gh.push,f,hn,h2],World.frozen?_alloc_new w.drew cells e o'⟩
theorem Nk {es xs : List (List C)} {sz : Nat} {olds news : List Value} {R : C→Value→Prop} (ho : olds.length=es.length * sz)
  (h1 : ∀ (i j : Nat) (row : List C) (c : C),es[i]? = some row→row[j]? = some c → ∃ v,olds[i * sz + j]? = some v∧R c v)
  (h2 : ∀ (i j : Nat) (row : List C) (c : C),xs[i]? = some row→row[j]? = some c → ∃ v,news[i * sz + j]? = some v∧R c v) (rest : Array Value) :
  ∀ (i j : Nat) (row : List C) (c : C),(es++xs)[i]? = some row→row[j]? = some c → ∃ v,(olds.toArray++news.toArray++rest)[i * sz + j]? = some v∧R c v:=by
 intro i j row c hi hj
 have key : ∀ (m : Nat) (v : Value),(olds++news)[m]? = some v→(olds.toArray++news.toArray++rest)[m]? = some v:=by
  intro m v hm
  have hlt:=(List.getElem?_eq_some_iff.1 hm).1
  rw[Array.getElem?_append_left (by simpa using hlt)]
  simpa using hm
 rw[List.getElem?_append] at hi
 split at hi
 ·rename_i hlt
  obtain ⟨v,hv,hr⟩:=h1 i j row c hi hj
  refine ⟨v,key _ _ ?_,hr⟩
  rw[List.getElem?_append_left (List.getElem?_eq_some_iff.1 hv).1]
  exact hv
 ·rename_i hge
  obtain ⟨v,hv,hr⟩:=h2 _ j row c hi hj
  refine ⟨v,key _ _ ?_,hr⟩
  have : i * sz + j=olds.length + ((i - es.length) * sz + j):=by
   rw[ho,Nat.sub_mul]
   have : es.length * sz≤i * sz:=Nat.mul_le_mul_right sz (by omega)
   omega
  rw[this,List.getElem?_append_right (by omega),Nat.add_sub_cancel_left]
  exact hv
section
variable {N : Nat} {st : St} {ty : TypeId}
def St.app (st : St) (d k : Nat) (sz : Nat) (es : List (List C)) : St:=((st.put d (true, .v (.c (.sl sz es)))).unown (.t k)).addOwn (.t d) sz
theorem F7 {d k : Nat} {x : Operand} {t : TypeId} {sz e by' : Nat} {es xs : List (List C)} {ti : TyI} (hs : st.get k=some (true, .v (.c (.sl sz es)))) (hw : st.own (.t k)=some sz) (hx : lk Z.T st t x=some (true, .v (.c (.sl sz xs))))
  (ht : tyAt Z.T t=some ti) (hel : ti.el=some (e,sz,by')) (hN : Nat.ble (d + 1) N=true) (hkd : Nat.beq k d=false) (hbig : (es.length + xs.length) * by'≤140737488355328) (hmax : es.length + xs.length≤9223372036854775807) :
  Does Z N st (some d) (.call { callee:=.builtin .append,args:=#[.tmp k,x],argTypes:=#[t,t] }) ty (st.app d k sz (es++xs)):=by
 intro o E G a w hd ho _ hr hE K Q hK
 have hdN : d < E.nt:=by rw[hE.nt]; exact Nat.le_of_ble_eq_true hN
 have hkd' : ¬ d=k:=fun e=>by subst e; simp at hkd
 obtain ⟨hu,jf,ze,hinfo,hsz,hby,hsz0,hze,hzec⟩:=(Z.tyOk ht).sl e sz by' hel
 have hpos : 0 < sz:=by omega
 obtain ⟨v,hv,hv1,_⟩:=hr.tm k true _ hs
 have hcr : CRep w G.S (.sl sz es) v:=hv1 J
 obtain ⟨v',hv',hown⟩:=hr.ow _ _ hw
 have : v'=v:=by
  have hv2 : a.tmps[k]? = some v':=hv'
  rw[hv] at hv2; simpa using hv2.symm
 subst this
 have hxr : CRep w G.S (.sl sz xs) (a.eval x):=F4 hr hx J
 have hev : a.eval (.tmp k)=v':=by simp [Act.eval,Array.getD_eq_getD_getElem?,hv]
 have hexec : (execOp a.eval o).run Z.P w=((Builtin.append_ #[t,t] o.type #[v',a.eval x]).run Z.P w).andThen fun u w'=>.ok (.value u) w':=by
  simp [execOp,ho,Go.resolve,invoke,builtin,hev]
 have done : ∀ (G1 : Gh) (w1 : World) (u : Value),(Builtin.append_ #[t,t] o.type #[v',a.eval x]).run Z.P w = .ok u w1→Rel E G1 (st.unown (.t k)) a w1→CRep w1 G1.S (.sl sz (es++xs)) u→OwnAt E.C w1 G1 (.t k) sz u→o.wp Z.P a w K Q:=by
  intro G1 w1 u hrun hrel hc ho'
  unfold Oper.wp
  rw[hexec,hrun]
  simp only [Result.andThen_ok]
  rw[Oper.upon_value,hd]
  have hput:=hrel.put hdN (g:=true) (x:=.v (.c (.sl sz (es++xs)))) (v:=u) (fun _=>hc) (fun hf=>by simp at hf)
  have := hput.relabel (q := .t d) ho' (by rw[St.put_own,if_pos J]) (by
   show (a.put (some d) u).tmps[d]? = _
   rw[K2 (by rw[hr.nt]; exact hdN)]; simp)
  refine hK (G1.relabel (.t k) (.t d)) u w1 (Rel.sub (st:=(((st.unown (.t k)).put d (true, .v (.c (.sl sz (es++xs))))).unown (.t k)).addOwn (.t d) sz) ⟨fun _ _ q=>q,fun _ _ q=>q,?_, .inr J⟩ this)
  intro r s hrs
  unfold St.app at hrs
  rw[St.addOwn_own] at hrs
  rw[St.addOwn_own]
  split at hrs
  ·rename_i he; rw[if_pos he]; exact hrs
  ·rename_i he
   rw[if_neg he]
   rw[St.unown_own,St.put_own] at hrs
   rw[St.unown_own,St.put_own,St.unown_own]
   split at hrs
   ·simp at hrs
   ·rename_i hk; rw[if_neg hk,if_neg hk]; exact hrs
 have hunown : Rel E G (st.unown (.t k)) a w:=hr.sub (st.unown_sub _)
 rcases CRep.sl_cases hxr with ⟨xa,hxv,rfl⟩ | ⟨xb,xo,m,mc,hxv,hxl⟩
 ·-- nothing is appended
  obtain ⟨base,len,cap,hveq,hlc⟩ : ∃ base len cap,v' = .slice base len cap∧len≤cap:=by
   rcases CRep.sl_cases hcr with ⟨_,h1,_⟩ | ⟨b1,o1,l1,c1,h1,_⟩
   ·exact ⟨_,_,_,h1,Nat.le_refl _⟩
   ·rw[h1] at hcr; exact ⟨_,_,_,h1,hcr.elem.2.1⟩
  refine done G w v' ?_ hunown (by simpa using hcr) hown
  subst hveq
  cases base with
  | none=>cases xa <;> simp [Builtin.append_,hxv,underlying,hu,sizeOf,typeInfo,hinfo,Builtin.lenOf,hlc,Builtin.firstCells,loadCells,loadCellsFrom]
  | some b=>cases xa <;> simp [Builtin.append_,hxv,underlying,hu,sizeOf,typeInfo,hinfo,Builtin.lenOf,hlc,Builtin.firstCells,storeCells,loadCells,loadCellsFrom]
 ·rw[hxv] at hxr hexec done
  obtain ⟨news,hnl,hncell,hnone,hnrep⟩:=Cx hxr
  subst hxl
  have hexl : (es++xs).length=es.length + xs.length:=List.length_append
  have hcase : (v' = .slice none 0 0∧es=[]) ∨ ∃ blk off len cap,v' = .slice (some ⟨blk,off,none⟩) len cap∧es.length=len:=by
   rcases CRep.sl_cases hcr with ⟨ca,hvn,hes⟩ | h
   ·rcases hown with hn | ⟨blk2,len2,cap2,e2,hv2,_⟩
    ·exact .inl ⟨hn,hes⟩
    ·refine .inr ⟨blk2,0,len2,cap2,hv2,?_⟩
     rw[hvn] at hv2
     simp only [Value.slice.injEq] at hv2
     rw[hes,← hv2.2.1]; rfl
   ·exact .inr h
  rcases hcase with ⟨hvn,rfl⟩ | ⟨blk,off,len,cap,hvs,hlen⟩
  ·subst hvn
   by_cases hm : xs.length=0
   ·have hx0 : xs=[]:=List.eq_nil_of_length_eq_zero hm
    subst hx0
    refine done G w (.slice none 0 0) ?_ hunown (CRep.nil sz) (.inl J)
    simp [Builtin.append_,underlying,hu,sizeOf,typeInfo,hinfo,Builtin.lenOf,Builtin.firstCells,loadCells,loadCellsFrom]
   ·have hrun:=run_append_nil (P:=Z.P) w t o.type e jf ze hu hinfo hze ⟨xb,xo,none⟩ xs.length mc news (by rw[hnl,hsz]) hncell (by omega) (by omega) (by rw[hby]; simp only [List.length_nil,Nat.zero_add] at hbig; omega)
    have hge:=grownCap_ge w xs.length 0 e
    obtain ⟨G1,_,q1,q2,q3⟩:=hr.newRow (.t k) (e:=e) (fun _ _ _ hh=>by simp at hh) (sz:=sz) (len:=xs.length) (cap:=grownCap w xs.length 0 e) (es:=xs) (cells:=news.toArray++Builtin.zeroCells ze.cells (grownCap w xs.length 0 e - xs.length)) hge
     (by simpa using hmax) (by simp only [Array.size_append,List.size_toArray,size_zeroCells,hzec,hnl,← Nat.add_mul]; congr 1; omega) J (fun i row hi=>(hxr.elem.2.2.2 i row hi).1) (fun i j row c hi hj=>by
      obtain ⟨v,hv,hrep⟩:=hnrep i j row c hi hj
      refine ⟨v,?_,hrep⟩
      rw[Array.getElem?_append_left (by simpa using (List.getElem?_eq_some_iff.1 hv).1)]
      simpa using hv)
    exact done G1 _ _ hrun q1 (by simpa using q2) q3
  ·subst hvs
   subst hlen
   obtain ⟨olds,hol,hocell,_,horep⟩:=Cx hcr
   by_cases hroom : es.length + xs.length≤cap
   ·-- in place
    rcases hown with ha0 | ⟨blk2,len2,cap2,e2,hv2,hlc2,⟨hshape,hfr0⟩,hspare⟩
    ·simp at ha0
    ·simp only [Value.slice.injEq,Option.some.injEq,Addr.mk.injEq] at hv2
     obtain ⟨⟨rfl,rfl,_⟩,rfl,rfl⟩:=hv2
     have hfit : (es.length + xs.length) * sz≤cap * sz:=Nat.mul_le_mul_right _ hroom
     rw[Nat.add_mul] at hfit
     have hsome : ∀ j,j < news.length→(w.cell? ⟨blk,es.length * sz + j,none⟩).isSome=true:=by
      intro j hj
      unfold World.shape? at hshape
      unfold World.cell?
      split at hshape
      ·rename_i c e3 fz hheap
       simp only [Option.some.injEq,Prod.mk.injEq] at hshape
       obtain ⟨_,hcs⟩:=hshape
       simp only [hheap]
       simp
       omega
      ·simp at hshape
     have hst:=run_storeCells_cells (P:=Z.P) blk (es.length * sz) news 0 w (by simpa using hsome) (fun j hj=>by
      simpa using (hspare (es.length * sz + j) (by omega) (by omega)).2) hnone
     rw[Nat.add_zero] at hst
     obtain ⟨f1,f2,f3,f4,f5,f6,f7,f8,f9⟩:=X0 blk news (es.length * sz) w hsome
     have hrun : (Builtin.append_ #[t,t] o.type #[.slice (some ⟨blk,0,none⟩) es.length cap, .slice (some ⟨xb,xo,none⟩) xs.length mc]).run Z.P w = .ok (.slice (some ⟨blk,0,none⟩) (es.length + xs.length) cap) (w.setCells blk (es.length * sz) news):=by
      have hf:=run_firstCells_some (P:=Z.P) w sz xs.length ⟨xb,xo,none⟩ xs.length mc news hnl hncell
      simp [Builtin.append_,run_underlying hu,sizeOf,typeInfo,hinfo,hsz,Builtin.lenOf,hroom,hf,Q1,hst]
     let F : Nat→Nat→Prop:=fun b o=>b=blk∧es.length * sz≤o∧o < es.length * sz + news.length
     have hF : ∀ b o,F b o→G.W b o = .own (.t k):=by
      rintro b o ⟨rfl,h1,h2⟩
      exact (hspare o h1 (by omega)).1
     have hrel:=hr.write (F:=F) (w1:=w.setCells blk (es.length * sz) news) hF f1 f2 f3 f4 (fun b hb=>by
       by_cases hbb : b=blk
       ·subst hbb
        by_cases hz : news.length=0
        ·have hn0 : news=[]:=List.eq_nil_of_length_eq_zero hz
         rw[hn0]; rfl
        ·exact absurd ⟨rfl,Nat.le_refl _,by omega⟩ (hb (es.length * sz))
       ·exact f5 b hbb) (fun b o hb=>f6 b o hb) f8 f9
     have hnF : ∀ b o,G.S b o → ¬ F b o:=fun b o hs hf=>by
      unfold Gh.S at hs; rw[hF b o hf] at hs; simp at hs
     have hS : ∀ b o,G.S b o→Gh.S { G with W:=fun b o=>if F b o then .imm else G.W b o } b o:=fun b o hs=>by
      have := hnF b o hs
      unfold Gh.S at *
      dsimp only
      rw[if_neg this]; exact hs
     have hc : ∀ b o,G.S b o→(w.setCells blk (es.length * sz) news).cell? ⟨b,o,none⟩=w.cell? ⟨b,o,none⟩:=fun b o hs=>f6 b o (hnF b o hs)
     refine done _ _ _ hrun hrel (CRep.mk_sl hexl hroom hmax fun i row hi=>?_) (.inr ⟨blk,es.length + xs.length,cap,e2,rfl,⟨hroom,hlc2.2⟩,⟨by rw[f9]; exact hshape,by rw[f8]; exact Ih hfr0 (by rw[Nat.add_mul]; omega)⟩,fun o' h1 h2=>?_⟩)
     ·rw[List.getElem?_append] at hi
      split at hi
      ·obtain ⟨q1,q2⟩:=hcr.elem.2.2.2 _ row hi
       exact ⟨q1,q2.mono hS hc⟩
      ·rename_i hge
       obtain ⟨q1,_⟩:=hxr.elem.2.2.2 _ row hi
       refine ⟨q1,fun j c hj=>?_⟩
       obtain ⟨v,hv,hrep⟩:=hnrep _ j row c hi hj
       have hlt:=(List.getElem?_eq_some_iff.1 hv).1
       have hidx : 0 + i * sz + j=es.length * sz + ((i - es.length) * sz + j):=by
        rw[Nat.sub_mul]
        have : es.length * sz≤i * sz:=Nat.mul_le_mul_right sz (by omega)
        omega
       rw[hidx]
       refine ⟨?_,v,f7 _ v hv,hrep.mono hS hc⟩
       unfold Gh.S
       dsimp only
       rw[if_pos ⟨rfl,by omega,by omega⟩]
     ·rw[Nat.add_mul] at h1
      obtain ⟨q5,q6⟩:=hspare o' (by omega) h2
      refine ⟨?_,by rw[O5 (f8 _)]; exact q6⟩
      dsimp only
      rw[if_neg (by rintro ⟨_,_,h3⟩; omega)]
      exact q5
   ·have hrun:=run_append_grow (P:=Z.P) w t o.type e jf ze hu hinfo hze ⟨blk,off,none⟩ es.length cap olds (by rw[hol,hsz]) hocell ⟨xb,xo,none⟩ xs.length mc news (by rw[hnl,hsz]) hncell (by omega) (by omega) (growslice_fits (by omega) (by rw[hby]; exact hbig))
    have hge:=grownCap_ge w (es.length + xs.length) cap e
    obtain ⟨G1,_,q1,q2,q3⟩:=hr.newRow (.t k) (e:=e) (fun _ _ _ hh=>by simp at hh) (sz:=sz) (len:=es.length + xs.length) (cap:=grownCap w (es.length + xs.length) cap e) (es:=es++xs) (cells:=olds.toArray++news.toArray++Builtin.zeroCells ze.cells (grownCap w (es.length + xs.length) cap e - (es.length + xs.length))) hge
     hmax (by simp only [Array.size_append,List.size_toArray,size_zeroCells,hzec,hnl,hol,← Nat.add_mul]; congr 1; omega) hexl (fun i row hi=>by
      rw[List.getElem?_append] at hi
      split at hi
      ·exact (hcr.elem.2.2.2 _ row hi).1
      ·exact (hxr.elem.2.2.2 _ row hi).1) (Nk hol horep hnrep _)
    exact done G1 _ _ hrun q1 q2 q3
end
end Go.Abs
namespace Go.Abs
variable {Z : Pg}
structure Eff where
 d : Option (Nat × Bool × X):=none
 b : Option (Nm × List C):=none
 b2 : Option (Nm × List C):=none
 drop : List Pl:=[]
 gain : Option (Pl × Nat):=none
structure Foot where
 rt : List Nat:=[]
 rb : List Nm:=[]
 ro : List Pl:=[]
 rn : List (Nm × Bool):=[]
def Eff.gt (e : Eff) (k : Nat) : Option (Bool × X):=match e.d with
 | some (d,x)=>if d=k then some x else none
 | none=>none
def Eff.gb (e : Eff) (n : Nm) : Option (List C):=match e.b with
 | some (m,cs)=>if m=n then some cs else (match e.b2 with | some (m2,ds)=>if m2=n then some ds else none | none=>none)
 | none=>none
def Eff.go (e : Eff) (p : Pl) : Option (Option Nat):=match e.gain with
 | some (q,sz)=>if q=p then some (some sz) else if p ∈ e.drop then some none else none
 | none=>if p ∈ e.drop then some none else none
def Eff.keeps (e : Eff) (p : Pl) : Bool:=!(e.drop.any (Pl.beq p)) && (match e.gain with | some (q,_)=>!Pl.beq p q | none=>true)
def ap (e : Eff) (s : St) : St :=
 {t:=(match e.d with | some (d,x)=>(d,x) :: s.t | none=>s.t),
  bx:=(match e.b with | some (n,cs)=>(n,cs) :: (match e.b2 with | some (m,ds)=>(m,ds) :: s.bx | none=>s.bx) | none=>s.bx),
  ow:=(match e.gain with | some (p,sz)=>(p,sz) :: s.ow.filter (fun q=>e.keeps q.1) | none=>s.ow.filter (fun q=>e.keeps q.1)),mp:=s.mp }
theorem P7 (e : Eff) (s : St) (k : Nat) : (ap e s).get k=match e.gt k with | some x=>some x | none=>s.get k:=by
 unfold ap St.get Eff.gt
 cases hd : e.d with
 | none=>rfl
 | some dx =>
  obtain ⟨d,x⟩:=dx
  dsimp only
  rw[J9]
  by_cases h : d=k
  ·simp [h]
  ·simp [h]
theorem Q8 (e : Eff) (s : St) (n : Nm) : (ap e s).box n=match e.gb n with | some x=>some x | none=>s.box n:=by
 unfold ap St.box Eff.gb
 cases hd : e.b with
 | none=>rfl
 | some dx =>
  obtain ⟨d,x⟩:=dx
  dsimp only
  rw[G6]
  by_cases h : d=n
  ·simp [h]
  ·rw[if_neg h,if_neg h]
   cases hd2 : e.b2 with
   | none=>rfl
   | some dy =>
    obtain ⟨d2,y⟩:=dy
    dsimp only
    rw[G6]
    by_cases h2 : d2=n
    ·simp [h2]
    ·simp [h2]
theorem any_beq {l : List Pl} {p : Pl} : l.any (Pl.beq p)=true ↔ p ∈ l:=by
 rw[List.any_eq_true]
 constructor
 ·rintro ⟨q,hq,h⟩; rw[Pl.beq_iff] at h; subst h; exact hq
 ·intro h; exact ⟨p,h,Pl.beq_self p⟩
theorem O8 (e : Eff) (s : St) (p : Pl) : (ap e s).own p=match e.go p with | some x=>x | none=>s.own p:=by
 unfold ap St.own Eff.go
 cases hg : e.gain with
 | none =>
  dsimp only
  rw[L6 e.keeps]
  unfold Eff.keeps
  rw[hg]
  by_cases h : p ∈ e.drop
  ·simp [h,any_beq.2 h]
  ·have : e.drop.any (Pl.beq p)=false:=by
    cases hb : e.drop.any (Pl.beq p) with
    | false=>rfl
    | true=>exact absurd (any_beq.1 hb) h
   simp [h,this]
 | some g =>
  obtain ⟨q,sz⟩:=g
  dsimp only
  rw[L9]
  by_cases hq : q=p
  ·simp [hq]
  ·rw[if_neg hq,if_neg hq,L6 e.keeps]
   unfold Eff.keeps
   rw[hg]
   have hpq : Pl.beq p q=false:=Pl.beq_ne fun e=>hq e.symm
   by_cases h : p ∈ e.drop
   ·simp [h,any_beq.2 h]
   ·have : e.drop.any (Pl.beq p)=false:=by
     cases hb : e.drop.any (Pl.beq p) with
     | false=>rfl
     | true=>exact absurd (any_beq.1 hb) h
    simp [h,this,hpq]
structure Eqv (s s' : St) : Prop where
 t : ∀ k,s'.get k=s.get k
 b : ∀ n,s'.box n=s.box n
 o : ∀ p,s'.own p=s.own p
 m : s'.mp=s.mp
theorem Eqv.refl (s : St) : Eqv s s:=⟨fun _=>rfl,fun _=>rfl,fun _=>rfl,rfl⟩
theorem Eqv.trans {a b c : St} (h : Eqv a b) (k : Eqv b c) : Eqv a c:=⟨fun x=>(k.t x).trans (h.t x),fun x=>(k.b x).trans (h.b x),fun x=>(k.o x).trans (h.o x),k.m.trans h.m⟩
theorem Eqv.symm {a b : St} (h : Eqv a b) : Eqv b a:=⟨fun x=>(h.t x).symm,fun x=>(h.b x).symm,fun x=>(h.o x).symm,h.m.symm⟩
theorem Eqv.sub {a b : St} (h : Eqv a b) : Sub a b:=⟨fun k e x=>(h.t k).trans x,fun k e x=>(h.b k).trans x,fun k e x=>(h.o k).trans x, .inr h.m.symm⟩
theorem Eqv.ap {a b : St} (h : Eqv a b) (e : Eff) : Eqv (ap e a) (ap e b) :=
 ⟨fun k=>by rw[P7,P7,h.t],fun k=>by rw[Q8,Q8,h.b],fun k=>by rw[O8,O8,h.o],h.m⟩
structure Agree (R : Foot) (s s2 : St) : Prop where
 t : ∀ k ∈ R.rt,s2.get k=s.get k
 b : ∀ n ∈ R.rb,s2.box n=s.box n
 o : ∀ p ∈ R.ro,s2.own p=s.own p
 m : s2.mp=s.mp:=by rfl
theorem Agree.refl (R : Foot) (s : St) : Agree R s s:=⟨fun _ _=>rfl,fun _ _=>rfl,fun _ _=>rfl,rfl⟩
theorem Agree.trans {R : Foot} {a b c : St} (h : Agree R a b) (k : Agree R b c) : Agree R a c :=
 ⟨fun x hx=>(k.t x hx).trans (h.t x hx),fun x hx=>(k.b x hx).trans (h.b x hx),fun x hx=>(k.o x hx).trans (h.o x hx),k.m.trans h.m⟩
theorem Eqv.agree {a b : St} (h : Eqv a b) (R : Foot) : Agree R a b:=⟨fun x _=>h.t x,fun x _=>h.b x,fun x _=>h.o x,h.m⟩
def LS (Z : Pg) (N : Nat) (ops : Array Oper) (o : Oper) (e : Eff) (R : Foot) (st : St) : Prop:=∀ s2,Agree R st s2→(∀ n ∈ R.rn,FreshG s2 n)→Op1 Z N ops o s2 (ap e s2)
theorem LS.agree {N : Nat} {ops : Array Oper} {o : Oper} {e : Eff} {R : Foot} {s s' : St} (h : LS Z N ops o e R s) (ha : Agree R s s') : LS Z N ops o e R s' :=
 fun s2 h2 hf=>h s2 (ha.trans h2) hf
def Eff.wt (e : Eff) : List Nat:=match e.d with | some (d,_)=>[d] | none=>[]
def Eff.wb (e : Eff) : List Nm:=match e.b with | some (n,_)=>n :: (match e.b2 with | some (m,_)=>[m] | none=>[]) | none=>[]
def Eff.wo (e : Eff) : List Pl:=match e.gain with | some (p,_)=>p :: e.drop | none=>e.drop
def disj {α : Type} (eq : α→α→Bool) (a b : List α) : Bool:=a.all fun x=>b.all fun y=>!eq x y
theorem V3 {α : Type} {eq : α→α→Bool} (heq : ∀ x,eq x x=true) {a b : List α} (h : disj eq a b=true) {x : α} (ha : x ∈ a) (hb : x ∈ b) : False:=by
 have := List.all_eq_true.1 (List.all_eq_true.1 h x ha) x hb
 rw[heq x] at this
 simp at this
def uAK (e : Eff) (R : Foot) (e' : Eff) (R' : Foot) : Bool :=
 disj Nat.beq e.wt R'.rt && disj Nat.beq e'.wt R.rt && disj Nat.beq e.wt e'.wt && disj Nm.beq e.wb R'.rb && disj Nm.beq e'.wb R.rb && disj Nm.beq e.wb e'.wb &&
 disj Pl.beq e.wo R'.ro && disj Pl.beq e'.wo R.ro && disj Pl.beq e.wo e'.wo
theorem Gs {e : Eff} {k : Nat} (h : k ∉ e.wt) : e.gt k=none:=by
 unfold Eff.gt Eff.wt at *
 cases hd : e.d with
 | none=>rfl
 | some dx =>
  obtain ⟨d,x⟩:=dx
  rw[hd] at h
  simp at h
  dsimp only
  rw[if_neg (fun e=>h e.symm)]
theorem Gw {e : Eff} {k : Nm} (h : k ∉ e.wb) : e.gb k=none:=by
 unfold Eff.gb Eff.wb at *
 cases hd : e.b with
 | none=>rfl
 | some dx =>
  obtain ⟨d,x⟩:=dx
  rw[hd] at h
  simp only [List.mem_cons,not_or] at h
  dsimp only
  rw[if_neg (fun e=>h.1 e.symm)]
  cases hd2 : e.b2 with
  | none=>rfl
  | some dy =>
   obtain ⟨d2,y⟩:=dy
   rw[hd2] at h
   simp only [List.mem_singleton] at h
   dsimp only
   rw[if_neg (fun e=>h.2 e.symm)]
theorem Gt {e : Eff} {k : Pl} (h : k ∉ e.wo) : e.go k=none:=by
 unfold Eff.go Eff.wo at *
 cases hd : e.gain with
 | none=>rw[hd] at h; dsimp only at h ⊢; rw[if_neg h]
 | some dx =>
  obtain ⟨d,x⟩:=dx
  rw[hd] at h
  simp only [List.mem_cons,not_or] at h
  dsimp only
  rw[if_neg (fun e=>h.1 e.symm),if_neg h.2]
structure Apart (e : Eff) (R : Foot) (e' : Eff) (R' : Foot) : Prop where
 a1 : ∀ k,k ∈ e.wt→k ∈ R'.rt→False
 a2 : ∀ k,k ∈ e'.wt→k ∈ R.rt→False
 a3 : ∀ k,k ∈ e.wt→k ∈ e'.wt→False
 b1 : ∀ k,k ∈ e.wb→k ∈ R'.rb→False
 b2 : ∀ k,k ∈ e'.wb→k ∈ R.rb→False
 b3 : ∀ k,k ∈ e.wb→k ∈ e'.wb→False
 o1 : ∀ k,k ∈ e.wo→k ∈ R'.ro→False
 o2 : ∀ k,k ∈ e'.wo→k ∈ R.ro→False
 o3 : ∀ k,k ∈ e.wo→k ∈ e'.wo→False
theorem Apart.of {e : Eff} {R : Foot} {e' : Eff} {R' : Foot} (h : uAK e R e' R'=true) : Apart e R e' R':=by
 unfold uAK at h
 simp only [Bool.and_eq_true] at h
 obtain ⟨⟨⟨⟨⟨⟨⟨⟨h1,h2⟩,h3⟩,h4⟩,h5⟩,h6⟩,h7⟩,h8⟩,h9⟩:=h
 have hn : ∀ x : Nat,Nat.beq x x=true:=fun x=>by simp
 exact ⟨fun _=>V3 hn h1,fun _=>V3 hn h2,fun _=>V3 hn h3,fun _=>V3 Nm.beq_self h4,fun _=>V3 Nm.beq_self h5,fun _=>V3 Nm.beq_self h6,
  fun _=>V3 Pl.beq_self h7,fun _=>V3 Pl.beq_self h8,fun _=>V3 Pl.beq_self h9⟩
theorem Apart.comm {e : Eff} {R : Foot} {e' : Eff} {R' : Foot} (h : Apart e R e' R') (s : St) : Eqv (ap e (ap e' s)) (ap e' (ap e s)) where
 m:=rfl
 t:=fun k=>by
  rw[P7,P7,P7,P7]
  by_cases hk : k ∈ e.wt
  ·rw[Gs (e:=e') (fun hk'=>h.a3 k hk hk')]
  ·rw[Gs (e:=e) hk]
 b:=fun k=>by
  rw[Q8,Q8,Q8,Q8]
  by_cases hk : k ∈ e.wb
  ·rw[Gw (e:=e') (fun hk'=>h.b3 k hk hk')]
  ·rw[Gw (e:=e) hk]
 o:=fun k=>by
  rw[O8,O8,O8,O8]
  by_cases hk : k ∈ e.wo
  ·rw[Gt (e:=e') (fun hk'=>h.o3 k hk hk')]
  ·rw[Gt (e:=e) hk]
theorem Apart.agree {e : Eff} {R : Foot} {e' : Eff} {R' : Foot} (h : Apart e R e' R') (s : St) : Agree R' s (ap e s) where
 t:=fun k hk=>by rw[P7,Gs (fun hk'=>h.a1 k hk' hk)]
 b:=fun k hk=>by rw[Q8,Gw (fun hk'=>h.b1 k hk' hk)]
 o:=fun k hk=>by rw[O8,Gt (fun hk'=>h.o1 k hk' hk)]
theorem Apart.agree' {e : Eff} {R : Foot} {e' : Eff} {R' : Foot} (h : Apart e R e' R') (s : St) : Agree R s (ap e' s) where
 t:=fun k hk=>by rw[P7,Gs (fun hk'=>h.a2 k hk' hk)]
 b:=fun k hk=>by rw[Q8,Gw (fun hk'=>h.b2 k hk' hk)]
 o:=fun k hk=>by rw[O8,Gt (fun hk'=>h.o2 k hk' hk)]
abbrev Lnk:=Nat × Eff × Foot
def Chain (Z : Pg) (N : Nat) (ops : Array Oper) : List Lnk→St→St→Prop
 | [],s,sf=>Eqv s sf
 | l :: r,s,sf=>(∃ o,ops[l.1]? = some o∧LS Z N ops o l.2.1 l.2.2 s)∧Chain Z N ops r (ap l.2.1 s) sf
theorem Chain.eqv {N : Nat} {ops : Array Oper} : ∀ {L : List Lnk} {s s' sf : St},Chain Z N ops L s sf→Eqv s s'→Chain Z N ops L s' sf
 | [],s,s',sf,h,he=>he.symm.trans h
 | l :: r,s,s',sf,h,he=>by
  obtain ⟨⟨o,ho,hl⟩,hr⟩:=h
  exact ⟨⟨o,ho,hl.agree (he.agree _)⟩,Chain.eqv hr (he.ap _)⟩
theorem Chain.front {N : Nat} {ops : Array Oper} {l : Lnk} {q : List Lnk} : ∀ {p : List Lnk} {s sf : St},Chain Z N ops (p++l :: q) s sf→(∀ m ∈ p,Apart m.2.1 m.2.2 l.2.1 l.2.2) →
  (∃ o,ops[l.1]? = some o∧LS Z N ops o l.2.1 l.2.2 s)∧Chain Z N ops (p++q) (ap l.2.1 s) sf
 | [],s,sf,h,_=>h
 | m :: p,s,sf,h,ha=>by
  obtain ⟨⟨om,hom,hlm⟩,hr⟩:=h
  have hap:=ha m (by simp)
  obtain ⟨⟨o,ho,hl⟩,hc⟩:=Chain.front hr fun x hx=>ha x (by simp [hx])
  refine ⟨⟨o,ho,?_⟩,⟨om,hom,hlm.agree (hap.agree' s)⟩,?_⟩
  ·have hag:=hap.agree s
   exact hl.agree ⟨fun k hk=>(hag.t k hk).symm,fun k hk=>(hag.b k hk).symm,fun k hk=>(hag.o k hk).symm,hag.m.symm⟩
  ·exact hc.eqv (hap.comm s).symm
def Zu (ops : Array Oper) (B : List Nat) (j : Nat) (o : Oper) : Bool :=
 (List.range ops.size).all fun i=>!(B.getD j 0).testBit i || o.after.any fun e=>Region.binds .any e && Nat.ble (e.on + 1) j && (Nat.beq e.on i || (B.getD e.on 0).testBit i)
def uBv (j : Nat) (o : Oper) : Bool:=o.after.all fun e=>!Region.binds .any e || Nat.ble (e.on + 1) j
def Lp (ops : Array Oper) (B : List Nat) : Bool:=(List.range ops.size).all fun j=>match ops[j]? with
 | some o=>Zu ops B j o && uBv j o
 | none=>false
def W9 (B : List Nat) : List Lnk→Bool
 | []=>true
 | l :: r=>(r.all fun m=>(B.getD m.1 0).testBit l.1 || uAK l.2.1 l.2.2 m.2.1 m.2.2) && W9 B r
def Eff.men (e : Eff) (n : Nm × Bool) : Bool:=(n.2 && (match e.d with | some (_,_,x)=>x.has n.1 | none=>false)) || (match e.gain with | some (p,_)=>Pl.inBox n.1 p | none=>false)
theorem FreshG.ap {s : St} {n : Nm × Bool} (h : FreshG s n) {e : Eff} (he : e.men n=false) : FreshG (ap e s) n:=by
 unfold Eff.men at he
 rw[Bool.or_eq_false_iff] at he
 refine ⟨fun hn2 k g x hk=>?_,fun p sz hp=>?_⟩
 ·rw[hn2,Bool.true_and] at he
  rw[P7] at hk
  unfold Eff.gt at hk
  cases hd : e.d with
  | none=>rw[hd] at hk; exact h.1 hn2 k g x hk
  | some dx =>
   obtain ⟨d,g',x'⟩:=dx
   rw[hd] at hk he
   dsimp only at hk
   by_cases hdk : d=k
   ·rw[if_pos hdk] at hk
    simp only [Option.some.injEq,Prod.mk.injEq] at hk
    rw[← hk.2]; exact he.1
   ·rw[if_neg hdk] at hk; exact h.1 hn2 k g x hk
 ·rw[O8] at hp
  unfold Eff.go at hp
  cases hg : e.gain with
  | none =>
   rw[hg] at hp
   dsimp only at hp
   by_cases hm : p ∈ e.drop
   ·rw[if_pos hm] at hp; simp at hp
   ·rw[if_neg hm] at hp; exact h.2 p sz hp
  | some gx =>
   obtain ⟨q,z⟩:=gx
   rw[hg] at hp he
   dsimp only at hp
   by_cases hq : q=p
   ·subst hq; exact he.2
   ·rw[if_neg hq] at hp
    by_cases hm : p ∈ e.drop
    ·rw[if_pos hm] at hp; simp at hp
    ·rw[if_neg hm] at hp; exact h.2 p sz hp
def nmB (B : List Nat) (L : List Lnk) : Bool:=L.all fun l=>L.all fun m=>Nat.beq l.1 m.1 || (B.getD l.1 0).testBit m.1 || m.2.2.rn.all fun n=>!l.2.1.men n
def Io (ops : Array Oper) (listed : Array Bool) : Prop:=∀ (j : Nat) (o : Oper),ops[j]? = some o→listed.getD j true=true → ∀ e ∈ o.after,Region.binds .any e=true→listed.getD e.on false=true
theorem Ts {ops : Array Oper} {B : List Nat} (h : Lp ops B=true) {j : Nat} {o : Oper} (ho : ops[j]? = some o) : Zu ops B j o=true∧uBv j o=true:=by
 have hj : j < ops.size:=M4 ho
 have := List.all_eq_true.1 h j (List.mem_range.2 hj)
 rw[ho] at this
 simpa using this
theorem Vp {ops : Array Oper} {listed : Array Bool} (hsz : listed.size=ops.size) {i : Nat} (h : listed.getD i false=true) : i < ops.size:=by
 rcases Nat.lt_or_ge i listed.size with h' | h'
 ·omega
 ·simp [Array.getD,Nat.not_lt.2 h'] at h
theorem Kv {ops : Array Oper} {B : List Nat} (h : Lp ops B=true) {listed : Array Bool} (hsz : listed.size=ops.size) (hd : Io ops listed) :
  ∀ (j : Nat) (o : Oper),ops[j]? = some o→(∀ e ∈ o.after,Region.binds .any e=true→listed.getD e.on false=true) → ∀ i,i < ops.size→(B.getD j 0).testBit i=true→listed.getD i false=true:=by
 intro j
 induction j using Nat.strongRecOn with
 | _ j ih =>
  intro o ho hp i hi hb
  have hc:=List.all_eq_true.1 (Ts h ho).1 i (List.mem_range.2 hi)
  rw[hb] at hc
  simp only [Bool.not_true,Bool.false_or] at hc
  rw[Array.any_eq_true'] at hc
  obtain ⟨e,he,hc⟩:=hc
  simp only [Bool.and_eq_true,Bool.or_eq_true] at hc
  obtain ⟨⟨hbind,hlow⟩,hc⟩:=hc
  have hon:=hp e he hbind
  rcases hc with hc | hc
  ·rw[← Nat.eq_of_beq_eq_true hc]; exact hon
  ·have hlt : e.on < j:=Nat.le_of_ble_eq_true hlow
   have honl : e.on < ops.size:=Vp hsz hon
   have ho2 : ops[e.on]? = some ops[e.on]:=Array.getElem?_eq_getElem honl
   refine ih e.on hlt _ ho2 (hd e.on _ ho2 ?_) i hi hc
   have hl2 : e.on < listed.size:=by omega
   simp only [Array.getD,hl2,dif_pos] at hon ⊢
   exact hon
theorem Rel.drew {E : Env} {G : Gh} {st : St} {a : Act} {w : World} (h : Rel E G st a w) : Rel E G st a { w with drawn:=w.drawn + 1 } :=
 h.grow (w1:={ w with drawn:=w.drawn + 1 }) ⟨rfl,rfl,rfl,Nat.le_refl _,fun _ _ _=>rfl,fun _ _ _ _=>rfl,fun _ _=>rfl,fun _ _=>rfl⟩ (fun _ _ _=>rfl) (SameA.refl _ _) h.wf
theorem mem_ready' {ops : Array Oper} {listed : Array Bool} {i : Nat} (h : i ∈ Region.ready .any ops listed) : ∃ o,ops[i]? = some o∧listed.getD i true=false ∧ ∀ e ∈ o.after,Region.binds .any e=true→listed.getD e.on false=true:=by
 unfold Region.ready at h
 rw[List.mem_filter] at h
 obtain ⟨hr,h⟩:=h
 simp only [Bool.and_eq_true,Bool.not_eq_true'] at h
 obtain ⟨h1,h2⟩:=h
 have hi : i < ops.size:=List.mem_range.1 hr
 refine ⟨ops[i],Array.getElem?_eq_getElem hi,h1,fun e he hb=>?_⟩
 rw[Array.getElem?_eq_getElem hi] at h2
 simp only [Option.map_some,Option.getD_some] at h2
 have := Array.all_eq_true'.1 h2 e he
 rw[hb] at this
 simpa using this
theorem Ti {N : Nat} {ops : Array Oper} {B : List Nat} {sf : St} {E : Env} (hcert : Lp ops B=true) {K : Act→World→Prop} (hE : EOk Z N E) (hK : ∀ G a w,Rel E G sf a w→K a w) :
  ∀ (fuel : Nat) (listed : Array Bool) (L : List Lnk) (s : St) (G : Gh) (a : Act) (w : World),listed.size=ops.size→L.length≤fuel→(∀ i,i < ops.size→(listed.getD i true=false ↔ ∃ l ∈ L,l.1=i))→Io ops listed →
   L.Pairwise (fun x y=>x.1 < y.1)→W9 B L=true→nmB B L=true→(∀ l ∈ L,∀ n ∈ l.2.2.rn,FreshG s n)→Chain Z N ops L s sf→Rel E G s a w→wpAny Z.P .any ops (Qn K) fuel listed a w:=by
 have noReady : ∀ (listed : Array Bool),(∀ i,i < ops.size→(listed.getD i true=false ↔ ∃ l ∈ ([] : List Lnk),l.1=i))→Region.ready .any ops listed=[]:=by
  intro listed hm
  cases hr : Region.ready .any ops listed with
  | nil=>rfl
  | cons i r =>
   obtain ⟨o,ho,h1,_⟩:=mem_ready' (i:=i) (by rw[hr]; simp)
   obtain ⟨l,hl,_⟩:=(hm i (M4 ho)).1 h1
   simp at hl
 intro fuel
 induction fuel with
 | zero =>
  intro listed L s G a w hsz hL hm hd hp hpair hnm hF hch hr
  have : L=[]:=List.eq_nil_of_length_eq_zero (by omega)
  subst this
  exact ⟨noReady listed hm,hK G a w (hr.sub (Eqv.sub (Eqv.symm hch)))⟩
 | succ fuel ih =>
  intro listed L s G a w hsz hL hm hd hp hpair hnm hF hch hr
  refine ⟨fun hnil=>?_,fun i hi=>?_⟩
  ·have hL0 : L=[]:=by
    cases L with
    | nil=>rfl
    | cons l r =>
     exfalso
     have hl:=(hm l.1 ?_).2 ⟨l,by simp,rfl⟩
     ·have hlt : l.1 < ops.size:=by
       obtain ⟨⟨o,ho,_⟩,_⟩:=hch
       exact M4 ho
      have : l.1 ∈ Region.ready .any ops listed:=by
       unfold Region.ready
       rw[List.mem_filter]
       refine ⟨List.mem_range.2 hlt,?_⟩
       rw[hl]
       simp only [Bool.not_false,Bool.true_and]
       have ho : ops[l.1]? = some ops[l.1]:=Array.getElem?_eq_getElem hlt
       rw[ho]
       simp only [Option.map_some,Option.getD_some]
       rw[Array.all_eq_true']
       intro e he
       have hlow:=Array.all_eq_true'.1 (Ts hcert ho).2 e he
       cases hb : Region.binds .any e with
       | false=>simp
       | true =>
        rw[hb] at hlow
        simp only [Bool.not_true,Bool.false_or] at hlow
        have hlo : e.on < l.1:=Nat.le_of_ble_eq_true hlow
        simp only [Bool.not_true,Bool.false_or]
        have honl : e.on < listed.size:=by omega
        cases hge : listed.getD e.on true with
        | true =>
         simp only [Array.getD,honl,dif_pos] at hge ⊢
         exact hge
        | false =>
         obtain ⟨m,hm1,hm2⟩:=(hm e.on (by omega)).1 hge
         exfalso
         rcases List.mem_cons.1 hm1 with rfl | hm1
         ·omega
         ·have := (List.pairwise_cons.1 hp).1 m hm1
          omega
      rw[hnil] at this
      simp at this
     ·obtain ⟨⟨o,ho,_⟩,_⟩:=hch
      exact M4 ho
   subst hL0
   exact hK G a w (hr.sub (Eqv.sub (Eqv.symm hch)))
  ·obtain ⟨o,ho,hun,hpre⟩:=mem_ready' hi
   have hio : i < ops.size:=M4 ho
   obtain ⟨l,hl,hli⟩:=(hm i hio).1 hun
   obtain ⟨p,q,hpq⟩:=List.append_of_mem hl
   subst hpq
   have hapart : ∀ m ∈ p,Apart m.2.1 m.2.2 l.2.1 l.2.2:=by
    have hgen : ∀ (p : List Lnk),W9 B (p++l :: q)=true→(∀ m ∈ p,listed.getD m.1 true=false∧m.1 < ops.size) → ∀ m ∈ p,Apart m.2.1 m.2.2 l.2.1 l.2.2:=by
     intro p
     induction p with
     | nil=>intro _ _ m hm; simp at hm
     | cons x p ihp =>
      intro hb hun' m hmem
      simp only [List.cons_append,W9,Bool.and_eq_true] at hb
      rcases List.mem_cons.1 hmem with rfl | hmem
      ·have := List.all_eq_true.1 hb.1 l (by simp)
       rw[Bool.or_eq_true] at this
       rcases this with h1 | h1
       ·exfalso
        rw[hli] at h1
        obtain ⟨u1,u2⟩:=hun' m (by simp)
        have := Kv hcert hsz hd i o ho hpre m.1 u2 h1
        have hml : m.1 < listed.size:=by omega
        simp only [Array.getD,hml,dif_pos] at this u1
        rw[u1] at this
        simp at this
       ·exact Apart.of h1
      ·exact ihp hb.2 (fun y hy=>hun' y (by simp [hy])) m hmem
    refine hgen p hpair fun m hmem=>?_
    have hmo : m.1 < ops.size:=by
     have : ∀ {L : List Lnk} {s sf : St},Chain Z N ops L s sf → ∀ m ∈ L,m.1 < ops.size:=by
      intro L
      induction L with
      | nil=>intro s sf _ m hm; simp at hm
      | cons x L ihL =>
       intro s sf hc m hm
       rcases List.mem_cons.1 hm with rfl | hm
       ·obtain ⟨⟨o,ho,_⟩,_⟩:=hc
        exact M4 ho
       ·exact ihL hc.2 m hm
     exact this hch m (by simp [hmem])
    exact ⟨(hm m.1 hmo).2 ⟨m,by simp [hmem],rfl⟩,hmo⟩
   obtain ⟨⟨o',ho',hls⟩,hch'⟩:=hch.front hapart
   rw[hli,ho] at ho'
   simp only [Option.some.injEq] at ho'
   subst ho'
   have hop:=hls s (Agree.refl _ _) (hF l (by simp)) E G a w hr hE (wpAny Z.P .any ops (Qn K) fuel (listed.setIfInBounds i true)) (Qn K) ?_
   ·unfold wpOp
    rw[ho]
    dsimp only
    split at hop
    ·rename_i hw; rw[if_pos hw]; exact .inl hop
    ·rename_i hw; rw[if_neg hw]; exact hop
   ·intro G' v w' hr'
    have hil : i < listed.size:=by omega
    have hget : ∀ (k : Nat) (d : Bool),(listed.setIfInBounds i true).getD k d=if k=i then true else listed.getD k d:=by
     intro k d
     by_cases hk : k=i
     ·subst hk; simp [Array.getD,hil]
     ·have hk' : ¬ i=k:=fun e=>hk e.symm
      simp only [hk,if_false]
      by_cases hkl : k < listed.size
      ·simp [Array.getD,hkl,hk']
      ·simp [Array.getD,hkl]
    refine ih (listed.setIfInBounds i true) (p++q) _ G' _ w' (by simpa using hsz) ?_ ?_ ?_ ?_ ?_ ?_ ?_ hch' hr'
    ·simp only [List.length_append,List.length_cons] at hL ⊢; omega
    ·intro k hk
     rw[hget]
     by_cases hki : k=i
     ·subst hki
      simp only [if_true]
      constructor
      ·intro h; simp at h
      ·rintro ⟨m,hm1,hm2⟩
       exfalso
       rw[List.pairwise_append] at hp
       obtain ⟨_,hp2,hp3⟩:=hp
       rcases List.mem_append.1 hm1 with hm1 | hm1
       ·have := hp3 m hm1 l (by simp); omega
       ·have := (List.pairwise_cons.1 hp2).1 m hm1; omega
     ·rw[if_neg hki,hm k hk]
      constructor
      ·rintro ⟨m,hm1,hm2⟩
       refine ⟨m,?_,hm2⟩
       rcases List.mem_append.1 hm1 with hm1 | hm1
       ·simp [hm1]
       ·rcases List.mem_cons.1 hm1 with rfl | hm1
        ·exfalso; omega
        ·simp [hm1]
      ·rintro ⟨m,hm1,hm2⟩
       refine ⟨m,?_,hm2⟩
       rcases List.mem_append.1 hm1 with hm1 | hm1
       ·simp [hm1]
       ·simp [hm1]
    ·intro j oj hoj hlj e he hb
     rw[hget] at hlj ⊢
     split
     ·rfl
     ·by_cases hji : j=i
      ·subst hji
       rw[ho] at hoj; simp at hoj; subst hoj
       exact hpre e he hb
      ·rw[if_neg hji] at hlj
       exact hd j oj hoj hlj e he hb
    ·rw[List.pairwise_append] at hp ⊢
     exact ⟨hp.1,(List.pairwise_cons.1 hp.2.1).2,fun x hx y hy=>hp.2.2 x hx y (by simp [hy])⟩
    ·have : ∀ (p : List Lnk),W9 B (p++l :: q)=true→W9 B (p++q)=true:=by
      intro p
      induction p with
      | nil=>intro h; simp only [List.nil_append,W9,Bool.and_eq_true] at h ⊢; exact h.2
      | cons x p ihp =>
       intro h
       simp only [List.cons_append,W9,Bool.and_eq_true] at h ⊢
       refine ⟨?_,ihp h.2⟩
       rw[List.all_eq_true] at h ⊢
       intro y hy
       refine h.1 y ?_
       rcases List.mem_append.1 hy with hy | hy
       ·simp [hy]
       ·simp [hy]
     exact this p hpair
    ·unfold nmB at hnm ⊢
     rw[List.all_eq_true] at hnm ⊢
     intro x hx
     have hx' : x ∈ p++l :: q:=by
      rcases List.mem_append.1 hx with h | h
      ·simp [h]
      ·simp [h]
     have h1:=hnm x hx'
     rw[List.all_eq_true] at h1 ⊢
     intro y hy
     exact h1 y (by
      rcases List.mem_append.1 hy with h | h
      ·simp [h]
      ·simp [h])
    ·intro m hmem n hn
     have hmem' : m ∈ p++l :: q:=by
      rcases List.mem_append.1 hmem with h | h
      ·simp [h]
      ·simp [h]
     refine (hF m hmem' n hn).ap ?_
     have h1:=List.all_eq_true.1 (List.all_eq_true.1 hnm l (by simp)) m hmem'
     simp only [Bool.or_eq_true] at h1
     have hne : l.1≠m.1:=by
      rw[List.pairwise_append] at hp
      obtain ⟨_,hp2,hp3⟩:=hp
      rcases List.mem_append.1 hmem with h | h
      ·have := hp3 m h l (by simp); omega
      ·have := (List.pairwise_cons.1 hp2).1 m h; omega
     rcases h1 with (h1 | h1) | h1
     ·exact absurd (Nat.eq_of_beq_eq_true h1) hne
     ·exfalso
      have hmo : m.1 < ops.size:=by
       have : ∀ {L : List Lnk} {s sf : St},Chain Z N ops L s sf → ∀ m ∈ L,m.1 < ops.size:=by
        intro L
        induction L with
        | nil=>intro s sf _ m hm; simp at hm
        | cons x L ihL =>
         intro s sf hc m hm
         rcases List.mem_cons.1 hm with rfl | hm
         ·obtain ⟨⟨o,ho,_⟩,_⟩:=hc
          exact M4 ho
         ·exact ihL hc.2 m hm
       exact this hch' m hmem
      rw[hli] at h1
      have hl1:=Kv hcert hsz hd i o ho hpre m.1 hmo h1
      have hl2:=(hm m.1 hmo).2 ⟨m,hmem',rfl⟩
      have hml : m.1 < listed.size:=by omega
      simp only [Array.getD,hml,dif_pos] at hl1 hl2
      rw[hl2] at hl1
      simp at hl1
     ·have := List.all_eq_true.1 h1 n hn
      simpa using this
def Y3 : Nat→List Lnk→Bool
 | _,[]=>true
 | k,l :: r=>Nat.beq l.1 k && Y3 (k + 1) r
theorem Kn : ∀ (L : List Lnk) (k : Nat),Y3 k L=true → ∀ l ∈ L,k≤l.1∧l.1 < k + L.length
 | [],k,_,l,h=>by simp at h
 | x :: r,k,hb,l,h=>by
  simp only [Y3,Bool.and_eq_true] at hb
  have hx:=Nat.eq_of_beq_eq_true hb.1
  rcases List.mem_cons.1 h with rfl | h
  ·simp; omega
  ·have := Kn r (k + 1) hb.2 l h; simp; omega
theorem Lu : ∀ (L : List Lnk) (k : Nat),Y3 k L=true→L.Pairwise (fun x y=>x.1 < y.1)
 | [],_,_=>.nil
 | x :: r,k,hb=>by
  simp only [Y3,Bool.and_eq_true] at hb
  have hx:=Nat.eq_of_beq_eq_true hb.1
  exact .cons (fun y hy=>by have := Kn r (k + 1) hb.2 y hy; omega) (Lu r (k + 1) hb.2)
theorem Jj : ∀ (L : List Lnk) (k : Nat),Y3 k L=true → ∀ i,k≤i→i < k + L.length → ∃ l ∈ L,l.1=i
 | [],k,_,i,h1,h2=>by simp at h2; omega
 | x :: r,k,hb,i,h1,h2=>by
  simp only [Y3,Bool.and_eq_true] at hb
  have hx:=Nat.eq_of_beq_eq_true hb.1
  by_cases hi : i=k
  ·exact ⟨x,by simp,by omega⟩
  ·obtain ⟨l,hl,he⟩:=Jj r (k + 1) hb.2 i (by omega) (by simp at h2; omega)
   exact ⟨l,by simp [hl],he⟩
theorem Xz {N : Nat} {Q : Exit→St→Prop} {st sf : St} {id : Nat} {ops : List Oper} {L : List Lnk} (B : List Nat) (hch : Chain Z N ops.toArray L st sf) (hlen : Nat.beq L.length ops.length=true) (hlnk : Y3 0 L=true)
  (hcert : Lp ops.toArray B=true) (hpair : W9 B L=true) (hnm : nmB B L=true) (hF : ∀ l ∈ L,∀ n ∈ l.2.2.rn,FreshG st n) (hQ : Q .normal sf) : AWP Z N (.region id ops.toArray true) Q st:=by
 intro E G a w hr hE
 have hl : L.length=ops.length:=Nat.eq_of_beq_eq_true hlen
 refine wp_mono (wp_region_any Z.mix (Ti (K:=fun a' w'=>∃ G' st',Q .normal st'∧Rel E G' st' a' w') hcert hE (fun G a w h=>⟨G,sf,hQ,h⟩) _ _ L st G a _ (by simp) (by simp [hl]) ?_ ?_ (Lu L 0 hlnk) hpair hnm hF hch hr.drew)) ?_
 ·intro i hi
  have hi' : i < ops.length:=by simpa using hi
  have : (Array.replicate ops.toArray.size false).getD i true=false:=by simp [Array.getD,hi']
  rw[this]
  simp only [true_iff]
  exact Jj L 0 hlnk i (Nat.zero_le _) (by omega)
 ·intro j o ho hlj
  have hj : j < ops.length:=by simpa using M4 ho
  have : (Array.replicate ops.toArray.size false).getD j true=false:=by simp [Array.getD,hj]
  rw[this] at hlj
  simp at hlj
 ·intro e a' w' hq
  cases e <;> first|exact hq|exact hq.elim
end Go.Abs
namespace Go.Abs
variable {Z : Pg}
def Ll (st : St) : List Nat→List (Nat × Bool × X)
 | []=>[]
 | k :: r=>match st.get k with
  | some e=>(k,e) :: Ll st r
  | none=>Ll st r
def Kg (st : St) : List Nm→List (Nm × List C)
 | []=>[]
 | k :: r=>match st.box k with
  | some e=>(k,e) :: Kg st r
  | none=>Kg st r
def Gi (st : St) : List Pl→List (Pl × Nat)
 | []=>[]
 | k :: r=>match st.own k with
  | some e=>(k,e) :: Gi st r
  | none=>Gi st r
def rs (R : Foot) (st : St) : St:={ t:=Ll st R.rt,bx:=Kg st R.rb,ow:=Gi st R.ro,mp:=st.mp }
theorem Ew (st : St) : ∀ (l : List Nat) (k : Nat) (e : Bool × X),getT (Ll st l) k=some e→st.get k=some e∧k ∈ l
 | [],k,e,h=>by simp [Ll,getT] at h
 | j :: r,k,e,h=>by
  unfold Ll at h
  split at h
  ·rename_i e' he
   rw[J9] at h
   split at h
   ·rename_i hj; subst hj; simp at h; subst h; exact ⟨he,by simp⟩
   ·have := Ew st r k e h; exact ⟨this.1,by simp [this.2]⟩
  ·have := Ew st r k e h; exact ⟨this.1,by simp [this.2]⟩
theorem Ez (st : St) : ∀ (l : List Nm) (k : Nm) (e : List C),getB (Kg st l) k=some e→st.box k=some e∧k ∈ l
 | [],k,e,h=>by simp [Kg,getB] at h
 | j :: r,k,e,h=>by
  unfold Kg at h
  split at h
  ·rename_i e' he
   rw[G6] at h
   split at h
   ·rename_i hj; subst hj; simp at h; subst h; exact ⟨he,by simp⟩
   ·have := Ez st r k e h; exact ⟨this.1,by simp [this.2]⟩
  ·have := Ez st r k e h; exact ⟨this.1,by simp [this.2]⟩
theorem Fe (st : St) : ∀ (l : List Pl) (k : Pl) (e : Nat),getO (Gi st l) k=some e→st.own k=some e∧k ∈ l
 | [],k,e,h=>by simp [Gi,getO] at h
 | j :: r,k,e,h=>by
  unfold Gi at h
  split at h
  ·rename_i e' he
   rw[L9] at h
   split at h
   ·rename_i hj; subst hj; simp at h; subst h; exact ⟨he,by simp⟩
   ·have := Fe st r k e h; exact ⟨this.1,by simp [this.2]⟩
  ·have := Fe st r k e h; exact ⟨this.1,by simp [this.2]⟩
theorem Agree.sub {R : Foot} {st s2 : St} (h : Agree R st s2) : Sub (rs R st) s2 where
 t:=fun k e hk=>by
  obtain ⟨h1,h2⟩:=Ew st R.rt k e hk
  rw[h.t k h2]; exact h1
 bx:=fun k e hk=>by
  obtain ⟨h1,h2⟩:=Ez st R.rb k e hk
  rw[h.b k h2]; exact h1
 ow:=fun k e hk=>by
  obtain ⟨h1,h2⟩:=Fe st R.ro k e hk
  rw[h.o k h2]; exact h1
 mp:=.inr h.m.symm
theorem Ab {T : List (Option TyI)} {s s2 : St} (h : Sub s s2) {ty : TypeId} {o : Operand} {e : Bool × X} (hl : lk T s ty o=some e) : lk T s2 ty o=some e:=by
 cases o with
 | tmp k=>exact h.t k e hl
 | const v=>exact hl
 | global g=>exact hl
 | func f=>exact hl
theorem Eu {T : List (Option TyI)} {s s2 : St} (h : Sub s s2) : ∀ {ts : List TypeId} {os : List Operand} {e : Bool × List X},M2 T s ts os=some e→M2 T s2 ts os=some e
 | _,[],e,hl=>by simpa [M2] using hl
 | [],_ :: _,e,hl=>by simp [M2] at hl
 | t :: ts,o :: os,e,hl=>by
  simp only [M2] at hl ⊢
  split at hl
  ·rename_i g x h1
   rw[Ab h h1]
   dsimp only
   split at hl
   ·rename_i g' xs h2
    rw[Eu h h2]
    exact hl
   ·simp at hl
  ·simp at hl
theorem Ht {T : List (Option TyI)} {s s2 : St} (h : Sub s s2) {ty : TypeId} {sz : Nat} : ∀ {os : List Operand} {e : Bool × List (List C)},R9 T s ty sz os=some e→R9 T s2 ty sz os=some e
 | [],e,hl=>by simpa [R9] using hl
 | o :: os,e,hl=>by
  simp only [R9] at hl ⊢
  split at hl
  ·rename_i g y h1
   rw[Ab h h1]
   dsimp only
   split at hl
   ·rename_i cs g' r' h2 h3
    rw[h2,Ht h h3]
    exact hl
   ·simp at hl
  ·simp at hl
theorem N6 {ops : Array Oper} {s s2 : St} (h : Sub s s2) {o : Oper} {g : Bool} (hl : G8 ops s o=some g) : G8 ops s2 o=some g:=by
 unfold G8 at hl ⊢
 split at hl
 ·exact hl
 ·rename_i j want hg
  split at hl
  ·rename_i d hd
   split at hl
   ·rename_i g' x hx
    rw[h.t d _ hx]
    exact hl
   ·simp at hl
  ·simp at hl
theorem PureOk.sub {st s2 : St} {op : Op} {ty : TypeId} {gate : Bool} {x : X} (h : PureOk Z st op ty gate x) (hs : Sub st s2) : PureOk Z s2 op ty gate x :=
 fun o E G a w h1 h2 hr hg=>h o E G a w h1 h2 (hr.sub hs) hg
def Uc (ops : Array Oper) (o : Oper) : List Nat :=
 (o.op.operands.toList.filterMap fun x=>match x with | .tmp k=>some k | _=>none) ++
 (match o.guard with | some (j,_)=>(match (ops[j]?).bind (·.dst) with | some d=>[d] | none=>[]) | none=>[])
def foot (ops : Array Oper) (o : Oper) (rb : List Nm) (ro : List Pl) : Foot:={ rt:=Uc ops o,rb:=rb,ro:=ro }
section
variable {N : Nat} {ops : Array Oper} {st : St} {o : Oper}
theorem Gx {gate : Bool} {d : Nat} {x : X} {R : Foot} (hg : G8 ops (rs R st) o=some gate) (hd : o.dst=some d) (hN : Nat.ble (d + 1) N=true) (hp : PureOk Z (rs R st) o.op o.type gate x) :
  LS Z N ops o { d:=some (d,gate,x),drop:=[.t d] } R st:=by
 intro s2 ha _
 refine (Of (N6 ha.sub hg) hd hN (hp.sub ha.sub)).sub ⟨?_,?_,?_,by exact .inr J⟩
 ·intro k e hk
  rw[P7] at hk
  rw[St.put_get]
  simp only [Eff.gt] at hk
  by_cases h : d=k
  ·subst h; simpa using hk
  ·have h' : ¬ k=d:=fun e=>h e.symm
   simpa [h,h'] using hk
 ·intro n cs hn
  rw[Q8] at hn
  exact hn
 ·intro p sz hp
  rw[O8] at hp
  rw[St.put_own]
  simp only [Eff.go,List.mem_singleton] at hp
  split
  ·rename_i he; rw[if_pos he] at hp; exact hp
  ·rename_i he; rw[if_neg he] at hp; exact hp
theorem Uy {s2 : St} {d : Nat} {gate : Bool} {res : X} {ro : Option Nat} :
  Sub (ap { d:=some (d,gate,res),drop:=[.t d],gain:=cond gate (ro.map fun sz=>(.t d,sz)) none } s2) (s2.ret d gate res ro) where
 mp:=.inr (by unfold St.ret; cases ro with | none=>rfl | some sz=>cases gate <;> rfl)
 t:=fun k e hk=>by
  rw[P7] at hk
  have : (s2.ret d gate res ro).get k=(s2.put d (gate,res)).get k:=by
   unfold St.ret
   cases ro with
   | none=>rfl
   | some sz=>cases gate <;> rfl
  rw[this,St.put_get]
  simp only [Eff.gt] at hk
  by_cases h : d=k
  ·subst h; simpa using hk
  ·have h' : ¬ k=d:=fun e=>h e.symm
   simpa [h,h'] using hk
 bx:=fun n cs hn=>by
  rw[Q8] at hn
  have : (s2.ret d gate res ro).box n=s2.box n:=by
   unfold St.ret
   cases ro with
   | none=>rfl
   | some sz=>cases gate <;> rfl
  rw[this]; exact hn
 ow:=fun p s hp=>by
  rw[O8] at hp
  unfold St.ret
  cases ro with
  | none =>
   have hgn : (cond gate (Option.map (fun sz=>(Pl.t d,sz)) (none : Option Nat)) none)=none:=by cases gate <;> rfl
   simp only [Eff.go,hgn,List.mem_singleton] at hp
   dsimp only
   rw[St.put_own]
   split
   ·rename_i he; rw[if_pos he] at hp; exact hp
   ·rename_i he; rw[if_neg he] at hp; exact hp
  | some sz =>
   cases gate with
   | false =>
    simp only [Eff.go,cond_false,List.mem_singleton] at hp
    dsimp only [cond_false]
    rw[St.put_own]
    split
    ·rename_i he; rw[if_pos he] at hp; exact hp
    ·rename_i he; rw[if_neg he] at hp; exact hp
   | true =>
    simp only [Eff.go,cond_true,Option.map_some,List.mem_singleton] at hp
    dsimp only [cond_true]
    rw[St.addOwn_own]
    split
    ·rename_i he; rw[if_pos he] at hp; exact hp
    ·rename_i he
     rw[if_neg he] at hp
     rw[St.put_own]
     split
     ·rename_i he2; exact absurd he2.symm he
     ·rename_i he2; rw[if_neg he2] at hp; exact hp
theorem uAZ {gate g gf : Bool} {d : Nat} {fo : Operand} {args : Array Operand} {ts : Array TypeId} {f : FuncId} {caps : List Y} {xs : List X} {res : X} {ro : Option Nat} {R : Foot}
  (ho : o.op = .call { callee:=.value fo,args:=args,argTypes:=ts }) (hg : G8 ops (rs R st) o=some gate) (hd : o.dst=some d) (hN : Nat.ble (d + 1) N=true)
  (hf : lk Z.T (rs R st) 0 fo=some (gf, .fn f caps)) (ha : M2 Z.T (rs R st) ts.toList args.toList=some (g,xs)) (hgf : gate=true→gf=true) (hga : gate=true→g=true)
  (hs : Ctr Z f (xs++caps.map .v) [] res ro []) (hc : res.clean=true) :
  LS Z N ops o { d:=some (d,gate,res),drop:=[.t d],gain:=cond gate (ro.map fun sz=>(.t d,sz)) none } R st :=
 fun _ hag _=>(Rl ho (N6 hag.sub hg) hd hN (Ab hag.sub hf) (Eu hag.sub ha) hgf hga hs hc).sub Uy
theorem Js {gate g : Bool} {d : Nat} {t : TypeId} {len : Nat} {parts : Array (Nat × Operand)} {xs : List Operand} {ti : TyI} {e sz by' : Nat} {rws : List (List C)} {R : Foot}
  (ho : o.op = .buildSlice t len parts) (hg : G8 ops (rs R st) o=some gate) (hd : o.dst=some d) (hN : Nat.ble (d + 1) N=true) (ht : tyAt Z.T t=some ti) (hel : ti.el=some (e,sz,by')) (hp : parts.toList=Ec 0 xs) (hx : Nat.beq xs.length len=true)
  (hrs : R9 Z.T (rs R st) e sz xs=some (g,rws)) (hga : gate=true→g=true) (hbig : Nat.ble (len * sz) 10000=true) :
  LS Z N ops o { d:=some (d,gate, .v (.c (.sl sz rws))),drop:=[.t d],gain:=cond gate ((some sz).map fun sz=>(.t d,sz)) none } R st :=
 fun _ hag _=>(X2 ho (N6 hag.sub hg) hd hN ht hel hp hx (Ht hag.sub hrs) hga hbig).sub Uy
theorem Uu {s2 : St} {d k sz : Nat} {x : X} : Sub (ap { d:=some (d,true,x),drop:=[.t d, .t k],gain:=some (.t d,sz) } s2) (s2.take d k x sz) where
 t:=fun j e hj=>by
  rw[P7] at hj
  show (s2.put d (true,x)).get j=_
  rw[St.put_get]
  simp only [Eff.gt] at hj
  by_cases h : d=j
  ·subst h; simpa using hj
  ·have h' : ¬ j=d:=fun e=>h e.symm
   simpa [h,h'] using hj
 bx:=fun n cs hn=>by rw[Q8] at hn; exact hn
 ow:=fun p s hp=>by
  rw[O8] at hp
  unfold St.take
  rw[St.addOwn_own]
  simp only [Eff.go,List.mem_cons,List.not_mem_nil,or_false] at hp
  split
  ·rename_i he; rw[if_pos he] at hp; exact hp
  ·rename_i he
   rw[if_neg he] at hp
   rw[St.unown_own,St.put_own]
   split
   ·rename_i h2; rw[if_pos (.inr h2)] at hp; exact hp
   ·rename_i h2
    split
    ·rename_i h3; rw[if_pos (.inl h3)] at hp; exact hp
    ·rename_i h3; rw[if_neg (by rintro (h | h) <;> contradiction)] at hp; exact hp
theorem Xe {d k : Nat} {x : Operand} {t : TypeId} {sz e by' : Nat} {es xs : List (List C)} {ti : TyI} {R : Foot} (ho : o.op = .call { callee:=.builtin .append,args:=#[.tmp k,x],argTypes:=#[t,t] }) (hg : G8 ops (rs R st) o=some true) (hd : o.dst=some d)
  (hs : (rs R st).get k=some (true, .v (.c (.sl sz es)))) (hw : (rs R st).own (.t k)=some sz) (hx : lk Z.T (rs R st) t x=some (true, .v (.c (.sl sz xs))))
  (ht : tyAt Z.T t=some ti) (hel : ti.el=some (e,sz,by')) (hN : Nat.ble (d + 1) N=true) (hkd : Nat.beq k d=false) (hbig : (es.length + xs.length) * by'≤140737488355328) (hmax : es.length + xs.length≤9223372036854775807) :
  LS Z N ops o { d:=some (d,true, .v (.c (.sl sz (es++xs)))),drop:=[.t d, .t k],gain:=some (.t d,sz) } R st :=
 fun s2 hag _=>(Dn (N6 hag.sub hg) (by rw[hd,ho]; exact F7 (hag.sub.t _ _ hs) (hag.sub.ow _ _ hw) (Ab hag.sub hx) ht hel hN hkd hbig hmax)).sub (Uu (s2:=s2) (x:=.v (.c (.sl sz (es++xs)))))
theorem uBe {d k sz : Nat} {x : X} {R : Foot} (hop : o.op = .move (.tmp k)∨o.op = .assign (.tmp k)) (hg : G8 ops (rs R st) o=some true) (hd : o.dst=some d) (h : (rs R st).get k=some (true,x)) (hw : (rs R st).own (.t k)=some sz) (hN : Nat.ble (d + 1) N=true) :
  LS Z N ops o { d:=some (d,true,x),drop:=[.t d, .t k],gain:=some (.t d,sz) } R st :=
 fun s2 hag _=>(Dn (N6 hag.sub hg) (by rw[hd]; exact F2 hop (hag.sub.t _ _ h) (hag.sub.ow _ _ hw) hN)).sub (Uu (s2:=s2) (x:=x))
def N5 (n : Nm) (off : Nat) : Nat→List Pl
 | 0=>[]
 | k + 1=>.b n off :: N5 n (off + 1) k
theorem mem_cellPls {n : Nm} {p : Pl} : ∀ {len off : Nat},p ∈ N5 n off len ↔ Pl.inCells n off len p=true
 | 0,off=>by
  cases p with
  | t k=>simp [N5,Pl.inCells]
  | b m k =>
   simp only [N5,List.not_mem_nil,false_iff,Pl.inCells,Bool.and_eq_true,not_and]
   intro _ h1 h2
   have := Nat.le_of_ble_eq_true h1
   have := Nat.le_of_ble_eq_true h2
   omega
 | len + 1,off=>by
  simp only [N5,List.mem_cons,mem_cellPls (len:=len) (off:=off + 1)]
  cases p with
  | t k=>simp [Pl.inCells]
  | b m k =>
   simp only [Pl.inCells,Bool.and_eq_true,Nm.beq_iff,Pl.b.injEq]
   constructor
   ·rintro (⟨rfl,rfl⟩ | ⟨h1,h2,h3⟩)
    ·exact ⟨rfl,Nat.ble_eq_true_of_le (Nat.le_refl _),Nat.ble_eq_true_of_le (by omega)⟩
    ·have := Nat.le_of_ble_eq_true h2
     have := Nat.le_of_ble_eq_true h3
     exact ⟨h1,Nat.ble_eq_true_of_le (by omega),Nat.ble_eq_true_of_le (by omega)⟩
   ·rintro ⟨h1,h2,h3⟩
    have := Nat.le_of_ble_eq_true h2
    have := Nat.le_of_ble_eq_true h3
    by_cases hk : k=off
    ·exact .inl ⟨h1,hk⟩
    ·exact .inr ⟨h1,Nat.ble_eq_true_of_le (by omega),Nat.ble_eq_true_of_le (by omega)⟩
theorem Xk {s2 : St} {n : Nm} {cs : List C} {off len : Nat} : Sub (ap { b:=some (n,cs),drop:=N5 n off len } s2) (s2.store n cs off len) where
 t:=fun j e hj=>by rw[P7] at hj; exact hj
 bx:=fun m ds hm=>by
  rw[Q8] at hm
  rw[St.store_box]
  simp only [Eff.gb] at hm
  split
  ·rename_i he; rw[if_pos he] at hm; exact hm
  ·rename_i he; rw[if_neg he] at hm; exact hm
 ow:=fun p s hp=>by
  rw[O8] at hp
  rw[St.store_own]
  simp only [Eff.go] at hp
  split
  ·rename_i he; rw[if_pos (mem_cellPls.2 he)] at hp; exact hp
  ·rename_i he; rw[if_neg (fun h=>he (mem_cellPls.1 h))] at hp; exact hp
theorem uAb {t : TypeId} {x v : Operand} {n : Nm} {off : Nat} {y : Y} {cs ds : List C} {ti : TyI} {R : Foot} (ho : o.op = .store t x v) (hg : G8 ops (rs R st) o=some true) (hd : o.dst=none)
  (hx : lk Z.T (rs R st) t x=some (true, .v (.ptr n off))) (hv : lk Z.T (rs R st) t v=some (true, .v y)) (hc : y.cells=some ds)
  (hb : (rs R st).box n=some cs) (ht : tyAt Z.T t=some ti) (hn : ds.length=ti.n) (hl : Nat.ble (off + ds.length) cs.length=true) (hnb : (!n.isBd || !Nat.beq off 0)=true:=by rfl) :
  LS Z N ops o { b:=some (n,I4 cs off ds),drop:=N5 n off ds.length } R st :=
 fun _ hag _=>(Dn (N6 hag.sub hg) (by rw[hd,ho]; exact C7 (Ab hag.sub hx) (Ab hag.sub hv) hc (hag.sub.bx _ _ hb) ht hn hl hnb)).sub Xk
theorem Pm {d : Nat} {t : TypeId} {x : Operand} {n : Nm} {off : Nat} {ti : TyI} {cs : List C} {c : C} {sz : Nat} {R : Foot} (ho : o.op = .load t x) (hg : G8 ops (rs R st) o=some true) (hd : o.dst=some d) (h : lk Z.T (rs R st) o.type x=some (true, .v (.ptr n off)))
  (ht : tyAt Z.T t=some ti) (hagg : ti.agg=false) (hb : (rs R st).box n=some cs) (hc : cs[off]? = some c) (hw : (rs R st).own (.b n off)=some sz) (hN : Nat.ble (d + 1) N=true) :
  LS Z N ops o { d:=some (d,true, .v (.c c)),drop:=[.t d, .b n off],gain:=some (.t d,sz) } R st:=by
 intro s2 hag _
 refine (Dn (N6 hag.sub hg) (by rw[hd,ho]; exact I5 (Ab hag.sub h) ht hagg (hag.sub.bx _ _ hb) hc (hag.sub.ow _ _ hw) hN)).sub ⟨?_,?_,?_,by exact .inr J⟩
 ·intro j e hj
  rw[P7] at hj
  show (s2.put d (true, .v (.c c))).get j=_
  rw[St.put_get]
  simp only [Eff.gt] at hj
  by_cases h : d=j
  ·subst h; simpa using hj
  ·have h' : ¬ j=d:=fun e=>h e.symm
   simpa [h,h'] using hj
 ·intro n cs hn; rw[Q8] at hn; exact hn
 ·intro p s hp
  rw[O8] at hp
  rw[St.addOwn_own]
  simp only [Eff.go,List.mem_cons,List.not_mem_nil,or_false] at hp
  split
  ·rename_i he; rw[if_pos he] at hp; exact hp
  ·rename_i he
   rw[if_neg he] at hp
   rw[St.unown_own,St.put_own]
   split
   ·rename_i h2; rw[if_pos (.inr h2)] at hp; exact hp
   ·rename_i h2
    split
    ·rename_i h3; rw[if_pos (.inl h3)] at hp; exact hp
    ·rename_i h3; rw[if_neg (by rintro (h | h) <;> contradiction)] at hp; exact hp
theorem Pu {t : TypeId} {x : Operand} {k : Nat} {n : Nm} {off : Nat} {c : C} {cs : List C} {ti : TyI} {sz : Nat} {R : Foot} (ho : o.op = .store t x (.tmp k)) (hg : G8 ops (rs R st) o=some true) (hd : o.dst=none)
  (hx : lk Z.T (rs R st) t x=some (true, .v (.ptr n off))) (hv : (rs R st).get k=some (true, .v (.c c)))
  (hb : (rs R st).box n=some cs) (ht : tyAt Z.T t=some ti) (hn : ti.n=1) (hl : Nat.ble (off + 1) cs.length=true) (hw : (rs R st).own (.t k)=some sz) (hnb : n.isBd=false:=by rfl) :
  LS Z N ops o { b:=some (n,I4 cs off [c]),drop:=[.t k, .b n off],gain:=some (.b n off,sz) } R st:=by
 intro s2 hag _
 refine (Dn (N6 hag.sub hg) (by rw[hd,ho]; exact H8 (Ab hag.sub hx) (hag.sub.t _ _ hv) (hag.sub.bx _ _ hb) ht hn hl (hag.sub.ow _ _ hw) hnb)).sub ⟨?_,?_,?_,by exact .inr J⟩
 ·intro j e hj; rw[P7] at hj; exact hj
 ·intro m ds hm
  rw[Q8] at hm
  show (s2.store n (I4 cs off [c]) off 1).box m=_
  rw[St.store_box]
  simp only [Eff.gb] at hm
  split
  ·rename_i he; rw[if_pos he] at hm; exact hm
  ·rename_i he; rw[if_neg he] at hm; exact hm
 ·intro p s hp
  rw[O8] at hp
  rw[St.addOwn_own]
  simp only [Eff.go,List.mem_cons,List.not_mem_nil,or_false] at hp
  split
  ·rename_i he; rw[if_pos he] at hp; exact hp
  ·rename_i he
   rw[if_neg he] at hp
   rw[St.unown_own,St.store_own]
   split
   ·rename_i h2; rw[if_pos (.inl h2)] at hp; exact hp
   ·rename_i h2
    split
    ·rename_i h3
     have h4:=mem_cellPls.2 h3
     simp [N5] at h4
     exact absurd h4.symm he
    ·rename_i h3; rw[if_neg (by rintro (h | h); exact h2 h; exact he h.symm)] at hp; exact hp
def Draw (Z : Pg) (N : Nat) (s0 : St) (ops : Array Oper) (B : List Nat) (k : Nat) (rest : List Oper) (acc : List Lnk) (st : St) (Q : St→Prop) : Prop :=
 ∃ L sf,Chain Z N ops L st sf∧Nat.beq L.length rest.length=true∧Y3 k L=true∧(W9 B (acc++L) && nmB B (acc++L))=true∧(∀ l ∈ L,∀ n ∈ l.2.2.rn,s0.freshO n=true)∧Q sf
theorem F9 {s0 : St} {B : List Nat} {k : Nat} {acc : List Lnk} {Q : St→Prop} (hp : (W9 B acc && nmB B acc)=true) (hQ : Q st) : Draw Z N s0 ops B k [] acc st Q :=
 ⟨[],st,Eqv.refl _,rfl,rfl,by simpa using hp,fun l hl=>by simp at hl,hQ⟩
theorem Q3 {s0 : St} {B : List Nat} {k : Nat} {rest : List Oper} {acc : List Lnk} {Q : St→Prop} {e : Eff} {R : Foot} (hk : ops[k]? = some o) (h : LS Z N ops o e R st) (hr : Draw Z N s0 ops B (k + 1) rest (acc++[(k,e,R)]) (ap e st) Q)
  (hf : ∀ n ∈ R.rn,s0.freshO n=true:=by intro n hn; exact absurd hn (List.not_mem_nil)) : Draw Z N s0 ops B k (o :: rest) acc st Q:=by
 obtain ⟨L,sf,h1,h2,h3,h4,h6,h5⟩:=hr
 refine ⟨(k,e,R) :: L,sf,⟨⟨o,hk,h⟩,h1⟩,?_,?_,by simpa using h4,?_,h5⟩
 ·have := Nat.eq_of_beq_eq_true h2; simp [this]
 ·simp only [Y3,Bool.and_eq_true]; exact ⟨by simp,h3⟩
 ·intro l hl
  rcases List.mem_cons.1 hl with rfl | hl
  ·exact hf
  ·exact h6 l hl
theorem Xw {Q : Exit→St→Prop} {id : Nat} {l : List Oper} (B : List Nat) (hcert : Lp l.toArray B=true) (h : Draw Z N st l.toArray B 0 l [] st (Q .normal)) : AWP Z N (.region id l.toArray true) Q st:=by
 obtain ⟨L,sf,h1,h2,h3,h4,h6,h5⟩:=h
 rw[Bool.and_eq_true] at h4
 exact Xz B h1 h2 h3 hcert (by simpa using h4.1) (by simpa using h4.2) (fun l hl n hn=>St.freshO_ok (h6 l hl n hn)) h5
end
end Go.Abs
