/- Our abstract program logic and contracts of this seat's functions, part 3: no statement of its own (long names of ours are shortened by a program). -/
import Derived.Test.YteidahabkfgfjaaGreatM2
import Derived.Lib.Join
import Derived.Shelf.Strings.OnBuilder
import Derived.Shelf.Small.Strs
import Derived.Shelf.Strings.SlTrimAscii
import Derived.Shelf.Strings.Prefix
import Derived.Shelf.Strings.Split
import Derived.Shelf.LaysM
import Derived.Shelf.Strings.Search3
import Derived.Test.YteidahabkfgfjaaGreatProg
import Derived.KernelRfl
import Derived.WalkKit
import Derived.Lib.Builder
import Derived.Lib.UnsafeStr
import Derived.Laws.Externs
set_option linter.unusedVariables false
set_option linter.unusedSimpArgs false
namespace Go.Proofs.YteidahabkfgfjaaGreat
open Go Go.Abs
inductive T where
 | mk (kind : Int) (name : List UInt8) (sort : Int) (kids : List T)
 deriving Inhabited
namespace T
def kind : T→Int | mk k _ _ _=>k
def name : T→List UInt8 | mk _ n _ _=>n
def sort : T→Int | mk _ _ s _=>s
def kids : T→List T | mk _ _ _ ks=>ks
mutual
def cells' : T→List C
 | mk k n s ks=>[.i .i64 k, .s n, .i .i64 s, .sl 4 (rows ks)]
def rows : List T→List (List C)
 | []=>[]
 | t :: ts=>cells' t :: rows ts
end
def cells (t : T) : List C:=[.i .i64 t.kind, .s t.name, .i .i64 t.sort, .sl 4 (rows t.kids)]
theorem uOj (t : T) : cells' t=t.cells:=by cases t; rw[cells']; rfl
theorem rows_eq : ∀ ts : List T,rows ts=ts.map cells
 | []=>by rw[rows]; rfl
 | t :: ts=>by rw[rows,rows_eq ts,uOj]; rfl
theorem rows_get {ts : List T} {k : Nat} {t : T} (h : ts[k]? = some t) : (rows ts)[k]? = some t.cells:=by
 rw[rows_eq,List.getElem?_map,h]; rfl
theorem rows_len (ts : List T) : (rows ts).length=ts.length:=by rw[rows_eq]; simp
mutual
def size : T→Nat
 | mk _ _ _ ks=>1 + sizes ks
def sizes : List T→Nat
 | []=>0
 | t :: ts=>size t + sizes ts
end
theorem size_pos (t : T) : 1≤t.size:=by cases t; rw[size]; omega
theorem size_eq (t : T) : t.size=1 + sizes t.kids:=by cases t; rw[size]; rfl
theorem sizes_take : ∀ (ts : List T) (k : Nat) (t : T),ts[k]? = some t→sizes (ts.take (k + 1))=sizes (ts.take k) + t.size
 | [],k,t,h=>by simp at h
 | x :: xs,0,t,h=>by simp at h; subst h; simp [sizes]
 | x :: xs,k + 1,t,h=>by
  have := sizes_take xs k t (by simpa using h)
  simp only [List.take_succ_cons,sizes]
  omega
theorem sizes_take_le : ∀ (ts : List T) (k : Nat),sizes (ts.take k)≤sizes ts
 | [],k=>by simp
 | x :: xs,0=>by simp [sizes]
 | x :: xs,k + 1=>by
  have := sizes_take_le xs k
  simp only [List.take_succ_cons,sizes]
  omega
theorem size_kid {t x : T} {k : Nat} (h : t.kids[k]? = some x) : x.size < t.size:=by
 have h1:=sizes_take _ _ _ h
 have h2:=sizes_take_le t.kids (k + 1)
 have h3:=t.size_eq
 omega
end T
end Go.Proofs.YteidahabkfgfjaaGreat
namespace Go.Proofs.YteidahabkfgfjaaGreat
open Go Go.Abs
structure Fs where
 role : List UInt8
 name : List UInt8
 sort : Int
 deriving Inhabited,DecidableEq
structure Sp where
 frm : List UInt8
 dst : List UInt8
 msg : T
 line : Int
 deriving Inhabited
structure Gl where
 kind : Int
 role : List UInt8
 wth : List UInt8
 data : List T
 line : Int
 deriving Inhabited
structure Nar where
 name : List UInt8
 roles : List (List UInt8)
 fresh : List Fs
 tags : List (List UInt8)
 steps : List Sp
 goals : List Gl
 deriving Inhabited
def Fs.cells (f : Fs) : List C:=[.s f.role, .s f.name, .i .i64 f.sort]
def Sp.cells (s : Sp) : List C:=[.s s.frm, .s s.dst, .i .i64 s.msg.kind, .s s.msg.name, .i .i64 s.msg.sort, .sl 4 (T.rows s.msg.kids), .i .i64 s.line]
def Gl.cells (g : Gl) : List C:=[.i .i64 g.kind, .s g.role, .s g.wth, .sl 4 (T.rows g.data), .i .i64 g.line]
def Fs.rows (l : List Fs) : List (List C):=l.map Fs.cells
def Sp.rows (l : List Sp) : List (List C):=l.map Sp.cells
def Gl.rows (l : List Gl) : List (List C):=l.map Gl.cells
theorem Fs.rows_len (l : List Fs) : (Fs.rows l).length=l.length:=by simp [Fs.rows]
theorem Sp.rows_len (l : List Sp) : (Sp.rows l).length=l.length:=by simp [Sp.rows]
theorem Gl.rows_len (l : List Gl) : (Gl.rows l).length=l.length:=by simp [Gl.rows]
theorem Fs.rows_at {l : List Fs} {k : Nat} (h : k < l.length) : (Fs.rows l)[k]? = some (l.getD k default).cells:=by
 rw[Fs.rows,List.getElem?_map,List.getD_eq_getElem?_getD,List.getElem?_eq_getElem h]; rfl
theorem Sp.rows_at {l : List Sp} {k : Nat} (h : k < l.length) : (Sp.rows l)[k]? = some (l.getD k default).cells:=by
 rw[Sp.rows,List.getElem?_map,List.getD_eq_getElem?_getD,List.getElem?_eq_getElem h]; rfl
theorem Gl.rows_at {l : List Gl} {k : Nat} (h : k < l.length) : (Gl.rows l)[k]? = some (l.getD k default).cells:=by
 rw[Gl.rows,List.getElem?_map,List.getD_eq_getElem?_getD,List.getElem?_eq_getElem h]; rfl
theorem T.rows_at {l : List T} {k : Nat} (h : k < l.length) : (T.rows l)[k]? = some (l.getD k default).cells:=by
 rw[T.rows_eq,List.getElem?_map,List.getD_eq_getElem?_getD,List.getElem?_eq_getElem h]; rfl
theorem Fs.rows_app (a b : List Fs) : Fs.rows (a++b)=Fs.rows a++Fs.rows b:=by simp [Fs.rows]
theorem Sp.rows_app (a b : List Sp) : Sp.rows (a++b)=Sp.rows a++Sp.rows b:=by simp [Sp.rows]
theorem Gl.rows_app (a b : List Gl) : Gl.rows (a++b)=Gl.rows a++Gl.rows b:=by simp [Gl.rows]
theorem T.getD_size {l : List T} {k : Nat} (h : k < l.length) : T.sizes (l.take k) + (l.getD k default).size≤T.sizes l:=by
 have h0 : l[k]? = some (l.getD k default):=by rw[List.getD_eq_getElem?_getD,List.getElem?_eq_getElem h]; rfl
 have h1:=T.sizes_take l k _ h0
 have h2:=T.sizes_take_le l (k + 1)
 omega
theorem T.getD_some {l : List T} {k : Nat} (h : k < l.length) : l[k]? = some (l.getD k default):=by
 rw[List.getD_eq_getElem?_getD,List.getElem?_eq_getElem h]; rfl
def Nar.cells (n : Nar) : List C:=[.s n.name, .sl 1 (strR n.roles), .sl 3 (Fs.rows n.fresh), .sl 1 (strR n.tags), .sl 7 (Sp.rows n.steps), .sl 5 (Gl.rows n.goals)]
abbrev xn (n : Nar) : X:=.v (.agg n.cells)
abbrev xsp (s : Sp) : X:=.v (.agg s.cells)
abbrev xg (g : Gl) : X:=.v (.agg g.cells)
structure PS where
 at' : Nat
 bad : Bool
 deriving Inhabited,DecidableEq
def PS.go (p : PS) : PS:=⟨p.at' + 1,p.bad⟩
def PS.off (p : PS) : PS:=⟨p.at',true⟩
def symQ (l : List Tk) (p : PS) (c : List UInt8) : Bool:=!p.bad && decide (p.at' < l.length) && decide ((l.getD p.at' tk0).kind=4) && decide ((l.getD p.at' tk0).text=c)
def uAS (l : List Tk) (c : List UInt8) (p : PS) : PS:=if symQ l p c=true then p.go else p.off
def namQ (l : List Tk) (p : PS) (ws : List (List UInt8)) : Bool:=!p.bad && decide (p.at' < l.length) && decide ((l.getD p.at' tk0).kind=1) && (decide (ws=[]) || ws.contains (l.getD p.at' tk0).text)
def uAy (l : List Tk) (ws : List (List UInt8)) (p : PS) : List UInt8 × PS:=if namQ l p ws=true then ((l.getD p.at' tk0).text,p.go) else ([],p.off)
def uBV {α : Type} (l : List Tk) (f : PS→α × PS) : Nat→PS→List α→List α × PS
 | 0,p,out=>(out,p)
 | n + 1,p,out=>if symQ l p [44]=true then uBV l f n (f p.go).2 (out++[(f p.go).1]) else (out,p)
def uBb {α : Type} (l : List Tk) (f : PS→α × PS) (p : PS) : List α × PS:=uBV l f (l.length + 1) (f p).2 [(f p).1]
def uBB (l : List Tk) (p : PS) : List (List UInt8) × PS:=uBb l (uAy l []) p
def uGy : List UInt8:=[112,97,105,114]
def uP7 (a b : T) : T:=⟨3,uGy,0,[a,b]⟩
def tupT : List T→T
 | []=>⟨0,[],0,[]⟩
 | [t]=>t
 | t :: u :: l=>uP7 t (tupT (u :: l))
def T0 : T:=⟨0,[],0,[]⟩
def uBw (l : List Tk) : Nat→PS→T × PS
 | 0,p=>(default,p)
 | n + 1,p=>if symQ l p [60]=true then
   (tupT ((uBw l n p.go).1 :: (uBb l (uBw l n) (uAS l [44] (uBw l n p.go).2)).1),uAS l [62] (uBb l (uBw l n) (uAS l [44] (uBw l n p.go).2)).2)
  else if symQ l (uAy l [] p).2 [40]=true then
   (if symQ l (uAy l [] p).2.go [41]=true then (⟨3,(uAy l [] p).1,0,[]⟩,(uAy l [] p).2.go.go)
   else (⟨3,(uAy l [] p).1,0,(uBb l (uBw l n) (uAy l [] p).2.go).1⟩,uAS l [41] (uBb l (uBw l n) (uAy l [] p).2.go).2))
  else (⟨2,(uAy l [] p).1,0,[]⟩,(uAy l [] p).2)
def uA4 (l : List Tk) : Nat→PS→T × PS
 | 0,p=>(default,p)
 | n + 1,p=>if symQ l p [60]=true then
   (if (uAS l [62] (uBb l (uA4 l n) (uAS l [44] (uA4 l n p.go).2)).2).bad=true then (T0,uAS l [62] (uBb l (uA4 l n) (uAS l [44] (uA4 l n p.go).2)).2)
   else (tupT ((uA4 l n p.go).1 :: (uBb l (uA4 l n) (uAS l [44] (uA4 l n p.go).2)).1),uAS l [62] (uBb l (uA4 l n) (uAS l [44] (uA4 l n p.go).2)).2))
  else if symQ l (uAy l [] p).2 [40]=true then
   (if symQ l (uAy l [] p).2.go [41]=true then (⟨3,(uAy l [] p).1,0,[]⟩,(uAy l [] p).2.go.go)
   else (⟨3,(uAy l [] p).1,0,(uBb l (uA4 l n) (uAy l [] p).2.go).1⟩,uAS l [41] (uBb l (uA4 l n) (uAy l [] p).2.go).2))
  else (⟨2,(uAy l [] p).1,0,[]⟩,(uAy l [] p).2)
def uBr (l : List (List UInt8)) (s : List UInt8) : Int:=match l with
 | []=>-1
 | x :: r=>if x=s then 0 else if uBr r s < 0 then -1 else uBr r s + 1
def sortW : List (List UInt8):=[[110,111,110,99,101],[107,101,121],[100,97,116,97]]
def kindW : List (List UInt8):=[[115,101,99,114,101,116],[97,103,114,101,101],[105,110,106,101,99,116],[102,114,101,115,104],[102,111,114,119,97,114,100]]
def uMa : List UInt8:=[114,111,108,101]
def uJm : List UInt8:=[102,114,101,115,104]
def uMw : List UInt8:=[116,97,103]
def wMsg : List UInt8:=[109,101,115,115,97,103,101]
def uMH : List UInt8:=[103,111,97,108]
def uHO : List UInt8:=[112,114,111,116,111,99,111,108]
def uBF : List (List UInt8):=[uMa,uJm,uMw,wMsg,uMH]
def uCb (l : List Tk) (role : List UInt8) : Nat→PS→List Fs→List Fs × PS
 | 0,p,out=>(out,p)
 | n + 1,p,out=>if p.bad=true then (out,p) else
   if symQ l (uAy l sortW (uAy l [] p).2).2 [44]=true then uCb l role n (uAy l sortW (uAy l [] p).2).2.go (out++[⟨role,(uAy l [] p).1,2 + uBr sortW (uAy l sortW (uAy l [] p).2).1⟩])
   else (out++[⟨role,(uAy l [] p).1,2 + uBr sortW (uAy l sortW (uAy l [] p).2).1⟩],(uAy l sortW (uAy l [] p).2).2)
def uEg (l : List Tk) (p : PS) (out : List Fs) : List Fs × PS:=uCb l (uAy l [] p).1 (l.length + 1) (uAS l [58] (uAy l [] p).2) out
def uGZ (l : List Tk) (line : Int) (p : PS) : Sp × PS :=
 let a:=uAy l [] p
 let b:=uAy l [] (uAS l [62] (uAS l [45] a.2))
 let t:=uBw l (l.length + 1) (uAS l [58] b.2)
 (⟨a.1,b.1,t.1,line⟩,t.2)
def uBs (k : Int) : Bool:=decide (k=2) || decide (k=3)
def uGB (l : List Tk) (line : Int) (p : PS) : Gl × PS :=
 let k:=uAy l kindW p
 let r:=uAy l [] k.2
 let w:=if uBs (1 + uBr kindW k.1)=true then uAy l [] r.2 else ([],r.2)
 let d:=uBb l (uBw l (l.length + 1)) (uAS l [58] w.2)
 (⟨1 + uBr kindW k.1,r.1,w.1,d.1,line⟩,d.2)
def uCB (l : List Tk) (p : PS) : Int:=if p.at' < l.length then (l.getD p.at' tk0).line else 0
def uDn (l : List Tk) (n : Nar) (line : Int) (w : List UInt8) (q : PS) : Nar × PS :=
 if w=uMa then ({ n with roles:=n.roles++(uBB l q).1 },(uBB l q).2)
 else if w=uJm then ({ n with fresh:=(uEg l q n.fresh).1 },(uEg l q n.fresh).2)
 else if w=uMw then ({ n with tags:=n.tags++(uBB l q).1 },(uBB l q).2)
 else if w=wMsg then ({ n with steps:=n.steps++[(uGZ l line q).1] },(uGZ l line q).2)
 else if w=uMH then ({ n with goals:=n.goals++[(uGB l line q).1] },(uGB l line q).2)
 else (n,q)
def uDZ (l : List Tk) (n : Nar) (p : PS) : Nar × PS :=
 ((uDn l n (uCB l p) (uAy l uBF p).1 (uAy l uBF p).2).1,uAS l [59] (uDn l n (uCB l p) (uAy l uBF p).1 (uAy l uBF p).2).2)
def uEM (l : List Tk) : Nat→Nar→PS→Nar × PS
 | 0,n,p=>(n,p)
 | m + 1,n,p=>if p.bad=true then (n,p) else if symQ l p [125]=true then (n,p.go) else uEM l m (uDZ l n p).1 (uDZ l n p).2
def uJH (l : List Tk) (p : PS) : Int:=if l.length=0 then 1 else if l.length≤p.at' then (l.getD (l.length - 1) tk0).line else (l.getD p.at' tk0).line
def endE (l : List Tk) (p : PS) : Int × Int:=if p.bad=true∨p.at' < l.length then (uJH l p,2) else (0,0)
def nar0 : Nar:=⟨[],[],[],[],[],[]⟩
def uD8 (l : List Tk) : Nar × PS :=
 let a:=uAy l [uHO] ⟨0,false⟩
 let b:=uAy l [] a.2
 uEM l (l.length + 2) { nar0 with name:=b.1 } (uAS l [123] b.2)
def Tk.nl (t : Tk) (b : Bool) : Tk:=if b=true then t else t.onl 0
def uBT (s : List UInt8) : List UInt8:=s.take (uCi true s)
theorem uEj {i : Bool} {c : UInt8} {r : List UInt8} (h1 : ¬(i=true∧c.toNat=92)) (h2 : ¬((if c.toNat=34 then !i else i)=false∧c.toNat=35∧(r.getD 0 0).toNat=35)) :
  uCi i (c :: r)=uCi (if c.toNat=34 then !i else i) r + 1:=by
 cases r with
 | nil=>simp [uCi]
 | cons d l =>
  rw[List.getD_cons_zero] at h2
  rw[uCi,if_neg h1,if_neg h2]
theorem uCs {c : UInt8} {r : List UInt8} (hc : c.toNat≠34) (h2 : ¬(c.toNat=35∧(r.getD 0 0).toNat=35)) : uBf (c :: r)=c :: uBf r:=by
 unfold uBf
 rw[uEj (by simp) (by rw[if_neg hc]; rintro ⟨-, q⟩; exact h2 q),if_neg hc,List.take_succ_cons]
theorem uDf {c : UInt8} {r : List UInt8} (hc : c.toNat=34) : uBf (c :: r)=c :: uBT r:=by
 unfold uBf uBT
 rw[uEj (by simp) (by rintro ⟨-, q,-⟩; omega),if_pos hc,List.take_succ_cons]; rfl
theorem uGj {c : UInt8} {r : List UInt8} (hc : c.toNat=35) (hd : (r.getD 0 0).toNat=35) : uBf (c :: r)=[]:=by
 cases r with
 | nil=>simp at hd
 | cons d l =>
  rw[List.getD_cons_zero] at hd
  unfold uBf
  rw[uCi,if_neg (by simp),if_pos ⟨by rw[if_neg (by omega)],hc,hd⟩]; rfl
theorem uKL {c : UInt8} {r : List UInt8} (hc : c.toNat=34) : uBT (c :: r)=c :: uBf r:=by
 unfold uBf uBT
 rw[uEj (by rintro ⟨-, q⟩; omega) (by rintro ⟨-, q,-⟩; omega),if_pos hc,List.take_succ_cons]; rfl
theorem uDC {c : UInt8} {r : List UInt8} (h1 : c.toNat≠34) (h2 : c.toNat≠92) : uBT (c :: r)=c :: uBT r:=by
 unfold uBT
 rw[uEj (by rintro ⟨-, q⟩; omega) (by rw[if_neg h1]; rintro ⟨q,-⟩; simp at q),if_neg h1,List.take_succ_cons]
theorem uNB {c d : UInt8} {r : List UInt8} (h : c.toNat=92) : uBT (c :: d :: r)=c :: d :: uBT r:=by
 unfold uBT
 rw[uCi,if_pos ⟨rfl,h⟩]; rfl
theorem uNb (c : UInt8) : uBT [c]=[c]:=by unfold uBT; rw[uCi]; rfl
theorem uGb : uBf []=[]:=rfl
theorem uNC : uBT []=[]:=rfl
theorem uMs (b : UInt8) (l : List UInt8) : ([35,35] : List UInt8).isPrefixOf (b :: l)=(decide (b.toNat=35) && decide ((l.getD 0 0).toNat=35)):=by
 have hb : ∀ x : UInt8,((35 : UInt8) == x)=decide (x.toNat=35):=by
  intro x
  rw[Bool.eq_iff_iff]
  simp only [beq_iff_eq,decide_eq_true_eq]
  exact ⟨fun h=>by subst h; rfl,fun h=>UInt8.toNat_inj.1 (by rw[h]; rfl)⟩
 cases l with
 | nil=>simp [List.isPrefixOf,hb]
 | cons c r=>simp [List.isPrefixOf,hb]
theorem uIz : ∀ (l : List UInt8),wdN (uBf l)=nmP l∧(uBf l).take (nmP l)=l.take (nmP l)∧(uBf l).drop (nmP l)=uBf (l.drop (nmP l))
 | []=>by simp [uGb,wdN,nmP]
 | b :: r=>by
  by_cases h : uB4 (b.toNat : Int)=true ∧ ¬(b.toNat=35∧(r.getD 0 0).toNat=35)
  ·have h34 : b.toNat≠34:=by
    intro q
    have := h.1
    rw[q] at this
    revert this; decide
   obtain ⟨i1,i2,i3⟩:=uIz r
   rw[uCs h34 h.2,wdN,if_pos h.1,nmP,if_pos h,i1]
   exact ⟨rfl,by rw[List.take_succ_cons,List.take_succ_cons,i2],by rw[List.drop_succ_cons,List.drop_succ_cons,i3]⟩
  ·have hn : nmP (b :: r)=0:=by rw[nmP,if_neg h]
   rw[hn]
   refine ⟨?_,by simp,by simp⟩
   by_cases hq : b.toNat=35∧(r.getD 0 0).toNat=35
   ·rw[uGj hq.1 hq.2]; rfl
   ·have hp : ¬uB4 (b.toNat : Int)=true:=fun q=>h ⟨q,hq⟩
    by_cases h34 : b.toNat=34
    ·rw[uDf h34,wdN,if_neg hp]
    ·rw[uCs h34 hq,wdN,if_neg hp]
theorem uJU : ∀ (l : List UInt8) (n : Nat) (v : Int),numA (uBf l) n v=numA l n v∧((numA l n v).1=true → ∃ j,(numA l n v).2.1=n + j∧(uBf l).drop j=uBf (l.drop j))
 | [],n,v=>by rw[uGb]; exact ⟨rfl,fun _=>⟨0,rfl,rfl⟩⟩
 | b :: r,n,v=>by
  by_cases h : uBI (b.toNat : Int)=true
  ·have hd : (48 : Int)≤b.toNat∧(b.toNat : Int)≤57:=by simpa [uBI] using h
   rw[uCs (by omega) (by omega),numA,if_pos h,numA,if_pos h]
   split
   ·exact ⟨rfl,fun q=>by simp at q⟩
   ·obtain ⟨i1,i2⟩:=uJU r (n + 1) (10 * v + ((b.toNat : Int) - 48))
    refine ⟨i1,fun q=>?_⟩
    obtain ⟨j,q1,q2⟩:=i2 q
    exact ⟨j + 1,by omega,by rw[List.drop_succ_cons,List.drop_succ_cons,q2]⟩
  ·have e : numA (b :: r) n v=(true,n,v):=by rw[numA,if_neg h]
   rw[e]
   refine ⟨?_,fun _=>⟨0,rfl,rfl⟩⟩
   by_cases hq : b.toNat=35∧(r.getD 0 0).toNat=35
   ·rw[uGj hq.1 hq.2]; rfl
   ·by_cases h34 : b.toNat=34
    ·rw[uDf h34,numA,if_neg h]
    ·rw[uCs h34 hq,numA,if_neg h]
theorem uEE {c : UInt8} (h : hexB c=true) : c.toNat≠34∧c.toNat≠92:=by
 simp [hexB] at h
 omega
theorem take_getD' {α : Type} {l : List α} {d : α} {k j : Nat} (h : j < (l.take k).length) : (l.take k).getD j d=l.getD j d∧j < l.length:=by
 rw[List.length_take] at h
 refine ⟨?_,by omega⟩
 simp only [List.getD_eq_getElem?_getD]; rw[List.getElem?_take,if_pos (by omega)]
theorem uOU (d : UInt8) (r : List UInt8) : escE (d :: uBT r)=escE (d :: r)∧((escE (d :: r)).2≠0→(d :: uBT r).drop (escE (d :: r)).2=uBT ((d :: r).drop (escE (d :: r)).2)):=by
 have hx : (2≤(uBT r).length∧hexB ((uBT r).getD 0 0)=true∧hexB ((uBT r).getD 1 0)=true) ↔ (2≤r.length∧hexB (r.getD 0 0)=true∧hexB (r.getD 1 0)=true):=by
  constructor
  ·rintro ⟨q1,q2,q3⟩
   obtain ⟨e1,e2⟩:=take_getD' (l:=r) (d:=0) (k:=uCi true r) (j:=0) (by show 0 < (uBT r).length; omega)
   obtain ⟨e3,e4⟩:=take_getD' (l:=r) (d:=0) (k:=uCi true r) (j:=1) (by show 1 < (uBT r).length; omega)
   exact ⟨by omega,by rw[← e1]; exact q2,by rw[← e3]; exact q3⟩
  ·rintro ⟨q1,q2,q3⟩
   match r,q1 with
   | a :: b :: r,_ =>
    simp only [List.getD_cons_zero,List.getD_cons_succ] at q2 q3
    rw[uDC (uEE q2).1 (uEE q2).2,uDC (uEE q3).1 (uEE q3).2]
    exact ⟨by simp,q2,q3⟩
 by_cases hh : 2≤r.length∧hexB (r.getD 0 0)=true∧hexB (r.getD 1 0)=true
 ·have hb : ∃ a b t,r=a :: b :: t∧uBT r=a :: b :: uBT t:=by
   match r,hh with
   | a :: b :: t,⟨_,q2,q3⟩ =>
    simp only [List.getD_cons_zero,List.getD_cons_succ] at q2 q3
    exact ⟨a,b,t,rfl,by rw[uDC (uEE q2).1 (uEE q2).2,uDC (uEE q3).1 (uEE q3).2]⟩
  obtain ⟨a,b,t,rfl,hb⟩:=hb
  have e : escE (d :: uBT (a :: b :: t))=escE (d :: a :: b :: t):=by
   rw[hb,escE,escE]
   simp
  refine ⟨e,fun _=>?_⟩
  have h3 : (escE (d :: a :: b :: t)).2=1∨(escE (d :: a :: b :: t)).2=3∨(escE (d :: a :: b :: t)).2=0:=by
   rw[escE]
   repeat' split
   all_goals simp
  rcases h3 with h | h | h
  ·rw[h]; rfl
  ·rw[h,hb]; rfl
  ·contradiction
 ·have hh' : ¬(2≤(uBT r).length∧hexB ((uBT r).getD 0 0)=true∧hexB ((uBT r).getD 1 0)=true):=fun q=>hh (hx.1 q)
  have key : ∀ l : List UInt8,¬(2≤l.length∧hexB (l.getD 0 0)=true∧hexB (l.getD 1 0)=true)→escE (d :: l)=if d.toNat=110 then (10,1) else if d.toNat=116 then (9,1) else if d.toNat=34∨d.toNat=92 then (d,1) else (0,0):=by
   intro l hl
   rw[escE]
   repeat' (split <;> try rfl)
   rename_i q
   exact absurd q.2 hl
  rw[key _ hh',key _ hh]
  refine ⟨rfl,fun q=>?_⟩
  have h1 : (if d.toNat=110 then ((10 : UInt8),1) else if d.toNat=116 then (9,1) else if d.toNat=34∨d.toNat=92 then (d,1) else (0,0)).2=1:=by
   revert q
   repeat' split
   all_goals simp
  rw[h1]; rfl
theorem uG9 : ∀ (N : Nat) (r : List UInt8),r.length≤N → ∀ (n m i : Nat) (out : List UInt8),r.length < n→(uBT r).length < m →
  litA m (uBT r) i out=litA n r i out∧((litA n r i out).2≠0 → ∃ j,(litA n r i out).2=i + j∧(uBT r).drop j=uBf (r.drop j))
 | N,[],_,n,m,i,out,hn,hm=>by
  obtain ⟨n,rfl⟩ : ∃ k,n=k + 1:=⟨n - 1,by simp at hn; omega⟩
  obtain ⟨m,rfl⟩ : ∃ k,m=k + 1:=⟨m - 1,by omega⟩
  rw[uNC]
  exact ⟨rfl,fun q=>by simp [litA] at q⟩
 | 0,c :: r,h,_,_,_,_,_,_=>by simp at h
 | N + 1,c :: r,h,n,m,i,out,hn,hm=>by
  obtain ⟨n,rfl⟩ : ∃ k,n=k + 1:=⟨n - 1,by omega⟩
  obtain ⟨m,rfl⟩ : ∃ k,m=k + 1:=⟨m - 1,by omega⟩
  simp only [List.length_cons] at h hn
  by_cases h34 : c.toNat=34
  ·rw[uKL h34,litA,if_pos h34,litA,if_pos h34]
   exact ⟨rfl,fun _=>⟨1,rfl,rfl⟩⟩
  by_cases h92 : c.toNat=92
  ·cases r with
   | nil =>
    rw[uNb,litA,if_neg h34,if_pos h92,litA,if_neg h34,if_pos h92]
    exact ⟨rfl,fun q=>by simp [escE] at q⟩
   | cons d r =>
    obtain ⟨e1,e2⟩:=uOU d r
    rw[uNB h92] at hm ⊢
    rw[litA,if_neg h34,if_pos h92,litA,if_neg h34,if_pos h92,e1]
    split
    ·exact ⟨rfl,fun q=>by simp at q⟩
    ·rename_i hz
     rw[e2 hz]
     have hle:=uI1 (d :: r)
     have hl2 : (uBT ((d :: r).drop (escE (d :: r)).2)).length < m:=by
      rw[← e2 hz,List.length_drop]
      simp only [List.length_cons] at hm ⊢
      omega
     obtain ⟨i1,i2⟩:=uG9 N ((d :: r).drop (escE (d :: r)).2) (by rw[List.length_drop]; omega) n m (i + 1 + (escE (d :: r)).2) (out++[(escE (d :: r)).1]) (by rw[List.length_drop]; omega) hl2
     refine ⟨i1,fun q=>?_⟩
     obtain ⟨j,q1,q2⟩:=i2 q
     refine ⟨1 + (escE (d :: r)).2 + j,by omega,?_⟩
     rw[show 1 + (escE (d :: r)).2 + j=((escE (d :: r)).2 + j) + 1 by omega,List.drop_succ_cons,List.drop_succ_cons,← List.drop_drop,← List.drop_drop,e2 hz,q2]
  ·rw[uDC h34 h92] at hm ⊢
   rw[litA,if_neg h34,if_neg h92,litA,if_neg h34,if_neg h92]
   split
   ·exact ⟨rfl,fun q=>by simp at q⟩
   ·obtain ⟨i1,i2⟩:=uG9 N r (by omega) n m (i + 1) (out++[c]) (by omega) (by simp only [List.length_cons] at hm; omega)
    refine ⟨i1,fun q=>?_⟩
    obtain ⟨j,q1,q2⟩:=i2 q
    exact ⟨j + 1,by omega,by rw[List.drop_succ_cons,List.drop_succ_cons,q2]⟩
theorem uNs {c : UInt8} {r : List UInt8} (hc : c.toNat=34) : litE (uBf (c :: r))=litE (c :: r)∧((litE (c :: r)).2≠0→(uBf (c :: r)).drop (litE (c :: r)).2=uBf ((c :: r).drop (litE (c :: r)).2)):=by
 rw[uDf hc]
 unfold litE
 simp only [List.drop_succ_cons,List.drop_zero,List.length_cons]
 obtain ⟨i1,i2⟩:=uG9 r.length r (Nat.le_refl _) (r.length + 1 + 1) ((uBT r).length + 1 + 1) 1 [] (by omega) (by omega)
 refine ⟨i1,fun q=>?_⟩
 obtain ⟨j,q1,q2⟩:=i2 q
 rw[q1,Nat.add_comm,List.drop_succ_cons,List.drop_succ_cons,q2]
theorem uM6 {c : UInt8} {r : List UInt8} (k : Int) (h : ¬(c.toNat=35∧(r.getD 0 0).toNat=35)) :
  (uBK (uBf (c :: r)) k).2.2=(uCr (c :: r)).2.2∧((uCr (c :: r)).2.2=0→(uBK (uBf (c :: r)) k).1=(uCr (c :: r)).1.onl k∧(uBK (uBf (c :: r)) k).2.1=(uCr (c :: r)).2.1 ∧
   (uBf (c :: r)).drop (uCr (c :: r)).2.1=uBf ((c :: r).drop (uCr (c :: r)).2.1)):=by
 have h0 : (uBf (c :: r)).getD 0 0=c:=by
  by_cases h34 : c.toNat=34
  ·rw[uDf h34]; rfl
  ·rw[uCs h34 h]; rfl
 unfold uBK uCr
 rw[h0,List.getD_cons_zero]
 by_cases hl : uBl (c.toNat : Int)=true
 ·have hnl : nlE (c :: r)=nmP (c :: r):=by
   rw[nlE,nmP,if_pos ⟨by simp [uB4,hl],h⟩]; simp; omega
  obtain ⟨i1,i2,i3⟩:=uIz (c :: r)
  rw[if_pos hl,if_pos hl,i1,hnl]
  split
  ·exact ⟨rfl,fun q=>by simp at q⟩
  ·rw[i2]
   exact ⟨rfl,fun _=>⟨rfl,rfl,i3⟩⟩
 rw[if_neg hl,if_neg hl]
 by_cases hd : uBI (c.toNat : Int)=true
 ·obtain ⟨i1,i2⟩:=uJU (c :: r) 0 0
  rw[if_pos hd,if_pos hd,i1]
  split
  ·rename_i hq
   obtain ⟨j,q1,q2⟩:=i2 hq
   refine ⟨rfl,fun _=>⟨rfl,rfl,?_⟩⟩
   dsimp only
   rw[q1,Nat.zero_add,q2]
  ·exact ⟨rfl,fun q=>by simp at q⟩
 rw[if_neg hd,if_neg hd]
 by_cases h34 : c.toNat=34
 ·obtain ⟨i1,i2⟩:=uNs (r:=r) h34
  rw[if_pos h34,if_pos h34,i1]
  split
  ·exact ⟨rfl,fun q=>by simp at q⟩
  ·rename_i hq
   exact ⟨rfl,fun _=>⟨rfl,rfl,i2 hq⟩⟩
 rw[if_neg h34,if_neg h34]
 split
 ·rw[uCs h34 h]
  exact ⟨rfl,fun _=>⟨rfl,rfl,rfl⟩⟩
 ·exact ⟨rfl,fun q=>by simp at q⟩
theorem uDy : ∀ (N : Nat) (l : List UInt8),l.length≤N→(∀ b ∈ l,b.toNat≠10) → ∀ (n m : Nat) (k : Int) (out : List Tk),l.length < n→(uBf l).length < m→uCP m (uBf l) k out=uBC n l k out
 | N,[],_,_,n,m,k,out,hn,hm=>by
  obtain ⟨n,rfl⟩ : ∃ k,n=k + 1:=⟨n - 1,by simp at hn; omega⟩
  obtain ⟨m,rfl⟩ : ∃ k,m=k + 1:=⟨m - 1,by omega⟩
  rw[uGb,uCP,uBC,if_pos (.inl rfl)]
 | 0,c :: r,h,_,_,_,_,_,_,_=>by simp at h
 | N + 1,c :: r,h,hno,n,m,k,out,hn,hm=>by
  obtain ⟨n,rfl⟩ : ∃ k,n=k + 1:=⟨n - 1,by omega⟩
  obtain ⟨m,rfl⟩ : ∃ k,m=k + 1:=⟨m - 1,by omega⟩
  simp only [List.length_cons] at h hn
  have hc10:=hno c (by simp)
  by_cases hw : uCu c=true
  ·have hw2 : c.toNat=32∨c.toNat=9∨c.toNat=13:=by simp [uCu] at hw; omega
   have hin : wsp.contains c=true:=by
    rcases hw2 with q | q | q
    ·rw[show c=32 from UInt8.toNat_inj.1 q]; rfl
    ·rw[show c=9 from UInt8.toNat_inj.1 q]; rfl
    ·rw[show c=13 from UInt8.toNat_inj.1 q]; rfl
   have ht : uB6 (c :: r)=uB6 r:=by
    unfold uB6
    rw[List.dropWhile_cons,if_pos hin]
   have e1 : uBC (n + 1) (c :: r) k out=uBC (n + 1) r k out:=by rw[uBC,uBC,ht]
   have hb : uBf (c :: r)=c :: uBf r:=uCs (by omega) (by omega)
   rw[hb] at hm ⊢
   rw[uCP,if_pos hw,e1]
   exact uDy N r (by omega) (fun b hb=>hno b (by simp [hb])) (n + 1) m k out (by omega) (by simp only [List.length_cons] at hm; omega)
  ·have hin : ¬wsp.contains c=true:=by
    intro q
    apply hw
    have : c=32∨c=9∨c=13:=by simpa [wsp] using q
    rcases this with rfl | rfl | rfl <;> rfl
   have ht : uB6 (c :: r)=c :: r:=by
    unfold uB6
    rw[List.dropWhile_cons,if_neg hin]
   by_cases h35 : c.toNat=35∧(r.getD 0 0).toNat=35
   ·rw[uGj h35.1 h35.2,uCP,uBC,ht,if_pos (.inr (by rw[uMs]; simp only [h35.1,h35.2,decide_true,Bool.and_self]))]
   ·obtain ⟨e1,e2⟩:=uM6 (c:=c) (r:=r) k h35
    have hne : 0 < (c :: r).length:=by simp
    have hnx:=uHK hne
    have hb : ∃ t,uBf (c :: r)=c :: t:=by
     by_cases h34 : c.toNat=34
     ·exact ⟨_,uDf h34⟩
     ·exact ⟨_,uCs h34 h35⟩
    obtain ⟨t,hb⟩:=hb
    have hb1 : 1≤(uBf (c :: r)).length:=by rw[hb]; simp
    rw[uBC,ht,if_neg (by
     rintro (q | q)
     ·cases q
     ·rw[uMs] at q; simp at q; exact h35 q)]
    have e3 : uCP (m + 1) (uBf (c :: r)) k out=if (uBK (uBf (c :: r)) k).2.2≠0 then ([],(uBK (uBf (c :: r)) k).2.2) else uCP m ((uBf (c :: r)).drop (uBK (uBf (c :: r)) k).2.1) k (out++[(uBK (uBf (c :: r)) k).1]):=by
     rw[hb,uCP,if_neg hw]
    rw[e3,e1]
    split
    ·rfl
    ·rename_i hz
     have hz:=Decidable.not_not.1 hz
     obtain ⟨q1,q2,q3⟩:=e2 hz
     have hge:=hnx.2 hz
     rw[q1,q2,q3]
     refine uDy N _ (by rw[List.length_drop]; simp only [List.length_cons]; omega) (fun b hb=>hno b (List.mem_of_mem_drop hb)) n m k _ (by rw[List.length_drop]; simp only [List.length_cons]; omega) ?_
     rw[← q3,List.length_drop]
     omega
def fin : List (List UInt8)→List (List UInt8)
 | []=>[]
 | [x]=>if x=[] then [] else [x]
 | x :: y :: r=>x :: fin (y :: r)
theorem uHj : ∀ (s line : List UInt8) (out : List (List UInt8)),∀ x r,spl s=x :: r→lnsA s line out=out++fin ((line++x) :: r)
 | [],line,out,x,r,h=>by
  simp only [spl,List.cons.injEq] at h
  obtain ⟨rfl,rfl⟩:=h
  rw[lnsA,fin,List.append_nil]
  split <;> simp
 | b :: l,line,out,x,r,h=>by
  rw[lnsA]
  rw[spl] at h
  split at h
  ·rename_i hb
   rw[if_pos hb]
   simp only [List.cons.injEq] at h
   obtain ⟨rfl,rfl⟩:=h
   cases hs : spl l with
   | nil=>exact absurd hs (uJh l)
   | cons y r =>
    rw[uHj l [] (out++[line]) y r hs,fin]
    simp
  ·rename_i hb
   rw[if_neg hb]
   split at h
   ·rename_i hs; exact absurd hs (uJh l)
   ·rename_i y t hs
    simp only [List.cons.injEq] at h
    obtain ⟨rfl,rfl⟩:=h
    rw[uHj l (line++[b]) out y t hs]
    simp
theorem uO5 (s : List UInt8) : lnsR s=fin (spl s):=by
 cases hs : spl s with
 | nil=>exact absurd hs (uJh s)
 | cons x r =>
  unfold lnsR
  rw[uHj s [] [] x r hs]
  simp
theorem uFF : ∀ (s : List UInt8),∀ x ∈ spl s,∀ b ∈ x,b.toNat≠10
 | [],x,hx,b,hb=>by simp [spl] at hx; subst hx; simp at hb
 | c :: l,x,hx,b,hb=>by
  have ih:=uFF l
  rw[spl] at hx
  split at hx
  ·rcases List.mem_cons.1 hx with q | q
   ·subst q; simp at hb
   ·exact ih x q b hb
  ·rename_i hc
   split at hx
   ·simp at hx; subst hx; simp at hb; subst hb; exact hc
   ·rename_i y t hs
    rw[hs] at ih
    rcases List.mem_cons.1 hx with q | q
    ·subst q
     rcases List.mem_cons.1 hb with z | z
     ·subst z; exact hc
     ·exact ih y (by simp) b z
    ·exact ih x (by simp [q]) b hb
theorem uKE : ∀ (L : List (List UInt8)),(∀ x ∈ L,∀ b ∈ x,b.toNat≠10) → ∀ (k : Nat) (out : List Tk),uFE (fin L) k out=uDm L k out
 | [],_,k,out=>rfl
 | [x],h,k,out=>by
  have hl:=uDy x.length x (Nat.le_refl _) (h x (by simp)) (x.length + 1) ((uBf x).length + 1) (k : Int) out (by omega) (by omega)
  rw[fin]
  split
  ·rename_i hx
   subst hx
   rw[uDm,show (uBC (([] : List UInt8).length + 1) [] (k : Int) out)=(out,0) by rw[uBC,if_pos (.inl rfl)]]
   rfl
  ·rw[uDm,uFE,hl]
   rfl
 | x :: y :: r,h,k,out=>by
  have hl:=uDy x.length x (Nat.le_refl _) (h x (by simp)) (x.length + 1) ((uBf x).length + 1) (k : Int) out (by omega) (by omega)
  rw[fin,uDm,uFE,hl]
  split
  ·rfl
  ·exact uKE (y :: r) (fun z hz=>h z (List.mem_cons_of_mem _ hz)) (k + 1) _
theorem uNN (s : List UInt8) : tokR s=tokP s:=by
 unfold tokR tokP
 rw[uO5,uKE _ (uFF s)]
theorem uI0 : ∀ (l : List UInt8),nmP l=l.length→l.all (fun b=>uB4 (b.toNat : Int))=true
 | [],_=>rfl
 | b :: l,h=>by
  rw[nmP] at h
  split at h
  ·rename_i hq
   rw[List.all_cons,hq.1,uI0 l (by simpa using h)]; rfl
  ·simp at h
theorem uGn {b : UInt8} (h : uB4 (b.toNat : Int)=true) : b.toNat≠10:=by
 intro q
 rw[q] at h
 revert h; decide
theorem uMi : ∀ (s : List UInt8),(∀ b ∈ s,b.toNat≠10)→spl s=[s]
 | [],_=>rfl
 | c :: l,h=>by
  rw[spl,if_neg (h c (by simp)),uMi l fun b hb=>h b (by simp [hb])]
theorem uJp {c : UInt8} (h : uBl (c.toNat : Int)=true) : wsp.contains c=false:=by
 rw[Bool.eq_false_iff]
 intro q
 have : c=32∨c=9∨c=13:=by simpa [wsp] using q
 rcases this with rfl | rfl | rfl <;> revert h <;> decide
theorem uIn (n : Nat) (k : Int) (out : List Tk) : uBC n [] k out=(out,0):=by
 cases n with
 | zero=>rfl
 | succ n=>rw[uBC,if_pos (.inl rfl)]
theorem uID : ∀ (n : Nat) (l : List UInt8) (k : Int) (out : List Tk),(uBC n l k out).2=0 → ∃ e,(uBC n l k out).1=out++e
 | 0,l,k,out,_=>⟨[],by simp [uBC]⟩
 | n + 1,l,k,out,h=>by
  rw[uBC] at h ⊢
  split
  ·exact ⟨[],by simp⟩
  ·rename_i h1
   rw[if_neg h1] at h
   split at h
   ·rename_i h2; exact absurd h h2
   ·rename_i h2
    rw[if_neg h2]
    obtain ⟨e,he⟩:=uID n _ k _ h
    exact ⟨[(uCr (uB6 l)).1.onl k]++e,by rw[he,List.append_assoc]⟩
def uAN (s : List UInt8) : Bool:=(((decide (s≠[])) && uBl ((s.getD 0 0).toNat : Int)) && decide (nlE s=s.length)) && decide (s.length≤24)
def rnmE (s : List UInt8) : Bool:=(((decide ((tokR s).2.2=0) && decide ((tokR s).1.length=1)) && decide (((tokR s).1.getD 0 tk0).kind=1)) && decide (((tokR s).1.getD 0 tk0).text=s)) && uCO s
theorem uIs {s : List UInt8} (hl : uBl ((s.getD 0 0).toNat : Int)=true) (hne : s≠[]) (hno : ∀ b ∈ s,b.toNat≠10) (h24 : nlE s≤24) (hs : s.length≤65536) :
  ∃ n,tokP s=if (uBC n (s.drop (nlE s)) 1 [⟨1,s.take (nlE s),0,[],1⟩]).2≠0 then ([],1,(uBC n (s.drop (nlE s)) 1 [⟨1,s.take (nlE s),0,[],1⟩]).2) else ((uBC n (s.drop (nlE s)) 1 [⟨1,s.take (nlE s),0,[],1⟩]).1,0,0):=by
 obtain ⟨c,r,rfl⟩ : ∃ c r,s=c :: r:=by
  cases s with
  | nil=>exact absurd rfl hne
  | cons c r=>exact ⟨c,r,rfl⟩
 rw[List.getD_cons_zero] at hl
 have ht : uB6 (c :: r)=c :: r:=by
  unfold uB6
  rw[List.dropWhile_cons,uJp hl]; rfl
 have hnx : uCr (c :: r)=(⟨1,(c :: r).take (nlE (c :: r)),0,[],0⟩,nlE (c :: r),0):=by
  rw[uCr,List.getD_cons_zero,if_pos hl,if_neg (by omega)]
 have h35 : c.toNat≠35:=by
  intro q
  rw[q] at hl
  revert hl; decide
 have hq1 : ¬(c :: r=[]∨[35,35].isPrefixOf (c :: r)=true):=by
  rintro (q | q)
  ·cases q
  ·rw[uMs] at q
   simp only [Bool.and_eq_true,decide_eq_true_eq] at q
   exact h35 q.1
 have hL : uBC ((c :: r).length + 1) (c :: r) ((1 : Nat) : Int) []=uBC (c :: r).length ((c :: r).drop (nlE (c :: r))) 1 [⟨1,(c :: r).take (nlE (c :: r)),0,[],1⟩]:=by
  rw[uBC,ht,if_neg hq1,hnx,if_neg (by simp)]; rfl
 refine ⟨(c :: r).length,?_⟩
 unfold tokP
 rw[if_neg (by omega),uMi _ hno,uDm,hL]; rfl
theorem uO3 (s : List UInt8) (hs : s.length≤65536) : uAN s=rnmE s:=by
 unfold rnmE
 rw[uNN,Bool.eq_iff_iff]
 constructor
 ·intro h
  simp only [uAN,Bool.and_eq_true,decide_eq_true_eq] at h
  obtain ⟨⟨⟨h1,h2⟩,h3⟩,h4⟩:=h
  have hp:=List.length_pos_iff.2 h1
  have hall : s.all (fun b=>uB4 (b.toNat : Int))=true:=by
   obtain ⟨c,r,rfl⟩ : ∃ c r,s=c :: r:=by
    cases s with
    | nil=>exact absurd rfl h1
    | cons c r=>exact ⟨c,r,rfl⟩
   rw[List.getD_cons_zero] at h2
   have := uI0 r (by unfold nlE at h3; simp at h3; omega)
   rw[List.all_cons,this,Bool.and_true]
   simp [uB4,h2]
  have hno : ∀ b ∈ s,b.toNat≠10 := fun b hb=>uGn (by have := List.all_eq_true.1 hall b hb; exact this)
  obtain ⟨n,hn⟩:=uIs h2 h1 hno (by omega) hs
  rw[h3,List.drop_length,List.take_length,uIn] at hn
  rw[if_neg (by simp)] at hn
  rw[hn]
  simp [uCO,hall,h4,h2]
  exact ⟨by omega,by simpa using h2⟩
 ·intro h
  simp only [Bool.and_eq_true,decide_eq_true_eq] at h
  obtain ⟨⟨⟨⟨h1,h2⟩,h3⟩,h4⟩,h5⟩:=h
  simp only [uCO,Bool.and_eq_true,decide_eq_true_eq] at h5
  obtain ⟨⟨⟨g1,g2⟩,g3⟩,g4⟩:=h5
  have hne : s≠[]:=fun q=>by subst q; simp at g1
  have hno : ∀ b ∈ s,b.toNat≠10 := fun b hb=>uGn (by have := List.all_eq_true.1 g4 b hb; exact this)
  have hle:=uNT (s:=s) (by omega)
  obtain ⟨n,hn⟩:=uIs g3 hne hno (by omega) hs
  have hfull : nlE s=s.length:=by
   by_cases hz : (uBC n (s.drop (nlE s)) 1 [⟨1,s.take (nlE s),0,[],1⟩]).2=0
   ·obtain ⟨e,he⟩:=uID n _ 1 _ hz
    rw[if_neg (by rw[hz]; simp)] at hn
    rw[hn,he] at h4
    have h4 : s.take (nlE s)=s:=h4
    have := congrArg List.length h4
    rw[List.length_take] at this
    omega
   ·rw[if_pos hz] at hn
    rw[hn] at h1
    exact absurd h1 hz
  simp only [uAN,Bool.and_eq_true,decide_eq_true_eq]
  exact ⟨⟨⟨hne,g3⟩,hfull⟩,g2⟩
def uBZ (a b : Int) : Int:=if a < b then -1 else if b < a then 1 else 0
theorem uE0 (a b : Int) : Ctr sys 121 [xi a,xi b] [] (xi (uBZ a b)) none []:=by
 refine uAA Tryz.func121 rfl rfl rfl rfl rfl rfl ?_;refine uAd (uAb ?_);refine uAa rfl rfl rfl (uAe rfl gU) ?_;refine uAf ?_;refine uAd ?_;refine uAd (uAb ?_);refine uAa rfl rfl rfl (uAc rfl gU) ?_;refine uAa rfl rfl rfl (uAc rfl gU) ?_;refine uAa rfl rfl rfl (uAm rfl rfl gU gU rfl) ?_;refine uAf ?_;refine uAo rfl (fun hc=>?_) (fun hc=>?_)
 ·refine uAd (uAb ?_)
  refine uAa rfl rfl rfl (uAe rfl gU) ?_;refine uAf ?_;refine uAq ?_
  repeat(first|refine tR ?_|refine bR ?_)
  refine uAu rfl ?_ trivial
  simp at hc; show xi _=xi _; simp [uBZ,hc]
 ·refine uAp ?_
  refine uAd ?_;refine uAd (uAb ?_);refine uAa rfl rfl rfl (uAc rfl gU) ?_;refine uAa rfl rfl rfl (uAc rfl gU) ?_;refine uAa rfl rfl rfl (uAm rfl rfl gU gU rfl) ?_;refine uAf ?_;refine uAk (s:=⟨[(10,_,_)],[],[],[]⟩) (uAj (⟨sx rfl,trivial⟩) trivial trivial) ?_;refine uAo rfl (fun hc1=>?_) (fun hc1=>?_)
  ·refine uAd (uAb ?_)
   refine uAa rfl rfl rfl (uAe rfl gU) ?_;refine uAf ?_;refine uAq ?_
   repeat(first|refine tR ?_|refine bR ?_)
   refine uAu rfl ?_ trivial
   simp at hc hc1; show xi _=xi _; simp [uBZ,hc1]; omega
  ·refine uAp ?_
   refine uAd (uAb ?_);refine uAa rfl rfl rfl (uAe rfl gU) ?_;refine uAf ?_;refine uAq ?_
   repeat(first|refine tR ?_|refine bR ?_)
   refine uAu rfl ?_ trivial
   simp at hc hc1; show xi _=xi _; simp [uBZ]; omega
def uQK (t : T) (k : Nat) : St:={ t:=[(1,true, .v (.ptr (.l 1) 0)),(3,true,xi (1 + T.sizes (t.kids.take k))),(4,true,xi k)],bx:=[(.l 1,t.cells)],ow:=[] }
theorem uE6 : ∀ (n : Nat) (t : T),t.size≤n→n≤2000000→Ctr sys 118 [.v (.agg t.cells)] [] (xi t.size) none []:=by
 intro n
 induction n with
 | zero=>intro t h _; have := t.size_pos; omega
 | succ n ih =>
  intro t ht hn
  refine uAA Tryz.func118 rfl rfl rfl rfl rfl rfl ?_;refine uAd (uAb ?_);refine uAs rfl (uAH rfl rfl rfl rfl) ?_;refine uAa rfl rfl rfl (uAe rfl gU) ?_;refine uAf ?_;refine uAd (uAb ?_);refine uAa rfl rfl rfl (uAe rfl gU) ?_;refine uAf ?_;refine uAd ?_;refine uAd (uAb ?_);refine uAa rfl rfl rfl (uAe rfl gU) ?_;refine uAf ?_;refine uAt ?_;refine uCv (uQK t) (fun k=>k≤t.kids.length) (fun k=>t.kids.length - k) 0 (Nat.zero_le _) ?_ ?_
  ·refine uAj ⟨⟨_,rfl,rfl⟩,⟨_,rfl,rfl⟩,⟨_,rfl,rfl⟩,trivial⟩ ⟨⟨_,rfl,rfl⟩,trivial⟩ trivial
  ·intro k hk
   refine uAd ?_;refine uAd (uAb ?_);refine uAa rfl rfl rfl (uAc rfl gU) ?_;refine uAa rfl rfl rfl (uAg rfl gU rfl rfl) ?_;refine uAa rfl rfl rfl (uAh rfl gU rfl rfl rfl rfl) ?_;refine uAI rfl rfl rfl rfl rfl gU rfl rfl ?_ (fun hh=>by simp at hh); intro hlen;refine uAa rfl rfl rfl (uAm rfl rfl gU gU rfl) ?_;refine uAf ?_;refine uAk (s:=⟨[(1,_,_),(3,_,_),(4,_,_),(9,_,_)],[(.l 1,_)],[],[]⟩) (uAj (⟨sx rfl,sx rfl,sx rfl,sx rfl,trivial⟩) (⟨sx rfl,trivial⟩) trivial) ?_;refine uAo rfl (fun hc=>?_) (fun hc=>?_)
   ·rw[T.rows_len] at hlen hc
    have hlt : k < t.kids.length:=by simpa using hc
    obtain ⟨x,hx⟩ : ∃ x,t.kids[k]? = some x:=⟨_,List.getElem?_eq_getElem hlt⟩
    have h1:=T.sizes_take _ _ _ hx
    have h2:=T.sizes_take_le t.kids (k + 1)
    have h3:=t.size_eq
    have h4:=x.size_pos
    refine uAp ?_;refine uAd ?_;refine uAt ?_;refine uAb ?_;refine uAa rfl rfl rfl (uAc rfl gU) ?_;refine uAa rfl rfl rfl (uAg rfl gU rfl rfl) ?_;refine uAa rfl rfl rfl (uAh rfl gU rfl rfl rfl rfl) ?_;refine uAa rfl rfl rfl (uAc rfl gU) ?_;refine uAa rfl rfl rfl (uAr rfl rfl gU gU rfl rfl rfl (fun _=>T.rows_get hx)) ?_;refine uAa rfl rfl rfl (uAD rfl gU rfl rfl rfl rfl) ?_;refine uAx rfl rfl rfl rfl rfl rfl gU gU (ih x (by omega) (by omega)) rfl ?_;refine uAa rfl rfl rfl (uAz rfl rfl gU gU rfl (IntWalk.i64_in _ (by omega))) ?_;refine uAa rfl rfl rfl (uAe rfl gU) ?_;refine uAf ?_;refine uAk (s:=⟨[(1,_,_),(3,_,_),(4,_,_)],[(.l 1,_)],[],[]⟩) (uAj (⟨sx rfl,sx rfl,sx rfl,trivial⟩) (⟨sx rfl,trivial⟩) trivial) ?_;refine uAb ?_;refine uAa rfl rfl rfl (uAc rfl gU) ?_;refine uAa rfl rfl rfl (uAz rfl rfl gU gU rfl (IntWalk.i64_in _ (by omega))) ?_;refine uAa rfl rfl rfl (uAe rfl gU) ?_;refine uAf ?_;refine ⟨k + 1,by omega,by omega,?_⟩;refine uAj ⟨⟨_,rfl,rfl⟩,⟨_,rfl,?_⟩,⟨_,rfl,rfl⟩,trivial⟩ ⟨⟨_,rfl,rfl⟩,trivial⟩ trivial
    rw[h1]; simp; omega
   ·refine uAL ?_
    repeat(first|refine uAE ?_|refine uAF ?_|refine uAB rfl ?_)
    refine uAd (uAb ?_);refine uAa rfl rfl rfl (uAc rfl gU) ?_;refine uAa rfl rfl rfl (uAe rfl gU) ?_;refine uAf ?_;refine uAq ?_
    repeat(first|refine tR ?_|refine bR ?_)
    refine uAu rfl ?_ trivial
    rw[T.rows_len] at hc
    have : k=t.kids.length:=by simp at hc; omega
    subst this
    rw[List.take_length,t.size_eq]
    show xi _=xi _
    simp
theorem uIH (n : Int) : Ctr sys 171 [xu n] [] (xb (uB4 n)) none []:=by
 refine uAA Tryz.func171 rfl rfl rfl rfl rfl rfl ?_;refine uAd (uAb ?_);refine uAa rfl rfl rfl (uAe rfl gU) ?_;refine uAf ?_;refine uAd (uAb ?_);refine uAa rfl rfl rfl (uAc rfl gU) ?_;refine uAa rfl rfl rfl (uAm rfl rfl gU gU rfl) ?_;refine uAa rfl rfl rfl (uAc rfl gU) ?_;refine uAa rfl rfl rfl (uAc rfl gU) ?_;refine uAa rfl rfl rfl (uAm rfl rfl (fun hh=>hh) gU rfl) ?_;refine uAa rfl rfl rfl (uAJ rfl rfl gU (fun _ hi=>gP rfl hi)) ?_;refine uAa rfl rfl rfl (uAc rfl gU) ?_;refine uAa rfl rfl rfl (uAc rfl gU) ?_;refine uAa rfl rfl rfl (uAm rfl rfl (fun hh=>hh) gU rfl) ?_;refine uAa rfl rfl rfl (uAc rfl (fun hh=>hh)) ?_;refine uAa rfl rfl rfl (uAc rfl gU) ?_;refine uAa rfl rfl rfl (uAm rfl rfl (fun hh=>hh) gU rfl) ?_;refine uAa rfl rfl rfl (uAJ rfl rfl (fun hh=>hh) (fun hh hi=>gP hh hi)) ?_;refine uAa rfl rfl rfl (uAO rfl rfl gU (fun _ hi=>gP rfl hi)) ?_;refine uAa rfl rfl rfl (uAc rfl gU) ?_;refine uAa rfl rfl rfl (uAc rfl gU) ?_;refine uAa rfl rfl rfl (uAm rfl rfl (fun hh=>hh) gU rfl) ?_;refine uAa rfl rfl rfl (uAc rfl (fun hh=>hh)) ?_;refine uAa rfl rfl rfl (uAc rfl gU) ?_;refine uAa rfl rfl rfl (uAm rfl rfl (fun hh=>hh) gU rfl) ?_;refine uAa rfl rfl rfl (uAJ rfl rfl (fun hh=>hh) (fun hh hi=>gP hh hi)) ?_;refine uAa rfl rfl rfl (uAO rfl rfl gU (fun _ hi=>gP rfl hi)) ?_
 refine uAa rfl rfl rfl (uAc rfl gU) ?_;refine uAa rfl rfl rfl (uAc rfl gU) ?_;refine uAa rfl rfl rfl (uAm rfl rfl (fun hh=>hh) gU rfl) ?_;refine uAa rfl rfl rfl (uAO rfl rfl gU (fun _ hi=>gP rfl hi)) ?_;refine uAa rfl rfl rfl (uAc rfl gU) ?_;refine uAa rfl rfl rfl (uAc rfl gU) ?_;refine uAa rfl rfl rfl (uAm rfl rfl (fun hh=>hh) gU rfl) ?_;refine uAa rfl rfl rfl (uAO rfl rfl gU (fun _ hi=>gP rfl hi)) ?_;refine uAa rfl rfl rfl (uAe rfl gU) ?_;refine uAf ?_;refine uAq ?_
 repeat(first|refine tR ?_|refine bR ?_)
 refine uAu rfl ?_ trivial
 rfl
def uB8 (t : T) : Int :=
 if (t.kind=1∨t.kind=2)∧0≤t.sort∧t.sort≤5∧t.kids.length=0∨t.kind=3∧t.sort=0 then
  if uCO t.name=true then (if 8 < t.kids.length then 3 else 0) else 2
 else 1
namespace T
mutual
def nodesE : T→Int
 | mk k n s ks=>if uB8 (mk k n s ks)≠0 then uB8 (mk k n s ks) else nodesEs ks
def nodesEs : List T→Int
 | []=>0
 | t :: ts=>if nodesE t≠0 then nodesE t else nodesEs ts
end
theorem nodesE_eq (t : T) : t.nodesE=if uB8 t≠0 then uB8 t else nodesEs t.kids:=by cases t; rw[nodesE]; rfl
theorem nodesEs_hit : ∀ (ts : List T) (k : Nat) (x : T),ts[k]? = some x→nodesEs (ts.take k)=0→x.nodesE≠0→nodesEs ts=x.nodesE
 | [],k,x,h,_,_=>by simp at h
 | t :: ts,0,x,h,_,hx=>by simp at h; subst h; rw[nodesEs,if_pos hx]
 | t :: ts,k + 1,x,h,h0,hx=>by
  rw[List.take_succ_cons,nodesEs] at h0
  rw[nodesEs]
  by_cases ht : t.nodesE=0
  ·rw[if_neg (by simpa using ht)] at h0
   rw[if_neg (by simpa using ht)]
   exact nodesEs_hit ts k x (by simpa using h) h0 hx
  ·rw[if_pos ht] at h0; exact absurd h0 ht
theorem nodesEs_step : ∀ (ts : List T) (k : Nat) (x : T),ts[k]? = some x→nodesEs (ts.take k)=0→x.nodesE=0→nodesEs (ts.take (k + 1))=0
 | [],k,x,h,_,_=>by simp at h
 | t :: ts,0,x,h,_,hx=>by simp at h; subst h; simp [nodesEs,hx]
 | t :: ts,k + 1,x,h,h0,hx=>by
  rw[List.take_succ_cons,nodesEs] at h0
  rw[List.take_succ_cons,nodesEs]
  by_cases ht : t.nodesE=0
  ·rw[if_neg (by simpa using ht)] at h0
   rw[if_neg (by simpa using ht)]
   exact nodesEs_step ts k x (by simpa using h) h0 hx
  ·rw[if_pos ht] at h0; exact absurd h0 ht
mutual
def depth : T→Nat
 | mk _ _ _ ks=>depths ks + 1
def depths : List T→Nat
 | []=>0
 | t :: ts=>max (depth t) (depths ts)
end
theorem depth_eq (t : T) : t.depth=depths t.kids + 1:=by cases t; rw[depth]; rfl
theorem depths_take : ∀ (ts : List T) (k : Nat) (x : T),ts[k]? = some x→depths (ts.take (k + 1))=max (depths (ts.take k)) x.depth
 | [],k,x,h=>by simp at h
 | t :: ts,0,x,h=>by simp at h; subst h; simp [depths]
 | t :: ts,k + 1,x,h=>by
  have := depths_take ts k x (by simpa using h)
  simp only [List.take_succ_cons,depths]
  omega
mutual
theorem depth_le : ∀ t : T,t.depth≤t.size
 | mk k n s ks=>by have := uIJ ks; rw[depth,size]; omega
theorem uIJ : ∀ ts : List T,depths ts≤sizes ts
 | []=>by simp [depths]
 | t :: ts=>by have h1:=depth_le t; have h2:=uIJ ts; rw[depths,sizes]; omega
end
theorem depths_take_le : ∀ (ts : List T) (k : Nat),depths (ts.take k)≤depths ts
 | [],k=>by simp
 | t :: ts,0=>by simp [depths]
 | t :: ts,k + 1=>by have := depths_take_le ts k; simp only [List.take_succ_cons,depths]; omega
structure Chk where
 e : Int
 n : Int
 d : Int
mutual
def chk : T→Int→Int→Int→Chk
 | mk k nm s ks,lv,n,d=>if uB8 (mk k nm s ks)≠0 then ⟨uB8 (mk k nm s ks),n + 1,max d lv⟩ else chks ks (lv + 1) (n + 1) (max d lv)
def chks : List T→Int→Int→Int→Chk
 | [],_,n,d=>⟨0,n,d⟩
 | t :: ts,lv,n,d=>if (chk t lv n d).e≠0 then chk t lv n d else chks ts lv (chk t lv n d).n (chk t lv n d).d
end
theorem chk_eq (t : T) (lv n d : Int) : t.chk lv n d=if uB8 t≠0 then ⟨uB8 t,n + 1,max d lv⟩ else chks t.kids (lv + 1) (n + 1) (max d lv):=by cases t; rw[chk]; rfl
mutual
theorem chk_e : ∀ (t : T) (lv n d : Int),(t.chk lv n d).e=t.nodesE
 | mk k nm s ks,lv,n,d=>by
  rw[chk,nodesE]
  split
  ·rfl
  ·exact chks_e ks _ _ _
theorem chks_e : ∀ (ts : List T) (lv n d : Int),(chks ts lv n d).e=nodesEs ts
 | [],_,_,_=>by rw[chks,nodesEs]
 | t :: ts,lv,n,d=>by
  rw[chks,nodesEs]
  rw[chk_e t lv n d]
  split
  ·exact chk_e t lv n d
  ·exact chks_e ts _ _ _
end
mutual
theorem chk_n : ∀ (t : T) (lv n d : Int),n≤(t.chk lv n d).n∧(t.chk lv n d).n≤n + t.size∧(t.nodesE=0→(t.chk lv n d).n=n + t.size)
 | mk k nm s ks,lv,n,d=>by
  rw[chk,nodesE,size]
  have h:=chks_n ks (lv + 1) (n + 1) (max d lv)
  split
  ·dsimp only; exact ⟨by omega,by omega,fun hh=>absurd hh (by assumption)⟩
  ·exact ⟨by omega,by omega,fun hh=>by have := h.2.2 hh; omega⟩
theorem chks_n : ∀ (ts : List T) (lv n d : Int),n≤(chks ts lv n d).n∧(chks ts lv n d).n≤n + sizes ts∧(nodesEs ts=0→(chks ts lv n d).n=n + sizes ts)
 | [],_,n,_=>by rw[chks,sizes]; dsimp only; omega
 | t :: ts,lv,n,d=>by
  rw[chks,nodesEs,sizes,chk_e]
  have h:=chk_n t lv n d
  have h2:=chks_n ts lv (t.chk lv n d).n (t.chk lv n d).d
  split
  ·exact ⟨by omega,by omega,fun hh=>absurd hh (by assumption)⟩
  ·rename_i hz
   have hz' : t.nodesE=0:=by simpa using hz
   have := h.2.2 hz'
   exact ⟨by omega,by omega,fun hh=>by have := h2.2.2 hh; omega⟩
end
mutual
theorem chk_d : ∀ (t : T) (lv n d : Int),t.nodesE=0→(t.chk lv n d).d=max d (lv + t.depth - 1)
 | mk k nm s ks,lv,n,d,h=>by
  rw[nodesE] at h
  rw[chk,depth]
  split
  ·rename_i hz; rw[if_pos hz] at h; exact absurd h hz
  ·rename_i hz
   rw[if_neg hz] at h
   rw[uN1 ks (lv + 1) (n + 1) (max d lv) h]
   split <;> omega
theorem uN1 : ∀ (ts : List T) (lv n d : Int),nodesEs ts=0→(chks ts lv n d).d=if depths ts=0 then d else max d (lv + depths ts - 1)
 | [],_,n,d,_=>by rw[chks,depths]; simp
 | t :: ts,lv,n,d,h=>by
  rw[nodesEs] at h
  rw[chks,depths,chk_e]
  split
  ·rename_i hz; rw[if_pos hz] at h; exact absurd h hz
  ·rename_i hz
   rw[if_neg hz] at h
   rw[uN1 ts lv _ _ h,chk_d t lv n d (by simpa using hz)]
   have hd : 1≤t.depth:=by rw[depth_eq]; omega
   split <;> split <;> omega
end
theorem uEN : ∀ (a b : List T) (lv n d : Int),chks (a++b) lv n d=if (chks a lv n d).e≠0 then chks a lv n d else chks b lv (chks a lv n d).n (chks a lv n d).d
 | [],b,lv,n,d=>by rw[List.nil_append]; simp [chks]
 | t :: a,b,lv,n,d=>by
  rw[List.cons_append,chks,chks]
  by_cases h : (t.chk lv n d).e≠0
  ·rw[if_pos h,if_pos h,if_pos h]
  ·rw[if_neg h,if_neg h,uEN a b]
theorem uNJ {ts : List T} {k : Nat} {x : T} (h : ts[k]? = some x) : ts.take (k + 1)=ts.take k++[x]:=by
 rw[List.take_add_one,h]; rfl
theorem chks_step {ts : List T} {k : Nat} {x : T} {lv n d : Int} (h : ts[k]? = some x) (h0 : (chks (ts.take k) lv n d).e=0) (hx : x.nodesE=0) :
  chks (ts.take (k + 1)) lv n d=x.chk lv (chks (ts.take k) lv n d).n (chks (ts.take k) lv n d).d:=by
 rw[uNJ h,uEN,if_neg (by simpa using h0),chks,chk_e,if_neg (by simpa using hx),chks]
 have := chk_e x lv (chks (ts.take k) lv n d).n (chks (ts.take k) lv n d).d
 rw[hx] at this
 cases hc : x.chk lv (chks (ts.take k) lv n d).n (chks (ts.take k) lv n d).d
 rw[hc] at this
 simp at this
 simp [this]
theorem chks_hit {ts : List T} {k : Nat} {x : T} {lv n d : Int} (h : ts[k]? = some x) (h0 : (chks (ts.take k) lv n d).e=0) (hx : x.nodesE≠0) :
  chks ts lv n d=x.chk lv (chks (ts.take k) lv n d).n (chks (ts.take k) lv n d).d:=by
 have hs : ts=ts.take k++(x :: ts.drop (k + 1)):=by
  have hlt:=(List.getElem?_eq_some_iff.1 h)
  obtain ⟨hl,he⟩:=hlt
  rw[← he,List.getElem_cons_drop,List.take_append_drop]
 conv=>lhs; rw[hs]
 rw[uEN,if_neg (by simpa using h0),chks,chk_e,if_pos hx]
end T
def uDj (t : T) : Int:=if t.nodesE≠0 then t.nodesE else if 400 < t.size∨40 < t.depth then 3 else 0
end Go.Proofs.YteidahabkfgfjaaGreat
namespace Go.Proofs.YteidahabkfgfjaaGreat
open Go Go.Abs
abbrev xm (t : T) : X:=.v (.agg t.cells)
abbrev xl (ts : List T) : X:=.v (.c (.sl 4 (T.rows ts)))
theorem uE4 (v : Int) (h : uB4 v=false∨(48≤v∧v≤57)∨v=95∨v=35) : uBl v=false:=by
 rcases h with h | h | h | h
 ·cases hl : uBl v with
  | false=>rfl
  | true=>simp [uB4,hl] at h
 all_goals simp [uBl]; omega
theorem uLy (v : Int) (h : uB4 v=true) (h1 : ¬ (48≤v∧v≤57)) (h2 : ¬ v=95) (h3 : ¬ v=35) : uBl v=true:=by
 cases hl : uBl v with
 | true=>rfl
 | false=>simp [uB4,hl,uBI] at h; omega
def uOE (l : List UInt8) (k : Nat) : St:={ t:=[(0,true,xs l),(38,true,xi l.length),(39,true,xi k)],bx:=[],ow:=[] }
theorem uI7 (l : List UInt8) : Ctr sys 168 [xs l] [] (xb (uCO l)) none []:=by
 refine uAA Tryz.func168 rfl rfl rfl rfl rfl rfl ?_;refine uAd (uAb ?_);refine uAa rfl rfl rfl (uAe rfl gU) ?_;refine uAf ?_;refine uAd ?_;refine uAd (uAb ?_);refine uAa rfl rfl rfl (uAc rfl gU) ?_;refine uAa rfl rfl rfl (uA3 rfl rfl gU gU rfl) ?_;refine uAa rfl rfl rfl (uAc rfl gU) ?_;refine uAa rfl rfl rfl (uAc rfl gU) ?_;refine uAa rfl rfl rfl (uCm rfl (fun hh=>hh) (Tryz.underlying9)) ?_;refine uAa rfl rfl rfl (uAm rfl rfl (fun hh=>hh) gU rfl) ?_;refine uAa rfl rfl rfl (uAO rfl rfl gU (fun _ hi=>gP rfl hi)) ?_;refine uAa rfl rfl rfl (uAc rfl gU) ?_;refine uAa rfl rfl rfl (uAc rfl gU) ?_;refine uAa rfl rfl rfl (uAP rfl rfl (fun hh=>hh) gU Tryz.underlying9 rfl (by intro hh; simp at hh; exact List.length_pos_iff.2 hh.1)) ?_;refine uAx rfl rfl rfl rfl rfl rfl gU (fun hh=>gA ((fun hh=>hh) hh) (rfl)) (uIH _) rfl ?_;refine uAa rfl rfl rfl (uA1 rfl (fun hh=>hh)) ?_;refine uAa rfl rfl rfl (uAO rfl rfl gU (fun _ hi=>gP rfl hi)) ?_;refine uAa rfl rfl rfl (uAc rfl gU) ?_;refine uAa rfl rfl rfl (uAc rfl gU) ?_;refine uAa rfl rfl rfl (uAP rfl rfl (fun hh=>hh) gU Tryz.underlying9 rfl (by intro hh; simp at hh; exact List.length_pos_iff.2 hh.1.1)) ?_;refine uAa rfl rfl rfl (uAm rfl rfl (fun hh=>hh) gU rfl) ?_;refine uAa rfl rfl rfl (uAc rfl (fun hh=>hh)) ?_
 refine uAa rfl rfl rfl (uAc rfl gU) ?_;refine uAa rfl rfl rfl (uAP rfl rfl (fun hh=>hh) gU Tryz.underlying9 rfl (by intro hh; simp at hh; exact List.length_pos_iff.2 hh.1.1.1)) ?_;refine uAa rfl rfl rfl (uAm rfl rfl (fun hh=>hh) gU rfl) ?_;refine uAa rfl rfl rfl (uAJ rfl rfl (fun hh=>hh) (fun hh hi=>gP hh hi)) ?_;refine uAa rfl rfl rfl (uAO rfl rfl gU (fun _ hi=>gP rfl hi)) ?_;refine uAa rfl rfl rfl (uAc rfl gU) ?_;refine uAa rfl rfl rfl (uAc rfl gU) ?_;refine uAa rfl rfl rfl (uAP rfl rfl (fun hh=>hh) gU Tryz.underlying9 rfl (by intro hh; simp at hh; exact List.length_pos_iff.2 hh.1.1.1)) ?_;refine uAa rfl rfl rfl (uAm rfl rfl (fun hh=>hh) gU rfl) ?_;refine uAa rfl rfl rfl (uAO rfl rfl gU (fun _ hi=>gP rfl hi)) ?_;refine uAa rfl rfl rfl (uAc rfl gU) ?_;refine uAa rfl rfl rfl (uAc rfl gU) ?_;refine uAa rfl rfl rfl (uAP rfl rfl (fun hh=>hh) gU Tryz.underlying9 rfl (by intro hh; simp at hh; exact List.length_pos_iff.2 hh.1.1.1.1)) ?_;refine uAa rfl rfl rfl (uAm rfl rfl (fun hh=>hh) gU rfl) ?_;refine uAa rfl rfl rfl (uAO rfl rfl gU (fun _ hi=>gP rfl hi)) ?_;refine uAf ?_;refine uAk (s:=⟨[(0,_,_),(36,_,_)],[],[],[]⟩) (uAj (⟨sx rfl,sx rfl,trivial⟩) trivial trivial) ?_;refine uAo rfl (fun hc=>?_) (fun hc=>?_)
 ·refine uAd (uAb ?_)
  refine uAa rfl rfl rfl (uAe rfl gU) ?_;refine uAf ?_;refine uAq ?_
  repeat(first|refine tR ?_|refine bR ?_)
  refine uAu rfl ?_ trivial;refine uBY ?_
  simp only [Bool.or_eq_true,Bool.not_eq_true',decide_eq_true_eq,Bool.and_eq_true,beq_iff_eq] at hc
  rcases hc with ((((hc | hc) | hc) | hc) | hc) | hc
  ·subst hc; rfl
  ·have : ¬ l.length≤24:=by omega
   simp [uCO,this]
  ·simp only [uCO,uE4 _ (.inl hc),Bool.and_false,Bool.false_and]
  ·simp only [uCO,uE4 _ (.inr (.inl hc)),Bool.and_false,Bool.false_and]
  ·simp only [uCO,uE4 _ (.inr (.inr (.inl hc))),Bool.and_false,Bool.false_and]
  ·simp only [uCO,uE4 _ (.inr (.inr (.inr hc))),Bool.and_false,Bool.false_and]
 ·simp only [Bool.or_eq_false_iff,Bool.not_eq_false',decide_eq_false_iff_not,beq_eq_false_iff_ne] at hc
  obtain ⟨⟨⟨⟨⟨hc1,hc2⟩,hc3⟩,hc4⟩,hc5⟩,hc6⟩:=hc
  have hlet:=uLy _ hc3 (by rintro ⟨q1,q2⟩; rw[decide_eq_true q1,decide_eq_true q2] at hc4; simp at hc4) hc5 hc6
  refine uAp ?_;refine uAd ?_;refine uAd (uAb ?_);refine uAa rfl rfl rfl (uAc rfl gU) ?_;refine uBS rfl rfl rfl rfl rfl gU (Tryz.underlying9) ?_ (fun hh=>by simp at hh); intro hlen;refine uAa rfl rfl rfl (uAc rfl gU) ?_;refine uAf ?_;refine uAt ?_;refine uCv (uOE l) (fun k=>k≤l.length ∧ ∀ j,j < k→uB4 ((l.getD j 0).toNat : Int)=true) (fun k=>l.length - k) 0 ⟨Nat.zero_le _,fun j h=>by omega⟩ ?_ ?_
  ·refine uAj ⟨⟨_,rfl,rfl⟩,⟨_,rfl,rfl⟩,⟨_,rfl,rfl⟩,trivial⟩ trivial trivial
  ·rintro k ⟨hk,hall⟩
   refine uAd (uAb ?_);refine uAa rfl rfl rfl (uAm rfl rfl gU gU rfl) ?_;refine uAf ?_;refine uAd ?_;refine uAo rfl (fun hc2=>?_) (fun hc2=>?_)
   ·have hlt : k < l.length:=by simpa using hc2
    refine uAp ?_;refine uAd ?_;refine uAt ?_;refine uAd (uAb ?_);refine uAa rfl rfl rfl (uAc rfl gU) ?_;refine uAa rfl rfl rfl (uAe rfl gU) ?_;refine uAf ?_;refine uAd (uAb ?_);refine uAa rfl rfl rfl (uAc rfl gU) ?_;refine uAa rfl rfl rfl (uAc rfl gU) ?_;refine uAa rfl rfl rfl (uAP rfl rfl gU gU Tryz.underlying9 rfl (fun _=>hlt)) ?_;refine uAx rfl rfl rfl rfl rfl rfl gU gU (uIH _) rfl ?_;refine uAa rfl rfl rfl (uA1 rfl gU) ?_;refine uAf ?_;refine uAk (s:=⟨[(0,_,_),(38,_,_),(39,_,_),(46,_,_)],[],[],[]⟩) (uAj (⟨sx rfl,sx rfl,sx rfl,sx rfl,trivial⟩) trivial trivial) ?_;refine uAo rfl (fun hc3=>?_) (fun hc3=>?_)
    ·refine uAd (uAb ?_)
     refine uAa rfl rfl rfl (uAe rfl gU) ?_;refine uAf ?_;refine uAq ?_
     repeat(first|refine tR ?_|refine bR ?_)
     refine uAu rfl ?_ trivial;refine uBY ?_
     have : (l.all fun b=>uB4 (b.toNat : Int))=false:=uJ0 hlt (by simpa using hc3)
     simp [uCO,this]
    ·refine uAp ?_
     refine uAb ?_;refine uAa rfl rfl rfl (uAz rfl rfl gU gU rfl (IntWalk.i64_in _ (by omega))) ?_;refine uAa rfl rfl rfl (uAc rfl gU) ?_;refine uAf ?_;refine ⟨k + 1,⟨by omega,?_⟩,by omega,?_⟩
     ·intro j hj
      rcases Nat.lt_or_ge j k with h | h
      ·exact hall j h
      ·have : j=k:=by omega
       subst this
       simpa using hc3
     ·refine uAj ⟨⟨_,rfl,rfl⟩,⟨_,rfl,rfl⟩,⟨_,rfl,rfl⟩,trivial⟩ trivial trivial
   ·refine uAL ?_
    repeat(first|refine uAE ?_|refine uAF ?_|refine uAB rfl ?_)
    refine uAd (uAb ?_);refine uAa rfl rfl rfl (uAe rfl gU) ?_;refine uAf ?_;refine uAq ?_
    repeat(first|refine tR ?_|refine bR ?_)
    refine uAu rfl ?_ trivial;refine uBY ?_
    have hk' : k=l.length:=by simp at hc2; omega
    subst hk'
    have := uPB (p := fun b=>uB4 (b.toNat : Int)) hall
    have hne : l.length≠0 := by intro h; have := List.eq_nil_of_length_eq_zero h; simp [this] at hc1
    have h24 : l.length≤24:=by omega
    simp only [uCO,this,hlet]
    rw[decide_eq_true hne,decide_eq_true h24]
    rfl
theorem uM7 (t : T) : Ctr sys 148 [xm t] [] (xi (uB8 t)) none []:=by
 refine uAA Tryz.func148 rfl rfl rfl rfl rfl rfl ?_;refine uAd (uAb ?_);refine uAs rfl (uAH rfl rfl rfl rfl) ?_;refine uAa rfl rfl rfl (uAe rfl gU) ?_;refine uAf ?_;refine uAd (uAb ?_);refine uAa rfl rfl rfl (uAg rfl gU rfl rfl) ?_;refine uAa rfl rfl rfl (uAh rfl gU rfl rfl rfl rfl) ?_;refine uAa rfl rfl rfl (uAm rfl rfl gU gU rfl) ?_;refine uAa rfl rfl rfl (uAc rfl gU) ?_;refine uAa rfl rfl rfl (uAg rfl gU rfl rfl) ?_;refine uAa rfl rfl rfl (uAh rfl (fun hh=>hh) rfl rfl rfl rfl) ?_;refine uAa rfl rfl rfl (uAm rfl rfl (fun hh=>hh) gU rfl) ?_;refine uAa rfl rfl rfl (uAO rfl rfl gU (fun _ hi=>gP rfl hi)) ?_;refine uAa rfl rfl rfl (uAe rfl gU) ?_;refine uAf ?_;refine uAk (s:=⟨[(1,_,_),(3,_,_)],[(.l 1,_)],[],[]⟩) (uAj (⟨sx rfl,sx rfl,trivial⟩) (⟨sx rfl,trivial⟩) trivial) ?_;refine uAd ?_;refine uAd (uAb ?_);refine uAa rfl rfl rfl (uAc rfl gU) ?_;refine uAa rfl rfl rfl (uA1 rfl gU) ?_;refine uAa rfl rfl rfl (uAc rfl gU) ?_;refine uAa rfl rfl rfl (uAg rfl gU rfl rfl) ?_;refine uAa rfl rfl rfl (uAh rfl (fun hh=>hh) rfl rfl rfl rfl) ?_;refine uAa rfl rfl rfl (uAm rfl rfl (fun hh=>hh) gU rfl) ?_;refine uAa rfl rfl rfl (uAJ rfl rfl gU (fun _ hi=>gP rfl hi)) ?_;refine uAa rfl rfl rfl (uAc rfl gU) ?_
 refine uAa rfl rfl rfl (uAg rfl gU rfl rfl) ?_;refine uAa rfl rfl rfl (uAh rfl (fun hh=>hh) rfl rfl rfl rfl) ?_;refine uAa rfl rfl rfl (uAm rfl rfl (fun hh=>hh) gU rfl) ?_;refine uAa rfl rfl rfl (uAO rfl rfl gU (fun _ hi=>gP rfl hi)) ?_;refine uAa rfl rfl rfl (uAc rfl gU) ?_;refine uAa rfl rfl rfl (uAg rfl gU rfl rfl) ?_;refine uAa rfl rfl rfl (uAh rfl (fun hh=>hh) rfl rfl rfl rfl) ?_;refine uAa rfl rfl rfl (uAm rfl rfl (fun hh=>hh) gU rfl) ?_;refine uAa rfl rfl rfl (uAO rfl rfl gU (fun _ hi=>gP rfl hi)) ?_;refine uAa rfl rfl rfl (uAc rfl gU) ?_;refine uAa rfl rfl rfl (uAc rfl gU) ?_;refine uAa rfl rfl rfl (uA1 rfl (fun hh=>hh)) ?_;refine uAa rfl rfl rfl (uAc rfl (fun hh=>hh)) ?_;refine uAa rfl rfl rfl (uAg rfl gU rfl rfl) ?_;refine uAa rfl rfl rfl (uAh rfl (fun hh=>hh) rfl rfl rfl rfl) ?_;refine uAa rfl rfl rfl (uAm rfl rfl (fun hh=>hh) gU rfl) ?_;refine uAa rfl rfl rfl (uAJ rfl rfl (fun hh=>hh) (fun hh hi=>gP hh hi)) ?_;refine uAa rfl rfl rfl (uAO rfl rfl gU (fun _ hi=>gP rfl hi)) ?_;refine uAa rfl rfl rfl (uAc rfl gU) ?_;refine uAa rfl rfl rfl (uAc rfl gU) ?_;refine uAa rfl rfl rfl (uAc rfl (fun hh=>hh)) ?_;refine uAa rfl rfl rfl (uAg rfl gU rfl rfl) ?_;refine uAa rfl rfl rfl (uAh rfl (fun hh=>hh) rfl rfl rfl rfl) ?_
 refine uAa rfl rfl rfl (uA7 rfl (fun hh=>hh) rfl rfl) ?_;refine uAa rfl rfl rfl (uAm rfl rfl (fun hh=>hh) gU rfl) ?_;refine uAa rfl rfl rfl (uAJ rfl rfl (fun hh=>hh) (fun hh hi=>gP hh hi)) ?_;refine uAa rfl rfl rfl (uAO rfl rfl gU (fun _ hi=>gP rfl hi)) ?_;refine uAf ?_;refine uAk (s:=⟨[(1,_,_),(46,_,_)],[(.l 1,_)],[],[]⟩) (uAj (⟨sx rfl,sx rfl,trivial⟩) (⟨sx rfl,trivial⟩) trivial) ?_;refine uAo rfl (fun hc=>?_) (fun hc=>?_)
 ·refine uAd (uAb ?_)
  refine uAa rfl rfl rfl (uAe rfl gU) ?_;refine uAf ?_;refine uAq ?_
  repeat(first|refine tR ?_|refine bR ?_)
  refine uAu rfl ?_ trivial;refine uBc ?_
  rw[uB8,if_neg]
  simp only [Bool.or_eq_true,Bool.and_eq_true,Bool.not_eq_true',Bool.or_eq_false_iff,decide_eq_true_eq,bne_iff_ne,ne_eq,beq_iff_eq,beq_eq_false_iff_ne,T.rows_len] at hc
  rintro (⟨h1,h2,h3,h4⟩ | ⟨h1,h2⟩) <;> omega
 ·have hok : (t.kind=1∨t.kind=2)∧0≤t.sort∧t.sort≤5∧t.kids.length=0∨t.kind=3∧t.sort=0:=by
   simp only [Bool.or_eq_false_iff,Bool.and_eq_false_iff,Bool.not_eq_false',Bool.or_eq_true,decide_eq_false_iff_not,bne_eq_false_iff_eq,beq_iff_eq,beq_eq_false_iff_ne,ne_eq,T.rows_len] at hc
   omega
  refine uAp ?_;refine uAd ?_;refine uAd (uAb ?_);refine uAa rfl rfl rfl (uAg rfl gU rfl rfl) ?_;refine uAa rfl rfl rfl (uAh rfl gU rfl rfl rfl rfl) ?_;refine uAx rfl rfl rfl rfl rfl rfl gU gU (uGt _) rfl ?_;refine uAa rfl rfl rfl (uA1 rfl gU) ?_;refine uAf ?_;refine uAo rfl (fun hc2=>?_) (fun hc2=>?_)
  ·refine uAd (uAb ?_)
   refine uAa rfl rfl rfl (uAe rfl gU) ?_;refine uAf ?_;refine uAq ?_
   repeat(first|refine tR ?_|refine bR ?_)
   refine uAu rfl ?_ trivial;refine uBc ?_
   simp only [Bool.not_eq_true'] at hc2
   rw[uB8,if_pos hok,if_neg (by rw[hc2]; simp)]
  ·simp only [Bool.not_eq_false'] at hc2
   refine uAp ?_;refine uAd ?_;refine uAd (uAb ?_);refine uAa rfl rfl rfl (uAg rfl gU rfl rfl) ?_;refine uAa rfl rfl rfl (uAh rfl gU rfl rfl rfl rfl) ?_;refine uAI rfl rfl rfl rfl rfl gU rfl rfl ?_ (fun hh=>by simp at hh); intro hlen;refine uAa rfl rfl rfl (uAm rfl rfl gU gU rfl) ?_;refine uAf ?_;refine uAk (s:=⟨[(54,_,_)],[],[],[]⟩) (uAj (⟨sx rfl,trivial⟩) trivial trivial) ?_;refine uAo rfl (fun hc3=>?_) (fun hc3=>?_)
   ·refine uAd (uAb ?_)
    refine uAa rfl rfl rfl (uAe rfl gU) ?_;refine uAf ?_;refine uAq ?_
    repeat(first|refine tR ?_|refine bR ?_)
    refine uAu rfl ?_ trivial;refine uBc ?_
    simp only [T.rows_len,decide_eq_true_eq] at hc3
    rw[uB8,if_pos hok,if_pos hc2,if_pos (by omega)]
   ·refine uAp ?_
    refine uAd (uAb ?_);refine uAa rfl rfl rfl (uAe rfl gU) ?_;refine uAf ?_;refine uAq ?_
    repeat(first|refine tR ?_|refine bR ?_)
    refine uAu rfl ?_ trivial;refine uBc ?_
    simp only [T.rows_len,decide_eq_false_iff_not] at hc3
    rw[uB8,if_pos hok,if_pos hc2,if_neg (by omega)]
def uQx (t : T) (k : Nat) : St:={ t:=[(1,true, .v (.ptr (.l 1) 0)),(4,true,xi k)],bx:=[(.l 1,t.cells)],ow:=[] }
theorem uLl : ∀ (n : Nat) (t : T),t.size≤n→n≤2000000→Ctr sys 122 [xm t] [] (xi t.nodesE) none []:=by
 intro n
 induction n with
 | zero=>intro t h _; have := t.size_pos; omega
 | succ n ih =>
  intro t ht hn
  refine uAA Tryz.func122 rfl rfl rfl rfl rfl rfl ?_;refine uAd (uAb ?_);refine uAs rfl (uAH rfl rfl rfl rfl) ?_;refine uAa rfl rfl rfl (uAe rfl gU) ?_;refine uAf ?_;refine uAd ?_;refine uAd (uAb ?_);refine uAa rfl rfl rfl (uAn rfl gU rfl rfl rfl rfl rfl) ?_;refine uAx rfl rfl rfl rfl rfl rfl gU gU (uM7 t) rfl ?_;refine uAa rfl rfl rfl (uAe rfl gU) ?_;refine uAf ?_;refine uAk (s:=⟨[(1,_,_),(3,_,_)],[(.l 1,_)],[],[]⟩) (uAj (⟨sx rfl,sx rfl,trivial⟩) (⟨sx rfl,trivial⟩) trivial) ?_;refine uAd (uAb ?_);refine uAa rfl rfl rfl (uAc rfl gU) ?_;refine uAa rfl rfl rfl (uAm rfl rfl gU gU rfl) ?_;refine uAf ?_;refine uAo rfl (fun hc=>?_) (fun hc=>?_)
  ·refine uAd (uAb ?_)
   refine uAa rfl rfl rfl (uAc rfl gU) ?_;refine uAa rfl rfl rfl (uAe rfl gU) ?_;refine uAf ?_;refine uAq ?_
   repeat(first|refine tR ?_|refine bR ?_)
   refine uAu rfl ?_ trivial;refine uBc ?_
   rw[T.nodesE_eq,if_pos (by simpa using hc)]
  ·refine uAp ?_
   refine uAd ?_;refine uAd (uAb ?_);refine uAa rfl rfl rfl (uAe rfl gU) ?_;refine uAf ?_;refine uAt ?_
   have hz : uB8 t=0:=by simpa using hc
   refine uCv (uQx t) (fun k=>k≤t.kids.length∧T.nodesEs (t.kids.take k)=0) (fun k=>t.kids.length - k) 0 ⟨Nat.zero_le _,by simp [T.nodesEs]⟩ ?_ ?_
   ·refine uAj ⟨⟨_,rfl,rfl⟩,⟨_,rfl,rfl⟩,trivial⟩ ⟨⟨_,rfl,rfl⟩,trivial⟩ trivial
   ·rintro k ⟨hk,h0⟩
    refine uAd ?_;refine uAd (uAb ?_);refine uAa rfl rfl rfl (uAc rfl gU) ?_;refine uAa rfl rfl rfl (uAg rfl gU rfl rfl) ?_;refine uAa rfl rfl rfl (uAh rfl gU rfl rfl rfl rfl) ?_;refine uAI rfl rfl rfl rfl rfl gU rfl rfl ?_ (fun hh=>by simp at hh); intro hlen;refine uAa rfl rfl rfl (uAm rfl rfl gU gU rfl) ?_;refine uAf ?_;refine uAk (s:=⟨[(1,_,_),(4,_,_),(15,_,_)],[(.l 1,_)],[],[]⟩) (uAj (⟨sx rfl,sx rfl,sx rfl,trivial⟩) (⟨sx rfl,trivial⟩) trivial) ?_;refine uAo rfl (fun hc2=>?_) (fun hc2=>?_)
    ·rw[T.rows_len] at hlen hc2
     have hlt : k < t.kids.length:=by simpa using hc2
     obtain ⟨x,hx⟩ : ∃ x,t.kids[k]? = some x:=⟨_,List.getElem?_eq_getElem hlt⟩
     have h3:=T.size_kid hx
     refine uAp ?_;refine uAd ?_;refine uAt ?_;refine uAd (uAb ?_);refine uAa rfl rfl rfl (uAg rfl gU rfl rfl) ?_;refine uAa rfl rfl rfl (uAh rfl gU rfl rfl rfl rfl) ?_;refine uAa rfl rfl rfl (uAc rfl gU) ?_;refine uAa rfl rfl rfl (uAr rfl rfl gU gU rfl rfl rfl (fun _=>T.rows_get hx)) ?_;refine uAa rfl rfl rfl (uAD rfl gU rfl rfl rfl rfl) ?_;refine uAx rfl rfl rfl rfl rfl rfl gU gU (ih x (by omega) (by omega)) rfl ?_;refine uAa rfl rfl rfl (uAe rfl gU) ?_;refine uAf ?_;refine uAk (s:=⟨[(1,_,_),(4,_,_),(5,_,_)],[(.l 1,_)],[],[]⟩) (uAj (⟨sx rfl,sx rfl,sx rfl,trivial⟩) (⟨sx rfl,trivial⟩) trivial) ?_;refine uAd (uAb ?_);refine uAa rfl rfl rfl (uAc rfl gU) ?_;refine uAa rfl rfl rfl (uAm rfl rfl gU gU rfl) ?_;refine uAf ?_;refine uAo rfl (fun hc3=>?_) (fun hc3=>?_)
     ·refine uAd (uAb ?_)
      refine uAa rfl rfl rfl (uAc rfl gU) ?_;refine uAa rfl rfl rfl (uAe rfl gU) ?_;refine uAf ?_;refine uAq ?_
      repeat(first|refine tR ?_|refine bR ?_)
      refine uAu rfl ?_ trivial;refine uBc ?_
      rw[T.nodesE_eq t,if_neg (by simpa using hz),T.nodesEs_hit _ _ _ hx h0 (by simpa using hc3)]
     ·refine uAp ?_
      refine uAb ?_;refine uAa rfl rfl rfl (uAc rfl gU) ?_;refine uAa rfl rfl rfl (uAz rfl rfl gU gU rfl (IntWalk.i64_in _ (by omega))) ?_;refine uAa rfl rfl rfl (uAe rfl gU) ?_;refine uAf ?_;refine ⟨k + 1,⟨by omega,T.nodesEs_step _ _ _ hx h0 (by simpa using hc3)⟩,by omega,?_⟩;refine uAj ⟨⟨_,rfl,rfl⟩,⟨_,rfl,rfl⟩,trivial⟩ ⟨⟨_,rfl,rfl⟩,trivial⟩ trivial
    ·refine uAL ?_
     repeat(first|refine uAE ?_|refine uAF ?_|refine uAB rfl ?_)
     refine uAd (uAb ?_);refine uAa rfl rfl rfl (uAe rfl gU) ?_;refine uAf ?_;refine uAq ?_
     repeat(first|refine tR ?_|refine bR ?_)
     refine uAu rfl ?_ trivial
     rw[T.rows_len] at hc2
     have : k=t.kids.length:=by simp at hc2; omega
     subst this
     rw[List.take_length] at h0
     refine uBc ?_
     rw[T.nodesE_eq t,if_neg (by simpa using hz),h0]
def uQr (t : T) (k : Nat) : St:={ t:=[(1,true, .v (.ptr (.l 1) 0)),(3,true,xi (T.depths (t.kids.take k))),(4,true,xi k)],bx:=[(.l 1,t.cells)],ow:=[] }
theorem uLo : ∀ (n : Nat) (t : T),t.size≤n→n≤2000000→Ctr sys 123 [xm t] [] (xi t.depth) none []:=by
 intro n
 induction n with
 | zero=>intro t h _; have := t.size_pos; omega
 | succ n ih =>
  intro t ht hn
  refine uAA Tryz.func123 rfl rfl rfl rfl rfl rfl ?_;refine uAd (uAb ?_);refine uAs rfl (uAH rfl rfl rfl rfl) ?_;refine uAa rfl rfl rfl (uAe rfl gU) ?_;refine uAf ?_;refine uAd (uAb ?_);refine uAa rfl rfl rfl (uAe rfl gU) ?_;refine uAf ?_;refine uAd ?_;refine uAd (uAb ?_);refine uAa rfl rfl rfl (uAe rfl gU) ?_;refine uAf ?_;refine uAt ?_;refine uCv (uQr t) (fun k=>k≤t.kids.length) (fun k=>t.kids.length - k) 0 (Nat.zero_le _) ?_ ?_
  ·refine uAj ⟨⟨_,rfl,rfl⟩,⟨_,rfl,rfl⟩,⟨_,rfl,rfl⟩,trivial⟩ ⟨⟨_,rfl,rfl⟩,trivial⟩ trivial
  ·intro k hk
   have hd1:=T.depths_take_le t.kids k
   have hd2:=t.depth_le
   have hd3:=t.depth_eq
   refine uAd ?_;refine uAd (uAb ?_);refine uAa rfl rfl rfl (uAc rfl gU) ?_;refine uAa rfl rfl rfl (uAg rfl gU rfl rfl) ?_;refine uAa rfl rfl rfl (uAh rfl gU rfl rfl rfl rfl) ?_;refine uAI rfl rfl rfl rfl rfl gU rfl rfl ?_ (fun hh=>by simp at hh); intro hlen;refine uAa rfl rfl rfl (uAm rfl rfl gU gU rfl) ?_;refine uAf ?_;refine uAk (s:=⟨[(1,_,_),(3,_,_),(4,_,_),(9,_,_)],[(.l 1,_)],[],[]⟩) (uAj (⟨sx rfl,sx rfl,sx rfl,sx rfl,trivial⟩) (⟨sx rfl,trivial⟩) trivial) ?_;refine uAo rfl (fun hc=>?_) (fun hc=>?_)
   ·rw[T.rows_len] at hlen hc
    have hlt : k < t.kids.length:=by simpa using hc
    obtain ⟨x,hx⟩ : ∃ x,t.kids[k]? = some x:=⟨_,List.getElem?_eq_getElem hlt⟩
    have h1:=T.depths_take _ _ _ hx
    have h3:=T.size_kid hx
    refine uAp ?_;refine uAd ?_;refine uAt ?_;refine uAb ?_;refine uAa rfl rfl rfl (uAc rfl gU) ?_;refine uAa rfl rfl rfl (uAg rfl gU rfl rfl) ?_;refine uAa rfl rfl rfl (uAh rfl gU rfl rfl rfl rfl) ?_;refine uAa rfl rfl rfl (uAc rfl gU) ?_;refine uAa rfl rfl rfl (uAr rfl rfl gU gU rfl rfl rfl (fun _=>T.rows_get hx)) ?_;refine uAa rfl rfl rfl (uAD rfl gU rfl rfl rfl rfl) ?_;refine uAx rfl rfl rfl rfl rfl rfl gU gU (ih x (by omega) (by omega)) rfl ?_;refine uAa rfl rfl rfl (uKn rfl rfl gU gU) ?_;refine uAa rfl rfl rfl (uAe rfl gU) ?_;refine uAf ?_;refine uAk (s:=⟨[(1,_,_),(3,_,_),(4,_,_)],[(.l 1,_)],[],[]⟩) (uAj (⟨sx rfl,sx rfl,sx rfl,trivial⟩) (⟨sx rfl,trivial⟩) trivial) ?_;refine uAb ?_;refine uAa rfl rfl rfl (uAc rfl gU) ?_;refine uAa rfl rfl rfl (uAz rfl rfl gU gU rfl (IntWalk.i64_in _ (by omega))) ?_;refine uAa rfl rfl rfl (uAe rfl gU) ?_;refine uAf ?_;refine ⟨k + 1,by omega,by omega,?_⟩;refine uAj ⟨⟨_,rfl,rfl⟩,⟨_,rfl,?_⟩,⟨_,rfl,rfl⟩,trivial⟩ ⟨⟨_,rfl,rfl⟩,trivial⟩ trivial
    rw[h1]; simp; omega
   ·refine uAL ?_
    repeat(first|refine uAE ?_|refine uAF ?_|refine uAB rfl ?_)
    refine uAd (uAb ?_);refine uAa rfl rfl rfl (uAc rfl gU) ?_;refine uAa rfl rfl rfl (uAz rfl rfl gU gU rfl (IntWalk.i64_in _ (by omega))) ?_;refine uAa rfl rfl rfl (uAe rfl gU) ?_;refine uAf ?_;refine uAq ?_
    repeat(first|refine tR ?_|refine bR ?_)
    refine uAu rfl ?_ trivial
    rw[T.rows_len] at hc
    have : k=t.kids.length:=by simp at hc; omega
    subst this
    refine uBc ?_
    rw[List.take_length,t.depth_eq]
    simp
theorem uLJ (t : T) (h : t.size≤2000000) : Ctr sys 96 [xm t] [] (xi (uDj t)) none []:=by
 refine uAA Tryz.func96 rfl rfl rfl rfl rfl rfl ?_;refine uAd (uAb ?_);refine uAs rfl (uAH rfl rfl rfl rfl) ?_;refine uAa rfl rfl rfl (uAe rfl gU) ?_;refine uAf ?_;refine uAd ?_;refine uAd (uAb ?_);refine uAa rfl rfl rfl (uAn rfl gU rfl rfl rfl rfl rfl) ?_;refine uAx rfl rfl rfl rfl rfl rfl gU gU (uLl _ t (Nat.le_refl _) h) rfl ?_;refine uAa rfl rfl rfl (uAe rfl gU) ?_;refine uAf ?_;refine uAk (s:=⟨[(1,_,_),(3,_,_)],[(.l 1,_)],[],[]⟩) (uAj (⟨sx rfl,sx rfl,trivial⟩) (⟨sx rfl,trivial⟩) trivial) ?_;refine uAd (uAb ?_);refine uAa rfl rfl rfl (uAc rfl gU) ?_;refine uAa rfl rfl rfl (uAm rfl rfl gU gU rfl) ?_;refine uAf ?_;refine uAo rfl (fun hc=>?_) (fun hc=>?_)
 ·refine uAd (uAb ?_)
  refine uAa rfl rfl rfl (uAc rfl gU) ?_;refine uAa rfl rfl rfl (uAe rfl gU) ?_;refine uAf ?_;refine uAq ?_
  repeat(first|refine tR ?_|refine bR ?_)
  refine uAu rfl ?_ trivial;refine uBc ?_
  rw[uDj,if_pos (by simpa using hc)]
 ·refine uAp ?_
  refine uAd ?_;refine uAd (uAb ?_);refine uAa rfl rfl rfl (uAn rfl gU rfl rfl rfl rfl rfl) ?_;refine uAx rfl rfl rfl rfl rfl rfl gU gU (uE6 _ t (Nat.le_refl _) h) rfl ?_;refine uAa rfl rfl rfl (uAm rfl rfl gU gU rfl) ?_;refine uAa rfl rfl rfl (uAc rfl gU) ?_;refine uAa rfl rfl rfl (uAn rfl gU rfl rfl rfl rfl rfl) ?_;refine uAx rfl rfl rfl rfl rfl rfl gU (fun hh=>gA ((fun hh=>hh) hh) (rfl)) (uLo _ t (Nat.le_refl _) h) rfl ?_;refine uAa rfl rfl rfl (uAm rfl rfl (fun hh=>hh) gU rfl) ?_;refine uAa rfl rfl rfl (uAO rfl rfl gU (fun _ hi=>gP rfl hi)) ?_;refine uAf ?_;refine uAk (s:=⟨[(16,_,_)],[],[],[]⟩) (uAj (⟨sx rfl,trivial⟩) trivial trivial) ?_
  have hz : t.nodesE=0:=by simpa using hc
  refine uAo rfl (fun hc2=>?_) (fun hc2=>?_)
  ·refine uAd (uAb ?_)
   refine uAa rfl rfl rfl (uAe rfl gU) ?_;refine uAf ?_;refine uAq ?_
   repeat(first|refine tR ?_|refine bR ?_)
   refine uAu rfl ?_ trivial;refine uBc ?_
   simp only [Bool.or_eq_true,decide_eq_true_eq] at hc2
   rw[uDj,if_neg (by simpa using hz),if_pos (by omega)]
  ·refine uAp ?_
   refine uAd (uAb ?_);refine uAa rfl rfl rfl (uAe rfl gU) ?_;refine uAf ?_;refine uAq ?_
   repeat(first|refine tR ?_|refine bR ?_)
   refine uAu rfl ?_ trivial;refine uBc ?_
   simp only [Bool.or_eq_false_iff,decide_eq_false_iff_not] at hc2
   rw[uDj,if_neg (by simpa using hz),if_neg (by omega)]
def uQw (t : T) (lv n d : Int) : St:={ t:=[(1,true,xi lv),(2,true, .v (.ptr (.o 0) 0)),(3,true, .v (.ptr (.o 1) 0)),(4,true, .v (.ptr (.l 4) 0))],bx:=[(.l 4,t.cells),(.o 0,[.i .i64 (n + 1)]),(.o 1,[.i .i64 (max d lv)])],ow:=[] }
def uQy (t : T) (lv n d : Int) (k : Nat) : St:={ t:=[(1,true,xi lv),(2,true, .v (.ptr (.o 0) 0)),(3,true, .v (.ptr (.o 1) 0)),(57,true,xl t.kids),(58,true,xi t.kids.length),(59,true,xi k)],bx:=[(.o 0,[.i .i64 (T.chks (t.kids.take k) (lv + 1) (n + 1) (max d lv)).n]),(.o 1,[.i .i64 (T.chks (t.kids.take k) (lv + 1) (n + 1) (max d lv)).d])],ow:=[] }
theorem uLu : ∀ (b : Nat) (t : T) (lv n d : Int),t.size≤b→b≤2000000→0≤n→n + t.size≤2000000→0≤lv→lv + t.size≤2000000 →
  Ctr sys 158 [xm t,xi lv, .v (.ptr (.o 0) 0), .v (.ptr (.o 1) 0)] [[.i .i64 n],[.i .i64 d]] (xi t.nodesE) none [[.i .i64 (t.chk lv n d).n],[.i .i64 (t.chk lv n d).d]]:=by
 intro b
 induction b with
 | zero=>intro t _ _ _ h; have := t.size_pos; omega
 | succ b ih =>
  intro t lv n d ht hb hn hn2 hl hl2
  have hsz:=t.size_pos
  have hbad : uB8 t≠0→t.nodesE=uB8 t∧t.chk lv n d=⟨uB8 t,n + 1,max d lv⟩:=fun h=>⟨by rw[T.nodesE_eq,if_pos h],by rw[T.chk_eq,if_pos h]⟩
  refine uAA Tryz.func158 rfl rfl rfl rfl rfl rfl ?_;refine uAd (uAb ?_);refine uAs rfl (uAH rfl rfl rfl rfl) ?_;refine uAa rfl rfl rfl (uAe rfl gU) ?_;refine uAf ?_;refine uAd (uAb ?_);refine uAa rfl rfl rfl (uAc rfl gU) ?_;refine uAa rfl rfl rfl (uCo rfl gU) ?_;refine uAa rfl rfl rfl (uAh rfl gU rfl rfl rfl rfl) ?_;refine uAa rfl rfl rfl (uAz rfl rfl gU gU rfl (IntWalk.i64_in _ (by omega))) ?_;refine uAa rfl rfl rfl (uCo rfl gU) ?_;refine uAs rfl (uAw rfl rfl rfl rfl rfl rfl rfl) ?_;refine uAf ?_;refine uAk (s:=⟨[(1,_,_),(2,_,_),(3,_,_),(4,_,_)],[(.l 4,_),(.o 0,_),(.o 1,_)],[],[]⟩) (uAj (⟨sx rfl,sx rfl,sx rfl,sx rfl,trivial⟩) (⟨sx rfl,sx rfl,sx rfl,trivial⟩) trivial) ?_;refine uAd (uAb ?_);refine uAa rfl rfl rfl (uAc rfl gU) ?_;refine uAa rfl rfl rfl (uAc rfl gU) ?_;refine uAa rfl rfl rfl (uCo rfl gU) ?_;refine uAa rfl rfl rfl (uAh rfl gU rfl rfl rfl rfl) ?_;refine uAa rfl rfl rfl (uAc rfl gU) ?_;refine uAa rfl rfl rfl (uKn rfl rfl gU gU) ?_;refine uAa rfl rfl rfl (uCo rfl gU) ?_;refine uAs rfl (uAw rfl rfl rfl rfl rfl rfl rfl) ?_;refine uAf ?_;refine uAk (s:=⟨[(1,_,_),(2,_,_),(3,_,_),(4,_,_)],[(.l 4,_),(.o 0,_),(.o 1,_)],[],[]⟩) (uAj (⟨sx rfl,sx rfl,sx rfl,sx rfl,trivial⟩) (⟨sx rfl,sx rfl,sx rfl,trivial⟩) trivial) ?_
  refine uMl (uQw t lv n d) ((t.kind=1∨t.kind=2)∧0≤t.sort∧t.sort≤5∧t.kids.length=0∨t.kind=3∧t.sort=0) ?_ (fun hj=>?_)
  ·have h1 : ∀ h : ¬ ((t.kind=1∨t.kind=2)∧0≤t.sort∧t.sort≤5∧t.kids.length=0∨t.kind=3∧t.sort=0),t.nodesE=1∧t.chk lv n d=⟨1,n + 1,max d lv⟩:=by
    intro h
    have hq : uB8 t=1:=by rw[uB8,if_neg h]
    have := hbad (by rw[hq]; omega)
    rw[hq] at this; exact this
   refine uAd (uAb ?_);refine uAa rfl rfl rfl (uAg rfl gU rfl rfl) ?_;refine uAa rfl rfl rfl (uAh rfl gU rfl rfl rfl rfl) ?_;refine uAf ?_;refine uAt ?_;refine uAd ?_;refine uAd (uAb ?_);refine uAa rfl rfl rfl (uAm rfl rfl gU gU rfl) ?_;refine uAa rfl rfl rfl (uAe rfl gU) ?_;refine uAf ?_;refine uAo rfl (fun hc=>?_) (fun hc=>?_)
   ·refine uAp ?_
    refine uAo rfl (fun hc2=>?_) (fun hc2=>?_)
    ·refine uAd (uAb ?_)
     refine uAa rfl rfl rfl (uAg rfl gU rfl rfl) ?_;refine uAa rfl rfl rfl (uAh rfl gU rfl rfl rfl rfl) ?_;refine uAa rfl rfl rfl (uAm rfl rfl gU gU rfl) ?_;refine uAa rfl rfl rfl (uAc rfl gU) ?_;refine uAa rfl rfl rfl (uAg rfl gU rfl rfl) ?_;refine uAa rfl rfl rfl (uAh rfl (fun hh=>hh) rfl rfl rfl rfl) ?_;refine uAa rfl rfl rfl (uAm rfl rfl (fun hh=>hh) gU rfl) ?_;refine uAa rfl rfl rfl (uAO rfl rfl gU (fun _ hi=>gP rfl hi)) ?_;refine uAa rfl rfl rfl (uAc rfl gU) ?_;refine uAa rfl rfl rfl (uAg rfl gU rfl rfl) ?_;refine uAa rfl rfl rfl (uAh rfl (fun hh=>hh) rfl rfl rfl rfl) ?_;refine uAa rfl rfl rfl (uA7 rfl (fun hh=>hh) rfl rfl) ?_;refine uAa rfl rfl rfl (uAm rfl rfl (fun hh=>hh) gU rfl) ?_;refine uAa rfl rfl rfl (uAO rfl rfl gU (fun _ hi=>gP rfl hi)) ?_;refine uAf ?_;refine uAk (s:=⟨[(1,_,_),(2,_,_),(3,_,_),(4,_,_),(42,_,_)],[(.l 4,_),(.o 0,_),(.o 1,_)],[],[]⟩) (uAj (⟨sx rfl,sx rfl,sx rfl,sx rfl,sx rfl,trivial⟩) (⟨sx rfl,sx rfl,sx rfl,trivial⟩) trivial) ?_;refine uAo rfl (fun hc3=>?_) (fun hc3=>?_)
     ·refine uAd (uAb ?_)
      refine uAa rfl rfl rfl (uAe rfl gU) ?_;refine uAf ?_;refine uAq ?_
      repeat(first|refine tR ?_|refine bR ?_)
      refine uAu rfl ?_ (⟨⟨_,rfl,?_⟩,⟨⟨_,rfl,?_⟩,trivial⟩⟩)
      all_goals (
       have hno:=h1 (by
        simp only [Bool.or_eq_true,decide_eq_true_eq,decide_eq_false_iff_not,beq_iff_eq,bne_iff_ne,ne_eq,beq_eq_false_iff_ne,T.rows_len] at hc hc3
        rintro (⟨q1,q2,q3,q4⟩ | ⟨q1,q2⟩) <;> omega)
       first|exact uBc hno.1.symm|(rw[hno.2]; done)|(rw[hno.2]; rfl))
     ·refine uAp ?_
      refine ⟨.inl ?_,?_⟩
      ·simp only [Bool.or_eq_false_iff,decide_eq_false_iff_not,beq_iff_eq,T.rows_len] at hc hc3
       omega
      ·refine uAj ⟨⟨_,rfl,rfl⟩,⟨_,rfl,rfl⟩,⟨_,rfl,rfl⟩,⟨_,rfl,rfl⟩,trivial⟩ ⟨⟨_,rfl,rfl⟩,⟨_,rfl,rfl⟩,⟨_,rfl,rfl⟩,trivial⟩ trivial
    ·rw[hc] at hc2; simp at hc2
   ·refine uAb ?_
    refine uAa rfl rfl rfl (uAm rfl rfl gU gU rfl) ?_;refine uAa rfl rfl rfl (uAe rfl gU) ?_;refine uAf ?_;refine uAk (s:=⟨[(1,_,_),(2,_,_),(3,_,_),(4,_,_),(25,_,_),(26,_,_)],[(.l 4,_),(.o 0,_),(.o 1,_)],[],[]⟩) (uAj (⟨sx rfl,sx rfl,sx rfl,sx rfl,sx rfl,sx rfl,trivial⟩) (⟨sx rfl,sx rfl,sx rfl,trivial⟩) trivial) ?_;refine uAo rfl (fun hc2=>?_) (fun hc2=>?_)
    ·refine uAd (uAb ?_)
     refine uAa rfl rfl rfl (uAg rfl gU rfl rfl) ?_;refine uAa rfl rfl rfl (uAh rfl gU rfl rfl rfl rfl) ?_;refine uAa rfl rfl rfl (uAm rfl rfl gU gU rfl) ?_;refine uAa rfl rfl rfl (uAc rfl gU) ?_;refine uAa rfl rfl rfl (uAg rfl gU rfl rfl) ?_;refine uAa rfl rfl rfl (uAh rfl (fun hh=>hh) rfl rfl rfl rfl) ?_;refine uAa rfl rfl rfl (uAm rfl rfl (fun hh=>hh) gU rfl) ?_;refine uAa rfl rfl rfl (uAO rfl rfl gU (fun _ hi=>gP rfl hi)) ?_;refine uAa rfl rfl rfl (uAc rfl gU) ?_;refine uAa rfl rfl rfl (uAg rfl gU rfl rfl) ?_;refine uAa rfl rfl rfl (uAh rfl (fun hh=>hh) rfl rfl rfl rfl) ?_;refine uAa rfl rfl rfl (uA7 rfl (fun hh=>hh) rfl rfl) ?_;refine uAa rfl rfl rfl (uAm rfl rfl (fun hh=>hh) gU rfl) ?_;refine uAa rfl rfl rfl (uAO rfl rfl gU (fun _ hi=>gP rfl hi)) ?_;refine uAf ?_;refine uAk (s:=⟨[(1,_,_),(2,_,_),(3,_,_),(4,_,_),(42,_,_)],[(.l 4,_),(.o 0,_),(.o 1,_)],[],[]⟩) (uAj (⟨sx rfl,sx rfl,sx rfl,sx rfl,sx rfl,trivial⟩) (⟨sx rfl,sx rfl,sx rfl,trivial⟩) trivial) ?_;refine uAo rfl (fun hc3=>?_) (fun hc3=>?_)
     ·refine uAd (uAb ?_)
      refine uAa rfl rfl rfl (uAe rfl gU) ?_;refine uAf ?_;refine uAq ?_
      repeat(first|refine tR ?_|refine bR ?_)
      refine uAu rfl ?_ (⟨⟨_,rfl,?_⟩,⟨⟨_,rfl,?_⟩,trivial⟩⟩)
      all_goals (
       have hno:=h1 (by
        simp only [Bool.or_eq_true,decide_eq_true_eq,decide_eq_false_iff_not,beq_iff_eq,bne_iff_ne,ne_eq,beq_eq_false_iff_ne,T.rows_len] at hc hc2 hc3
        rintro (⟨q1,q2,q3,q4⟩ | ⟨q1,q2⟩) <;> omega)
       first|exact uBc hno.1.symm|(rw[hno.2]; done)|(rw[hno.2]; rfl))
     ·refine uAp ?_
      refine ⟨.inl ?_,?_⟩
      ·simp only [Bool.or_eq_false_iff,decide_eq_false_iff_not,beq_iff_eq,T.rows_len] at hc2 hc3
       omega
      ·refine uAj ⟨⟨_,rfl,rfl⟩,⟨_,rfl,rfl⟩,⟨_,rfl,rfl⟩,⟨_,rfl,rfl⟩,trivial⟩ ⟨⟨_,rfl,rfl⟩,⟨_,rfl,rfl⟩,⟨_,rfl,rfl⟩,trivial⟩ trivial
    ·refine uAd (uAb ?_)
     refine uAa rfl rfl rfl (uAm rfl rfl gU gU rfl) ?_;refine uAa rfl rfl rfl (uAe rfl gU) ?_;refine uAf ?_;refine uAo rfl (fun hc3=>?_) (fun hc3=>?_)
     ·refine uAd (uAb ?_)
      refine uAa rfl rfl rfl (uAg rfl gU rfl rfl) ?_;refine uAa rfl rfl rfl (uAh rfl gU rfl rfl rfl rfl) ?_;refine uAa rfl rfl rfl (uAm rfl rfl gU gU rfl) ?_;refine uAf ?_;refine uAk (s:=⟨[(1,_,_),(2,_,_),(3,_,_),(4,_,_),(47,_,_)],[(.l 4,_),(.o 0,_),(.o 1,_)],[],[]⟩) (uAj (⟨sx rfl,sx rfl,sx rfl,sx rfl,sx rfl,trivial⟩) (⟨sx rfl,sx rfl,sx rfl,trivial⟩) trivial) ?_;refine uAo rfl (fun hc4=>?_) (fun hc4=>?_)
      ·refine uAd (uAb ?_)
       refine uAa rfl rfl rfl (uAe rfl gU) ?_;refine uAf ?_;refine uAq ?_
       repeat(first|refine tR ?_|refine bR ?_)
       refine uAu rfl ?_ (⟨⟨_,rfl,?_⟩,⟨⟨_,rfl,?_⟩,trivial⟩⟩)
       all_goals (
        have hno:=h1 (by
         simp only [Bool.or_eq_true,decide_eq_true_eq,decide_eq_false_iff_not,beq_iff_eq,bne_iff_ne,ne_eq,beq_eq_false_iff_ne,T.rows_len] at hc hc2 hc3 hc4
         rintro (⟨q1,q2,q3,q4⟩ | ⟨q1,q2⟩) <;> omega)
        first|exact uBc hno.1.symm|(rw[hno.2]; done)|(rw[hno.2]; rfl))
      ·refine uAp ?_
       refine ⟨.inr ?_,?_⟩
       ·simp only [bne_eq_false_iff_eq,beq_iff_eq] at hc3 hc4
        exact ⟨hc3,hc4⟩
       ·refine uAj ⟨⟨_,rfl,rfl⟩,⟨_,rfl,rfl⟩,⟨_,rfl,rfl⟩,⟨_,rfl,rfl⟩,trivial⟩ ⟨⟨_,rfl,rfl⟩,⟨_,rfl,rfl⟩,⟨_,rfl,rfl⟩,trivial⟩ trivial
     ·refine uAd (uAb ?_)
      refine uAa rfl rfl rfl (uAe rfl gU) ?_;refine uAf ?_;refine uAq ?_
      repeat(first|refine tR ?_|refine bR ?_)
      refine uAu rfl ?_ (⟨⟨_,rfl,?_⟩,⟨⟨_,rfl,?_⟩,trivial⟩⟩)
      all_goals (
       have hno:=h1 (by
        simp only [Bool.or_eq_true,decide_eq_true_eq,decide_eq_false_iff_not,beq_iff_eq,bne_iff_ne,ne_eq,beq_eq_false_iff_ne,T.rows_len] at hc hc2 hc3
        rintro (⟨q1,q2,q3,q4⟩ | ⟨q1,q2⟩) <;> omega)
       first|exact uBc hno.1.symm|(rw[hno.2]; done)|(rw[hno.2]; rfl))
  ·refine uAd ?_
   refine uAd (uAb ?_);refine uAa rfl rfl rfl (uAg rfl gU rfl rfl) ?_;refine uAa rfl rfl rfl (uAh rfl gU rfl rfl rfl rfl) ?_;refine uAx rfl rfl rfl rfl rfl rfl gU gU (uI7 _) rfl ?_;refine uAa rfl rfl rfl (uA1 rfl gU) ?_;refine uAf ?_;refine uAo rfl (fun hc=>?_) (fun hc=>?_)
   ·refine uAd (uAb ?_)
    refine uAa rfl rfl rfl (uAe rfl gU) ?_;refine uAf ?_;refine uAq ?_
    repeat(first|refine tR ?_|refine bR ?_)
    refine uAu rfl ?_ (⟨⟨_,rfl,?_⟩,⟨⟨_,rfl,?_⟩,trivial⟩⟩)
    all_goals (
     have hq : uB8 t=2:=by
      simp only [Bool.not_eq_true'] at hc
      rw[uB8,if_pos hj,if_neg (by rw[hc]; simp)]
     have hno:=hbad (by rw[hq]; omega)
     rw[hq] at hno
     first|exact uBc hno.1.symm|(rw[hno.2]; done)|(rw[hno.2]; rfl))
   ·simp only [Bool.not_eq_false'] at hc
    refine uAp ?_;refine uAd ?_;refine uAd (uAb ?_);refine uAa rfl rfl rfl (uAg rfl gU rfl rfl) ?_;refine uAa rfl rfl rfl (uAh rfl gU rfl rfl rfl rfl) ?_;refine uAI rfl rfl rfl rfl rfl gU rfl rfl ?_ (fun hh=>by simp at hh); intro hlen;refine uAa rfl rfl rfl (uAm rfl rfl gU gU rfl) ?_;refine uAf ?_;refine uAk (s:=⟨[(1,_,_),(2,_,_),(3,_,_),(4,_,_),(55,_,_)],[(.l 4,_),(.o 0,_),(.o 1,_)],[],[]⟩) (uAj (⟨sx rfl,sx rfl,sx rfl,sx rfl,sx rfl,trivial⟩) (⟨sx rfl,sx rfl,sx rfl,trivial⟩) trivial) ?_;refine uAo rfl (fun hc2=>?_) (fun hc2=>?_)
    ·refine uAd (uAb ?_)
     refine uAa rfl rfl rfl (uAe rfl gU) ?_;refine uAf ?_;refine uAq ?_
     repeat(first|refine tR ?_|refine bR ?_)
     refine uAu rfl ?_ (⟨⟨_,rfl,?_⟩,⟨⟨_,rfl,?_⟩,trivial⟩⟩)
     all_goals (
      have hq : uB8 t=3:=by
       simp only [T.rows_len,decide_eq_true_eq] at hc2
       rw[uB8,if_pos hj,if_pos hc,if_pos (by omega)]
      have hno:=hbad (by rw[hq]; omega)
      rw[hq] at hno
      first|exact uBc hno.1.symm|(rw[hno.2]; done)|(rw[hno.2]; rfl))
    ·have hz : uB8 t=0:=by
      simp only [T.rows_len,decide_eq_false_iff_not] at hc2
      rw[uB8,if_pos hj,if_pos hc,if_neg (by omega)]
     have hchk : t.chk lv n d=T.chks t.kids (lv + 1) (n + 1) (max d lv):=by rw[T.chk_eq,if_neg (by simpa using hz)]
     have hE : t.nodesE=T.nodesEs t.kids:=by rw[T.nodesE_eq,if_neg (by simpa using hz)]
     have hsE:=t.size_eq
     refine uAp ?_;refine uAd ?_;refine uAd (uAb ?_);refine uAa rfl rfl rfl (uAg rfl gU rfl rfl) ?_;refine uAa rfl rfl rfl (uAh rfl gU rfl rfl rfl rfl) ?_;refine uAI rfl rfl rfl rfl rfl gU rfl rfl ?_ (fun hh=>by simp at hh); intro hlen;refine uAa rfl rfl rfl (uAc rfl gU) ?_;refine uAf ?_;refine uAt ?_
     have hlk : t.kids.length≤9223372036854775807:=by rw[T.rows_len] at hlen; exact hlen
     refine uCv (uQy t lv n d) (fun k=>k≤t.kids.length∧(T.chks (t.kids.take k) (lv + 1) (n + 1) (max d lv)).e=0) (fun k=>t.kids.length - k) 0 ⟨Nat.zero_le _,by simp [T.chks]⟩ ?_ ?_
     ·refine uAj ⟨⟨_,rfl,rfl⟩,⟨_,rfl,rfl⟩,⟨_,rfl,rfl⟩,⟨_,rfl,rfl⟩,⟨_,rfl,by rw[T.rows_len]⟩,⟨_,rfl,rfl⟩,trivial⟩ ⟨⟨_,rfl,by simp [T.chks]⟩,⟨_,rfl,by simp [T.chks]⟩,trivial⟩ trivial
     ·rintro k ⟨hk,h0⟩
      have hr:=T.chks_n (t.kids.take k) (lv + 1) (n + 1) (max d lv)
      have hrE:=T.chks_e (t.kids.take k) (lv + 1) (n + 1) (max d lv)
      refine uAd (uAb ?_);refine uAa rfl rfl rfl (uAm rfl rfl gU gU rfl) ?_;refine uAf ?_;refine uAd ?_;refine uAo rfl (fun hc3=>?_) (fun hc3=>?_)
      ·have hlt : k < t.kids.length:=by simpa using hc3
       obtain ⟨x,hx⟩ : ∃ x,t.kids[k]? = some x:=⟨_,List.getElem?_eq_getElem hlt⟩
       have q1:=T.sizes_take _ _ _ hx
       have q2:=T.sizes_take_le t.kids (k + 1)
       have q4:=x.size_pos
       refine uAp ?_;refine uAd ?_;refine uAt ?_;refine uAd (uAb ?_);refine uAa rfl rfl rfl (uAr rfl rfl gU gU rfl rfl rfl (fun _=>T.rows_get hx)) ?_;refine uAa rfl rfl rfl (uAD rfl gU rfl rfl rfl rfl) ?_;refine uAs rfl (uAK rfl rfl rfl) ?_;refine uAs rfl (uAw rfl rfl rfl rfl rfl rfl rfl) ?_;refine uAf ?_;refine uAd (uAb ?_);refine uAa rfl rfl rfl (uAn rfl gU rfl rfl rfl rfl rfl) ?_;refine uAa rfl rfl rfl (uAc rfl gU) ?_;refine uAa rfl rfl rfl (uAz rfl rfl gU gU rfl (IntWalk.i64_in _ (by omega))) ?_;refine uAa rfl rfl rfl (uAc rfl gU) ?_;refine uAa rfl rfl rfl (uAc rfl gU) ?_;refine uHv [⟨.o 0,0,[.i .i64 (T.chks (t.kids.take k) (lv + 1) (n + 1) (max d lv)).n],[.i .i64 (x.chk (lv + 1) (T.chks (t.kids.take k) (lv + 1) (n + 1) (max d lv)).n (T.chks (t.kids.take k) (lv + 1) (n + 1) (max d lv)).d).n]⟩,⟨.o 1,0,[.i .i64 (T.chks (t.kids.take k) (lv + 1) (n + 1) (max d lv)).d],[.i .i64 (x.chk (lv + 1) (T.chks (t.kids.take k) (lv + 1) (n + 1) (max d lv)).n (T.chks (t.kids.take k) (lv + 1) (n + 1) (max d lv)).d).d]⟩] rfl rfl rfl rfl (by rfl) (by rfl) (by intro p hp; simp only [List.mem_cons,List.not_mem_nil,or_false] at hp; first|(subst hp; rfl)|(rcases hp with hp|hp <;> subst hp <;> rfl)) (by rfl) (ih x (lv + 1) (T.chks (t.kids.take k) (lv + 1) (n + 1) (max d lv)).n (T.chks (t.kids.take k) (lv + 1) (n + 1) (max d lv)).d (by omega) (by omega) (by omega) (by omega) (by omega) (by omega)) rfl rfl rfl ?_
       refine uAa rfl rfl rfl (uAe rfl gU) ?_;refine uAf ?_;refine uAk (s:=⟨[(1,_,_),(2,_,_),(3,_,_),(11,_,_),(57,_,_),(58,_,_),(59,_,_)],[(.o 0,_),(.o 1,_)],[],[]⟩) (uAj (⟨sx rfl,sx rfl,sx rfl,sx rfl,sx rfl,sx rfl,sx rfl,trivial⟩) (⟨sx rfl,sx rfl,trivial⟩) trivial) ?_;refine uAd (uAb ?_);refine uAa rfl rfl rfl (uAc rfl gU) ?_;refine uAa rfl rfl rfl (uAm rfl rfl gU gU rfl) ?_;refine uAf ?_;refine uAo rfl (fun hc4=>?_) (fun hc4=>?_)
       ·refine uAd (uAb ?_)
        refine uAa rfl rfl rfl (uAc rfl gU) ?_;refine uAa rfl rfl rfl (uAe rfl gU) ?_;refine uAf ?_;refine uAq ?_
        repeat(first|refine tR ?_|refine bR ?_)
        refine uAu rfl ?_ (⟨⟨_,rfl,?_⟩,⟨⟨_,rfl,?_⟩,trivial⟩⟩)
        ·have := T.chks_hit (lv := lv + 1) (n := n + 1) (d := max d lv) hx h0 (by simpa using hc4)
         refine uBc ?_
         rw[hE,← T.chks_e t.kids (lv + 1) (n + 1) (max d lv),this,T.chk_e]
        ·have := T.chks_hit (lv := lv + 1) (n := n + 1) (d := max d lv) hx h0 (by simpa using hc4)
         rw[hchk,this]; rfl
        ·have := T.chks_hit (lv := lv + 1) (n := n + 1) (d := max d lv) hx h0 (by simpa using hc4)
         rw[hchk,this]; rfl
       ·have hx0 : x.nodesE=0:=by simpa using hc4
        have hst:=T.chks_step (lv:=lv + 1) (n:=n + 1) (d:=max d lv) hx h0 hx0
        refine uAp ?_;refine uAb ?_;refine uAa rfl rfl rfl (uAz rfl rfl gU gU rfl (IntWalk.i64_in _ (by omega))) ?_;refine uAa rfl rfl rfl (uAc rfl gU) ?_;refine uAf ?_;refine ⟨k + 1,⟨by omega,by rw[hst,T.chk_e,hx0]⟩,by omega,?_⟩;refine uAj ⟨⟨_,rfl,rfl⟩,⟨_,rfl,rfl⟩,⟨_,rfl,rfl⟩,⟨_,rfl,rfl⟩,⟨_,rfl,rfl⟩,⟨_,rfl,rfl⟩,trivial⟩ ⟨⟨_,rfl,by rw[hst]; rfl⟩,⟨_,rfl,by rw[hst]; rfl⟩,trivial⟩ trivial
      ·have hk' : k=t.kids.length:=by simp at hc3; omega
       subst hk'
       rw[List.take_length] at h0
       refine uAL ?_
       repeat(first|refine uAE ?_|refine uAF ?_|refine uAB rfl ?_)
       refine uAd (uAb ?_);refine uAa rfl rfl rfl (uAe rfl gU) ?_;refine uAf ?_;refine uAq ?_
       repeat(first|refine tR ?_|refine bR ?_)
       refine uAu rfl ?_ (⟨⟨_,rfl,?_⟩,⟨⟨_,rfl,?_⟩,trivial⟩⟩)
       ·refine uBc ?_
        rw[hE,← T.chks_e t.kids (lv + 1) (n + 1) (max d lv),h0]
       ·rw[hchk,List.take_length]
       ·rw[hchk,List.take_length]
theorem uKj (t : T) (h : t.size≤900000) : Ctr sys 139 [xm t] [] (xi (uDj t)) none []:=by
 have q1:=T.chk_n t 1 0 0
 have q2:=T.chk_d t 1 0 0
 have q3:=t.depth_eq
 refine uAA Tryz.func139 rfl rfl rfl rfl rfl rfl ?_;refine uAd (uAb ?_);refine uAs rfl (uAH rfl rfl rfl rfl) ?_;refine uAa rfl rfl rfl (uAe rfl gU) ?_;refine uAf ?_;refine uAd (uAb ?_);refine uAs rfl (uAK rfl rfl rfl) ?_;refine uAs rfl (uAK rfl rfl rfl) ?_;refine uAs rfl (uAw rfl rfl rfl rfl rfl rfl rfl) ?_;refine uAs rfl (uAw rfl rfl rfl rfl rfl rfl rfl) ?_;refine uAf ?_;refine uAd ?_;refine uAd (uAb ?_);refine uAa rfl rfl rfl (uAn rfl gU rfl rfl rfl rfl rfl) ?_;refine uHv [⟨.l 3,0,[.i .i64 0],[.i .i64 (t.chk 1 0 0).n]⟩,⟨.l 4,0,[.i .i64 0],[.i .i64 (t.chk 1 0 0).d]⟩] rfl rfl rfl rfl (by rfl) (by rfl) (by intro p hp; simp only [List.mem_cons,List.not_mem_nil,or_false] at hp; first|(subst hp; rfl)|(rcases hp with hp|hp <;> subst hp <;> rfl)) (by rfl) (uLu _ t 1 0 0 (Nat.le_refl _) (by omega) (by omega) (by omega) (by omega) (by omega)) rfl rfl rfl ?_;refine uAa rfl rfl rfl (uAe rfl gU) ?_;refine uAf ?_;refine uAk (s:=⟨[(3,_,_),(4,_,_),(5,_,_)],[(.l 3,_),(.l 4,_)],[],[]⟩) (uAj (⟨sx rfl,sx rfl,sx rfl,trivial⟩) (⟨sx rfl,sx rfl,trivial⟩) trivial) ?_;refine uAd (uAb ?_);refine uAa rfl rfl rfl (uAc rfl gU) ?_;refine uAa rfl rfl rfl (uAm rfl rfl gU gU rfl) ?_;refine uAf ?_;refine uAo rfl (fun hc=>?_) (fun hc=>?_)
 ·refine uAd (uAb ?_)
  refine uAa rfl rfl rfl (uAc rfl gU) ?_;refine uAa rfl rfl rfl (uAe rfl gU) ?_;refine uAf ?_;refine uAq ?_
  repeat(first|refine tR ?_|refine bR ?_)
  refine uAu rfl ?_ trivial;refine uBc ?_
  rw[uDj,if_pos (by simpa using hc)]
 ·have hz : t.nodesE=0:=by simpa using hc
  have q4:=q1.2.2 hz
  have q5:=q2 hz
  refine uAp ?_;refine uAd ?_;refine uAd (uAb ?_);refine uAa rfl rfl rfl (uAh rfl gU rfl rfl rfl rfl) ?_;refine uAa rfl rfl rfl (uAm rfl rfl gU gU rfl) ?_;refine uAa rfl rfl rfl (uAc rfl gU) ?_;refine uAa rfl rfl rfl (uAh rfl gU rfl rfl rfl rfl) ?_;refine uAa rfl rfl rfl (uAm rfl rfl (fun hh=>hh) gU rfl) ?_;refine uAa rfl rfl rfl (uAO rfl rfl gU (fun _ hi=>gP rfl hi)) ?_;refine uAf ?_;refine uAk (s:=⟨[(16,_,_)],[],[],[]⟩) (uAj (⟨sx rfl,trivial⟩) trivial trivial) ?_;refine uAo rfl (fun hc2=>?_) (fun hc2=>?_)
  ·refine uAd (uAb ?_)
   refine uAa rfl rfl rfl (uAe rfl gU) ?_;refine uAf ?_;refine uAq ?_
   repeat(first|refine tR ?_|refine bR ?_)
   refine uAu rfl ?_ trivial;refine uBc ?_
   simp only [Bool.or_eq_true,decide_eq_true_eq] at hc2
   rw[uDj,if_neg (by simpa using hz),if_pos (by omega)]
  ·refine uAp ?_
   refine uAd (uAb ?_);refine uAa rfl rfl rfl (uAe rfl gU) ?_;refine uAf ?_;refine uAq ?_
   repeat(first|refine tR ?_|refine bR ?_)
   refine uAu rfl ?_ trivial;refine uBc ?_
   simp only [Bool.or_eq_false_iff,decide_eq_false_iff_not] at hc2
   rw[uDj,if_neg (by simpa using hz),if_neg (by omega)]
def errs {α : Type} (f : α→Int) : List α→Int
 | []=>0
 | x :: r=>if f x≠0 then f x else errs f r
theorem errs_zero {α : Type} {f : α→Int} : ∀ {l : List α},errs f l=0 ↔ ∀ x ∈ l,f x=0
 | []=>by simp [errs]
 | x :: r=>by
  rw[errs]
  split
  ·rename_i h; simp [h]
  ·rename_i h; rw[errs_zero (l:=r)]; simp at h ⊢; exact fun _=>h
theorem uFA {α : Type} {f g : α→Int} : ∀ {l : List α},(∀ x ∈ l,f x=g x)→errs f l=errs g l
 | [],_=>rfl
 | x :: r,h=>by rw[errs,errs,h x (by simp),uFA fun y hy=>h y (by simp [hy])]
abbrev NmB:=List UInt8→Bool
mutual
def rawE (nm : NmB) : T→Int
 | .mk k n s ks=>if k=1∨s≠0 then 10 else if nm n=false then 2 else uFd nm ks
def uFd (nm : NmB) : List T→Int
 | []=>0
 | t :: ts=>if rawE nm t≠0 then rawE nm t else uFd nm ts
end
theorem uMG (nm : NmB) (t : T) : rawE nm t=if t.kind=1∨t.sort≠0 then 10 else if nm t.name=false then 2 else uFd nm t.kids:=by cases t; rw[rawE]; rfl
theorem uFs (nm : NmB) : ∀ ts : List T,uFd nm ts=errs (rawE nm) ts
 | []=>by rw[uFd]; rfl
 | t :: ts=>by rw[uFd,uFs nm ts]; rfl
def uD9 (nm : NmB) (t : T) : Int:=if uDj t≠0 then uDj t else rawE nm t
def msgE (nm : NmB) (t : T) : Int:=if uD9 nm t≠0 then uD9 nm t else if 40 < t.size then 3 else 0
def uCh (nm : NmB) (g : Gl) : Int:=if g.kind < 1∨5 < g.kind then 10 else if nm g.role=false∨(uBs g.kind=true∧nm g.wth=false) then 2 else if uBs g.kind=false∧g.wth≠[] then 1
 else if (uBs g.kind=true∧(g.data.length < 1∨4 < g.data.length))∨(uBs g.kind=false∧g.data.length≠1) then 6 else errs (msgE nm) g.data
def frE (nm : NmB) (f : Fs) : Int:=if nm f.role=false∨nm f.name=false then 2 else if f.sort < 2∨4 < f.sort then 10 else 0
def cntE (n : Nar) : Int:=if n.roles.length < 2 then 8 else if 4 < n.roles.length∨12 < n.fresh.length∨8 < n.tags.length then 3 else if n.steps.length=0 then 8 else if 8 < n.steps.length∨8 < n.goals.length then 3 else 0
def uD6 (nm : NmB) (n : Nar) : Int:=if nm n.name=false then 2 else if cntE n≠0 then cntE n else if n.roles.all nm=false then 2 else if errs (frE nm) n.fresh≠0 then errs (frE nm) n.fresh else if n.tags.all nm=false then 2 else 0
def spE (nm : NmB) (s : Sp) : Int:=if nm s.frm=false∨nm s.dst=false then 2 else msgE nm s.msg
def narE (nm : NmB) (n : Nar) : Int:=if uD6 nm n≠0 then uD6 nm n else if errs (spE nm) n.steps≠0 then errs (spE nm) n.steps else errs (uCh nm) n.goals
def uFS (t : T) : Bool:=decide (t.kind=3) && decide (t.name=uGy) && decide (t.kids.length=2)
def untA : Nat→T→List T
 | 0,t=>[t]
 | n + 1,t=>if uFS t=true then t.kids.getD 0 default :: untA n (t.kids.getD 1 default) else [t]
def untE (t : T) : List T:=untA t.size t
def uDQ : Nat→T→List UInt8
 | 0,_=>[]
 | n + 1,t=>if t.kind=2 then t.name else if uFS t=true then [60]++Lib.join ((untE t).map (uDQ n)) [44,32]++[62] else t.name++[40]++Lib.join (t.kids.map (uDQ n)) [44,32]++[41]
def uDl (t : T) : List UInt8:=uDQ t.size t
def uEk (l : List T) : List UInt8:=Lib.join (l.map uDl) [44,32]
theorem uP5 {t : T} (h : uFS t=true) : ∃ a b,t.kids=[a,b]:=by
 simp only [uFS,Bool.and_eq_true,decide_eq_true_eq] at h
 obtain ⟨_,h⟩:=h
 match hk : t.kids,h with
 | [a,b],_=>exact ⟨a,b,rfl⟩
theorem uCX {t : T} (h : uFS t=true) : t.size=1 + (t.kids.getD 0 default).size + (t.kids.getD 1 default).size:=by
 obtain ⟨a,b,hk⟩:=uP5 h
 rw[T.size_eq,hk]
 simp [T.sizes]; omega
theorem uMx : ∀ (n : Nat) (t x : T),x ∈ untA n t→x.size≤t.size
 | 0,t,x,h=>by simp [untA] at h; subst h; omega
 | n + 1,t,x,h=>by
  rw[untA] at h
  split at h
  ·rename_i hp
   have hs:=uCX hp
   rcases List.mem_cons.1 h with q | q
   ·subst q; omega
   ·have := uMx n _ x q; omega
  ·simp at h; subst h; omega
theorem uIB : ∀ (n : Nat) (t : T),T.sizes (untA n t)≤t.size
 | 0,t=>by simp [untA,T.sizes]
 | n + 1,t=>by
  rw[untA]
  split
  ·rename_i hp
   have hs:=uCX hp
   have := uIB n (t.kids.getD 1 default)
   rw[T.sizes]; omega
  ·simp [T.sizes]
theorem uMf : ∀ (n : Nat) (t : T),1≤(untA n t).length∧(untA n t).length≤t.size
 | 0,t=>by have := t.size_pos; simp [untA]; omega
 | n + 1,t=>by
  rw[untA]
  split
  ·rename_i hp
   have hs:=uCX hp
   have := uMf n (t.kids.getD 1 default)
   have := (t.kids.getD 0 default).size_pos
   rw[List.length_cons]; omega
  ·have := t.size_pos; simp; omega
theorem uJ8 : ∀ (n m : Nat) (t : T),t.size≤n→t.size≤m→untA n t=untA m t
 | 0,_,t,h,_=>by have := t.size_pos; omega
 | _,0,t,_,h=>by have := t.size_pos; omega
 | n + 1,m + 1,t,hn,hm=>by
  rw[untA,untA]
  split
  ·rename_i hp
   have hs:=uCX hp
   have := (t.kids.getD 0 default).size_pos
   rw[uJ8 n m _ (by omega) (by omega)]
  ·rfl
theorem uMb (t : T) : untE t=if uFS t=true then t.kids.getD 0 default :: untE (t.kids.getD 1 default) else [t]:=by
 obtain ⟨m,hm⟩ : ∃ m,t.size=m + 1 := ⟨t.size - 1,by have := t.size_pos; omega⟩
 unfold untE
 rw[hm,untA]
 split
 ·rename_i hp
  have hs:=uCX hp
  rw[uJ8 m _ _ (by omega) (Nat.le_refl _)]
 ·rfl
theorem uLL {t x : T} (hp : uFS t=true) (hx : x ∈ untE t) : x.size < t.size:=by
 have hs:=uCX hp
 have h0:=(t.kids.getD 0 default).size_pos
 rw[uMb,if_pos hp] at hx
 rcases List.mem_cons.1 hx with q | q
 ·subst q; have := (t.kids.getD 1 default).size_pos; omega
 ·have := uMx _ _ _ q; omega
theorem uI2 {t : T} (hp : uFS t=true) : T.sizes (untE t) < t.size:=by
 have hs:=uCX hp
 rw[uMb,if_pos hp,T.sizes]
 have := uIB (t.kids.getD 1 default).size (t.kids.getD 1 default)
 unfold untE; omega
theorem uKc {x : T} : ∀ {l : List T},x ∈ l→x.size≤T.sizes l
 | [],h=>by simp at h
 | y :: l,h=>by
  rw[T.sizes]
  rcases List.mem_cons.1 h with q | q
  ·subst q; omega
  ·have := uKc q; omega
theorem uB3 {t x : T} (h : x ∈ t.kids) : x.size < t.size:=by
 have := uKc h; have := t.size_eq; omega
theorem uEr : ∀ (n m : Nat) (t : T),t.size≤n→t.size≤m→uDQ n t=uDQ m t
 | 0,_,t,h,_=>by have := t.size_pos; omega
 | _,0,t,_,h=>by have := t.size_pos; omega
 | n + 1,m + 1,t,hn,hm=>by
  rw[uDQ,uDQ]
  split
  ·rfl
  split
  ·rename_i hp
   have e : (untE t).map (uDQ n)=(untE t).map (uDQ m):=List.map_congr_left fun x hx=>by
    have := uLL hp hx
    exact uEr n m x (by omega) (by omega)
   rw[e]
  ·have e : t.kids.map (uDQ n)=t.kids.map (uDQ m):=List.map_congr_left fun x hx=>by
    have := uB3 hx
    exact uEr n m x (by omega) (by omega)
   rw[e]
theorem uN0 (t : T) : uDl t=if t.kind=2 then t.name else if uFS t=true then [60]++uEk (untE t)++[62] else t.name++[40]++uEk t.kids++[41]:=by
 obtain ⟨m,hm⟩ : ∃ m,t.size=m + 1 := ⟨t.size - 1,by have := t.size_pos; omega⟩
 unfold uEk
 conv=>lhs; unfold uDl
 rw[hm,uDQ]
 split
 ·rfl
 split
 ·rename_i hp
  have e : (untE t).map (uDQ m)=(untE t).map uDl:=List.map_congr_left fun x hx=>by
   have := uLL hp hx
   exact uEr m x.size x (by omega) (by omega)
  rw[e]
 ·have e : t.kids.map (uDQ m)=t.kids.map uDl:=List.map_congr_left fun x hx=>by
   have := uB3 hx
   exact uEr m x.size x (by omega) (by omega)
  rw[e]
mutual
def okB : T→Bool
 | .mk k n _ ks=>(decide (k=2) || decide (k=3)) && decide (n.length≤24) && okBs ks
def okBs : List T→Bool
 | []=>true
 | t :: ts=>okB t && okBs ts
end
theorem uOO (t : T) : okB t=((decide (t.kind=2) || decide (t.kind=3)) && decide (t.name.length≤24) && okBs t.kids):=by cases t; rw[okB]; rfl
theorem uKW : ∀ {l : List T},okBs l=true → ∀ x ∈ l,okB x=true
 | [],_,x,h=>by simp at h
 | y :: l,h,x,hx=>by
  rw[okBs,Bool.and_eq_true] at h
  rcases List.mem_cons.1 hx with q | q
  ·subst q; exact h.1
  ·exact uKW h.2 x q
theorem uMp {t : T} (h : okB t=true) : ∀ x ∈ t.kids,okB x=true:=by
 rw[uOO,Bool.and_eq_true] at h
 exact uKW h.2
theorem uOf {t : T} (h : okB t=true) : (t.kind=2∨t.kind=3)∧t.name.length≤24:=by
 rw[uOO] at h
 simp only [Bool.and_eq_true,Bool.or_eq_true,decide_eq_true_eq] at h
 exact h.1
theorem uMe : ∀ (n : Nat) {t : T},okB t=true → ∀ x ∈ untA n t,okB x=true
 | 0,t,h,x,hx=>by simp [untA] at hx; subst hx; exact h
 | n + 1,t,h,x,hx=>by
  rw[untA] at hx
  split at hx
  ·rename_i hp
   obtain ⟨a,b,hk⟩:=uP5 hp
   have hkk:=uMp h
   rw[hk] at hx hkk
   rcases List.mem_cons.1 hx with q | q
   ·subst q; exact hkk _ (by simp)
   ·exact uMe n (hkk b (by simp)) x q
  ·simp at hx; subst hx; exact h
theorem uPR {t : T} (h : uB8 t=0) : (t.kind=1∨t.kind=2∨t.kind=3)∧t.name.length≤24:=by
 unfold uB8 at h
 split at h
 ·split at h
  ·rename_i hq hn
   simp only [uCO,Bool.and_eq_true,decide_eq_true_eq] at hn
   exact ⟨by omega,hn.1.1.2⟩
  ·simp at h
 ·simp at h
mutual
theorem uP3 (nm : NmB) : ∀ (t : T),t.nodesE=0→rawE nm t=0→okB t=true
 | .mk k n s ks,h1,h2=>by
  rw[T.nodesE] at h1
  rw[rawE] at h2
  rw[okB]
  split at h1
  ·rename_i hz; exact absurd h1 hz
  ·rename_i hz
   have hz:=Decidable.not_not.1 hz
   split at h2
   ·simp at h2
   ·rename_i hk
    split at h2
    ·simp at h2
    ·rw[uO7 nm ks h1 h2]
     have hq:=uPR hz
     have q1 : k=1∨k=2∨k=3:=hq.1
     have q2 : n.length≤24:=hq.2
     simp only [Bool.and_true,Bool.and_eq_true,Bool.or_eq_true,decide_eq_true_eq]
     exact ⟨by omega,q2⟩
theorem uO7 (nm : NmB) : ∀ (ts : List T),T.nodesEs ts=0→uFd nm ts=0→okBs ts=true
 | [],_,_=>rfl
 | t :: ts,h1,h2=>by
  rw[T.nodesEs] at h1
  rw[uFd] at h2
  rw[okBs]
  split at h1
  ·rename_i hz; exact absurd h1 hz
  ·rename_i hz
   split at h2
   ·rename_i hy; exact absurd h2 hy
   ·rename_i hy
    rw[uP3 nm t (Decidable.not_not.1 hz) (Decidable.not_not.1 hy),uO7 nm ts h1 h2]; rfl
end
theorem uQl {nm : NmB} {t : T} (h : uD9 nm t=0) : okB t=true∧t.size≤400:=by
 unfold uD9 at h
 split at h
 ·rename_i hz; exact absurd h hz
 ·rename_i hz
  have hz:=Decidable.not_not.1 hz
  unfold uDj at hz
  split at hz
  ·rename_i hy; exact absurd hz hy
  ·rename_i hy
   split at hz
   ·simp at hz
   ·exact ⟨uP3 nm t (Decidable.not_not.1 hy) h,by omega⟩
def uEB (L : List (List UInt8)) : Nat:=(L.map fun x=>x.length + 2).sum
theorem uIE : ∀ (L : List (List UInt8)),(Lib.joinTail [44,32] L).length=uEB L
 | []=>rfl
 | x :: L=>by
  have e : Lib.joinTail [44,32] (x :: L)=[44,32]++(x++Lib.joinTail [44,32] L):=by simp [Lib.joinTail]
  rw[e]
  have := uIE L
  simp only [List.length_append,List.length_cons,List.length_nil,uEB,List.map_cons,List.sum_cons] at this ⊢
  omega
theorem uEY : ∀ (L : List (List UInt8)),(Lib.join L [44,32]).length≤uEB L∧(L≠[]→(Lib.join L [44,32]).length + 2=uEB L)
 | []=>by simp [Lib.join_nil]
 | x :: L=>by
  have := uIE L
  rw[Lib.join_cons,List.length_append]
  simp only [uEB,List.map_cons,List.sum_cons] at this ⊢
  exact ⟨by omega,fun _=>by omega⟩
theorem uDM : ∀ (l : List T),(∀ x ∈ l,(uDl x).length + 2≤28 * x.size)→uEB (l.map uDl)≤28 * T.sizes l
 | [],_=>by simp [uEB,T.sizes]
 | x :: l,h=>by
  have h1:=h x (by simp)
  have h2:=uDM l fun y hy=>h y (by simp [hy])
  simp only [uEB,List.map_cons,List.sum_cons,T.sizes] at h2 ⊢
  omega
theorem text_len : ∀ (n : Nat) (t : T),t.size≤n→okB t=true→(uDl t).length + 2≤28 * t.size
 | 0,t,h,_=>by have := t.size_pos; omega
 | n + 1,t,h,ho=>by
  have hp:=t.size_pos
  have hn:=(uOf ho).2
  rw[uN0]
  split
  ·omega
  split
  ·rename_i hq
   have h1 := uDM (untE t) fun x hx=>text_len n x (by have := uLL hq hx; omega) (uMe _ ho x hx)
   have h2:=uI2 hq
   have h3 := (uEY ((untE t).map uDl)).2 (by have := (uMf t.size t).1; intro q; rw[← List.length_map (f := uDl)] at this; show False; unfold untE at q; rw[q] at this; simp at this)
   unfold uEk
   simp only [List.length_append,List.length_cons,List.length_nil]
   omega
  ·have h1 := uDM t.kids fun x hx=>text_len n x (by have := uB3 hx; omega) (uMp ho x hx)
   have h2:=t.size_eq
   have h3:=uEY (t.kids.map uDl)
   unfold uEk
   simp only [List.length_append,List.length_cons,List.length_nil]
   by_cases hk : t.kids.map uDl=[]
   ·rw[hk,Lib.join_nil]; simp; omega
   ·have := h3.2 hk; omega
theorem uL4 {t : T} (h : okB t=true) : (uDl t).length + 2≤28 * t.size:=text_len t.size t (Nat.le_refl _) h
theorem uOr {l : List T} (h : ∀ x ∈ l,okB x=true) : (uEk l).length≤28 * T.sizes l:=by
 have h1:=uDM l fun x hx=>uL4 (h x hx)
 have h2:=(uEY (l.map uDl)).1
 unfold uEk; omega
def hFresh : List UInt8:=[32,32,102,114,101,115,104,32]
def hProt : List UInt8:=[112,114,111,116,111,99,111,108,32]
def hRole : List UInt8:=[32,32,114,111,108,101,32]
def hTag : List UInt8:=[32,32,116,97,103,32]
def hMsg : List UInt8:=[32,32,109,101,115,115,97,103,101,32]
def hGoal : List UInt8:=[32,32,103,111,97,108,32]
def arrow : List UInt8:=[32,45,62,32]
def wSk : List UInt8:=[115,107]
def wPk : List UInt8:=[112,107]
def wEnc : List UInt8:=[101,110,99]
def uHq : List UInt8:=[97,101,110,99]
def uG0 : List UInt8:=[115,105,103,110]
def uJP : List UInt8:=[104,97,115,104]
def wShk : List UInt8:=[115,104,107]
def nmsL (n : Nar) : List (List UInt8 × Int):=n.roles.map (fun r=>(r,1))++(n.fresh.map (fun f=>(f.name,f.sort))++n.tags.map fun g=>(g,5))
def uBa (n : Nar) : List (List UInt8):=(nmsL n).map (·.1)
def kid (t : T) (k : Nat) : T:=t.kids.getD k default
def isT (t : T) (w : List UInt8) (k : Int) : Bool:=decide (t.kind=3) && decide (t.name=w) && decide ((t.kids.length : Int)=k)
def uEJ (R : List (List UInt8)) (t : T) : Bool:=decide (t.kind=2) && R.contains t.name
def uEa (R : List (List UInt8)) (t : T) : Bool:=isT t wSk 1 && uEJ R (kid t 0)
def pubT (R : List (List UInt8)) (t : T) : Bool:=isT t wPk 1 && uEa R (kid t 0)
def shkT (R : List (List UInt8)) (t : T) : Bool:=isT t wShk 2 && uEJ R (kid t 0) && uEJ R (kid t 1) && !((kid t 0).name == (kid t 1).name)
def uBv (R : List (List UInt8)) (t : T) : Option Nat :=
 if isT t uGy 2=true∨isT t wEnc 2=true then some 2 else if isT t uJP 1=true then some 1
 else if (isT t uHq 2=true∧pubT R (kid t 1)=true)∨(isT t uG0 2=true∧uEa R (kid t 1)=true) then some 1
 else if pubT R t=true∨shkT R t=true then some 0 else none
def uHa (R K : List (List UInt8)) : Nat→T→Int
 | 0,_=>0
 | n + 1,t=>if t.kind≠3 then (if K.contains t.name=true then 0 else 13) else
  match uBv R t with
  | none=>10
  | some k=>errs (uHa R K n) (t.kids.take k)
def uCj (R K : List (List UInt8)) (t : T) : Int:=uHa R K t.size t
theorem uKN {α : Type} {l : List α} {k : Nat} {x : α} (h : x ∈ l.take k) : x ∈ l:=List.mem_of_mem_take h
theorem uG5 (R K : List (List UInt8)) : ∀ (n m : Nat) (t : T),t.size≤n→t.size≤m→uHa R K n t=uHa R K m t
 | 0,_,t,h,_=>by have := t.size_pos; omega
 | _,0,t,_,h=>by have := t.size_pos; omega
 | n + 1,m + 1,t,hn,hm=>by
  rw[uHa,uHa]
  split
  ·rfl
  ·split
   ·rfl
   ·rename_i k _
    exact uFA fun x hx=>by
     have := uB3 (uKN hx)
     exact uG5 R K n m x (by omega) (by omega)
theorem uCS (R K : List (List UInt8)) (t : T) : uCj R K t=if t.kind≠3 then (if K.contains t.name=true then 0 else 13) else match uBv R t with
  | none=>10
  | some k=>errs (uCj R K) (t.kids.take k):=by
 obtain ⟨m,hm⟩ : ∃ m,t.size=m + 1 := ⟨t.size - 1,by have := t.size_pos; omega⟩
 conv=>lhs; unfold uCj
 rw[hm,uHa]
 split
 ·rfl
 ·split
  ·rfl
  ·exact uFA fun x hx=>by
    have := uB3 (uKN hx)
    exact uG5 R K m x.size x (by omega) (by omega)
def dclL (n : Nar) : List (List UInt8 × Option (List UInt8)):=n.roles.map (fun r=>(r,none))++(n.fresh.map (fun f=>(f.name,some f.role))++n.tags.map fun g=>(g,none))
def dclE (R seen : List (List UInt8)) (x : List UInt8 × Option (List UInt8)) : Int :=
 if x.1.contains 35=true then 2 else if x.2.isSome=true∧(x.1=[101]∨x.1=[103]) then 1 else if seen.contains x.1=true then 5 else match x.2 with
  | some r=>if R.contains r=true then 0 else 13
  | none=>0
def decA (R : List (List UInt8)) : List (List UInt8)→List (List UInt8 × Option (List UInt8))→Int
 | _,[]=>0
 | seen,x :: r=>if dclE R seen x≠0 then dclE R seen x else decA R (seen++[x.1]) r
def decE (n : Nar) : Int:=decA n.roles [] (dclL n)
def twoE (R : List (List UInt8)) (a b : List UInt8) : Int:=if R.contains a=false∨R.contains b=false then 13 else if a=b then 1 else 0
def uDc (n : Nar) (s : Sp) : Int:=if twoE n.roles s.frm s.dst≠0 then twoE n.roles s.frm s.dst else uCj n.roles (uBa n) s.msg
def uCy (n : Nar) (g : Gl) : Int:=if n.roles.contains g.role=false then 13 else if uBs g.kind=true∧twoE n.roles g.role g.wth≠0 then twoE n.roles g.role g.wth else errs (uCj n.roles (uBa n)) g.data
def lnE {α : Type} (f ln : α→Int) : List α→Int × Int
 | []=>(0,0)
 | x :: r=>if f x≠0 then (ln x,f x) else lnE f ln r
def useE (n : Nar) : Int × Int:=if (lnE (uDc n) Sp.line n.steps).2≠0 then lnE (uDc n) Sp.line n.steps else lnE (uCy n) Gl.line n.goals
def chkE (nm : NmB) (n : Nar) : Int × Int:=if narE nm n≠0 then (0,narE nm n) else if decE n≠0 then (0,decE n) else useE n
theorem lnE_zero {α : Type} {f ln : α→Int} : ∀ {l : List α},(lnE f ln l).2=0 ↔ ∀ x ∈ l,f x=0
 | []=>by simp [lnE]
 | x :: r=>by
  rw[lnE]
  split
  ·rename_i h; simp [h]
  ·rename_i h; rw[lnE_zero (l:=r)]; simp at h ⊢; exact fun _=>h
theorem uLW {α : Type} {f ln : α→Int} : ∀ {l : List α},(lnE f ln l).2=0→lnE f ln l=(0,0)
 | [],_=>rfl
 | x :: r,h=>by
  rw[lnE] at h ⊢
  split at h
  ·rename_i q; exact absurd h q
  ·rename_i q; rw[if_neg q]; exact uLW h
theorem uGP {α : Type} {f ln : α→Int} {d : α} {l : List α} {k : Nat} (hk : k < l.length) (h : ∀ j,j < k→f (l.getD j d)=0) (hx : f (l.getD k d)≠0) : lnE f ln l=(ln (l.getD k d),f (l.getD k d)):=by
 induction l generalizing k with
 | nil=>simp at hk
 | cons x r ih =>
  cases k with
  | zero=>rw[lnE,if_pos (by simpa using hx)]; rfl
  | succ k =>
   have h0:=h 0 (by omega)
   rw[lnE,if_neg (by simpa using h0),ih (k:=k) (by simpa using hk) (fun j hj=>by simpa using h (j + 1) (by omega)) (by simpa using hx)]
   rfl
theorem uFD {α : Type} {f ln : α→Int} {d : α} {l : List α} (h : ∀ j,j < l.length→f (l.getD j d)=0) : lnE f ln l=(0,0):=by
 refine uLW (lnE_zero.2 fun x hx=>?_)
 obtain ⟨j,hj,rfl⟩:=List.mem_iff_getElem.1 hx
 have := h j hj
 rwa [List.getD_eq_getElem?_getD,List.getElem?_eq_getElem hj] at this
def iv (k : Int) : Value:=.int .i64 k
def mapL (l : List (List UInt8 × Int)) : List (List UInt8 × Value):=l.foldl (fun es x=>mput es x.1 (iv x.2)) []
theorem uJW (k : List UInt8) (v : Value) (j : List UInt8) : ∀ es : List (List UInt8 × Value),mget (mput es k v) j=if k=j then some v else mget es j
 | []=>by simp [mput,mget]
 | (a,u) :: r=>by
  rw[mput]
  split
  ·rename_i h; subst h
   rw[mget,mget]
   split <;> rfl
  ·rename_i h
   rw[mget,mget,uJW k v j r]
   by_cases h1 : a=j
   ·subst h1
    rw[if_pos rfl,if_pos rfl,if_neg (fun q=>h q.symm)]
   ·rw[if_neg h1,if_neg h1]
theorem uEZ (l : List (List UInt8 × Int)) (x : List UInt8 × Int) : mapL (l++[x])=mput (mapL l) x.1 (iv x.2):=by simp [mapL]
theorem uN7 {α : Type} {P : List α→Prop} (h0 : P []) (h1 : ∀ l x,P l→P (l++[x])) (l : List α) : P l:=by
 suffices h : ∀ m : List α,P m.reverse by simpa using h l.reverse
 intro m
 induction m with
 | nil=>exact h0
 | cons x m ih=>rw[List.reverse_cons]; exact h1 _ _ ih
theorem uJE (l : List (List UInt8 × Int)) (k : List UInt8) : mget (mapL l) k=((l.reverse.find? fun x=>decide (x.1=k)).map fun x=>iv x.2):=by
 refine uN7 (P:=fun l=>mget (mapL l) k=((l.reverse.find? fun x=>decide (x.1=k)).map fun x=>iv x.2)) rfl (fun l x ih=>?_) l
 rw[uEZ,uJW,ih,List.reverse_append]
 simp only [List.reverse_cons,List.reverse_nil,List.nil_append,List.singleton_append,List.find?_cons]
 by_cases h : x.1=k
 ·simp [h]
 ·simp [h]
theorem uE2 (l : List (List UInt8 × Int)) (k : List UInt8) : (mget (mapL l) k).isSome=(l.map (·.1)).contains k:=by
 rw[uJE,Option.isSome_map,Bool.eq_iff_iff]
 simp only [List.find?_isSome,List.mem_reverse,decide_eq_true_eq,List.contains_iff_mem,List.mem_map]
theorem T.len_sizes : ∀ l : List T,l.length≤T.sizes l
 | []=>by simp [T.sizes]
 | t :: l=>by have h1:=T.len_sizes l; have h2:=t.size_pos; simp only [T.sizes,List.length_cons]; omega
theorem uKD (ts : List T) (k : Nat) (x : T) (h : ts[k]? = some x) : x.size≤T.sizes ts:=by
 have h1:=T.sizes_take ts k x h
 have h2:=T.sizes_take_le ts (k + 1)
 omega
theorem uLD : ∀ (n : Nat) (t : T),t.size≤n→n≤2000000→Ctr sys 113 [xm t] [] (xi t.size) none []:=by
 intro n
 induction n with
 | zero=>intro t h; have := t.size_pos; omega
 | succ n ih =>
  intro t ht hn
  have hse:=t.size_eq
  have hrl:=T.rows_len t.kids
  have hls:=T.len_sizes t.kids
  refine uAA Tryz.func113 rfl rfl rfl rfl rfl rfl ?_;refine uAd (uAb ?_);refine uAs rfl (uAH rfl rfl rfl rfl) ?_;refine uAa rfl rfl rfl (uAe rfl gU) ?_;refine uAf ?_;refine uAd (uAb ?_);refine uAa rfl rfl rfl (uAe rfl gU) ?_;refine uAf ?_;refine uAd ?_;refine uAd (uAb ?_);refine uAa rfl rfl rfl (uAg rfl gU rfl rfl) ?_;refine uAa rfl rfl rfl (uAh rfl gU rfl rfl rfl rfl) ?_;refine uAI rfl rfl rfl rfl rfl gU rfl rfl ?_ (fun hh=>by simp at hh); intro hlen;refine uAa rfl rfl rfl (uAc rfl gU) ?_;refine uAf ?_;refine uAk (s:=⟨[(3,_,_),(7,_,_),(8,_,_),(9,_,_)],[],[],[]⟩) (uAj (⟨sx rfl,sx rfl,sx rfl,sx rfl,trivial⟩) trivial trivial) ?_;refine uAt ?_;refine uAW (ι:=Nat) { t:=[(7,_,_),(8,_,_)],bx:=[],ow:=[] } (fun k=>[(9,true,xi (k : Int)),(3,true,xi (1 + T.sizes (t.kids.take k) : Nat))]) (fun k=>[]) (fun k=>k≤t.kids.length) (fun k=>t.kids.length - k) (0) (by simp) (uAj (⟨sx rfl,sx rfl,sx rfl,sx rfl,trivial⟩) trivial trivial) ?_
  intro k hok
  dsimp only [List.cons_append,List.nil_append]
  refine uAd (uAb ?_);refine uAa rfl rfl rfl (uAm rfl rfl gU gU rfl) ?_;refine uAf ?_;refine uAd ?_;refine uAo rfl (fun hc=>?_) (fun hc=>?_)
  ·try simp only [nn,T.rows_len,uAi] at hc
   have hlt : k < t.kids.length:=by omega
   have h1:=T.sizes_take _ _ _ (T.getD_some hlt)
   have h2:=T.getD_size hlt
   refine uAp ?_;refine uAd ?_;refine uAt ?_;refine uAd (uAb ?_);refine uAa rfl rfl rfl (uAr rfl rfl gU gU rfl rfl rfl (fun hh=>T.rows_at (by first|omega|(simp at hh; omega)))) ?_;refine uAa rfl rfl rfl (uAD rfl gU rfl rfl rfl rfl) ?_;refine uAs rfl (uAK rfl rfl rfl) ?_;refine uAs rfl (uAw rfl rfl rfl rfl rfl rfl rfl) ?_;refine uAf ?_;refine uAb ?_;refine uAa rfl rfl rfl (uAc rfl gU) ?_;refine uAa rfl rfl rfl (uAn rfl gU rfl rfl rfl rfl rfl) ?_;refine uAx rfl rfl rfl rfl rfl rfl gU gU (ih (t.kids.getD k default) (by omega) (by omega)) rfl ?_;refine uAa rfl rfl rfl (uAz rfl rfl gU gU rfl (IntWalk.i64_in _ (by omega))) ?_;refine uAa rfl rfl rfl (uAe rfl gU) ?_;refine uAf ?_;refine uAk (s:=⟨[(3,_,_),(7,_,_),(8,_,_),(9,_,_)],[],[],[]⟩) (uAj (⟨sx rfl,sx rfl,sx rfl,sx rfl,trivial⟩) trivial trivial) ?_;refine uAb ?_;refine uAa rfl rfl rfl (uAz rfl rfl gU gU rfl (IntWalk.i64_in _ (by omega))) ?_;refine uAa rfl rfl rfl (uAc rfl gU) ?_;refine uAf ?_;refine ⟨k + 1,?_,?_,uAj (⟨⟨_,rfl,?_⟩,⟨⟨_,rfl,?_⟩,⟨sx rfl,sx rfl,trivial⟩⟩⟩) trivial trivial⟩
   all_goals first|rfl|omega|exact tx (uBc (by rw[h1]; push_cast; omega))
  ·try simp only [nn,T.rows_len,uAi] at hc
   have : k=t.kids.length:=by omega
   subst this
   rw[List.take_length]
   refine uAL ?_
   repeat(first|refine uAE ?_|refine uAF ?_|refine uAB rfl ?_)
   refine uAd (uAb ?_);refine uAa rfl rfl rfl (uAc rfl gU) ?_;refine uAa rfl rfl rfl (uAe rfl gU) ?_;refine uAf ?_;refine uAq ?_
   repeat(first|refine tR ?_|refine bR ?_)
   refine uAu rfl ?_ trivial;exact uBc (by omega)
end Go.Proofs.YteidahabkfgfjaaGreat
namespace Go.Proofs.YteidahabkfgfjaaGreat
open Go Go.Proofs Go.Shelf
def uLn : Go.Shelf.Ren:=⟨fun | 99=>157 | 206=>167 | n=>n,fun | 9=>9 | 4=>4 | 3=>3 | n=>n,fun | n=>n⟩
theorem uQs : Go.Proofs.Lays.n99 Tryz.prog uLn:={
 mixed:=by kernel_rfl
 f99:=Tryz.func157.trans (congrArg some (by kernel_rfl))
 f206:=Tryz.func167.trans (congrArg some (by kernel_rfl))
 t3:=Tryz.underlying3
 a3:=Tryz.isAgg3
 z3:=Tryz.sizeOf3
 v3:=Tryz.zeroValue3
 t4:=Tryz.underlying4
 a4:=Tryz.isAgg4
 z4:=Tryz.sizeOf4
 v4:=Tryz.zeroValue4
 t9:=Tryz.underlying9
 a9:=Tryz.isAgg9
 z9:=Tryz.sizeOf9
 v9:=Tryz.zeroValue9 }
def uJF : Go.Shelf.Ren:=⟨fun | 144=>76 | 143=>115 | 219=>141 | 217=>159 | 225=>160 | 224=>161 | 267=>162 | 266=>169 | 314=>170 | n=>n,fun | 9=>9 | 4=>4 | 3=>3 | 5=>5 | 46=>162 | 146=>169 | 51=>168 | n=>n,fun | 1=>0 | n=>n⟩
theorem uPJ : Go.Proofs.Lays.n144 Tryz.prog uJF:={
 mixed:=by kernel_rfl
 f143:=Tryz.func115.trans (congrArg some (by kernel_rfl))
 f144:=Tryz.func76.trans (congrArg some (by kernel_rfl))
 f217:=Tryz.func159.trans (congrArg some (by kernel_rfl))
 f219:=Tryz.func141.trans (congrArg some (by kernel_rfl))
 f224:=Tryz.func161.trans (congrArg some (by kernel_rfl))
 f225:=Tryz.func160.trans (congrArg some (by kernel_rfl))
 f266:=Tryz.func169.trans (congrArg some (by kernel_rfl))
 f267:=Tryz.func162.trans (congrArg some (by kernel_rfl))
 f314:=Tryz.func170.trans (congrArg some (by kernel_rfl))
 t3:=Tryz.underlying3
 a3:=Tryz.isAgg3
 z3:=Tryz.sizeOf3
 v3:=Tryz.zeroValue3
 t4:=Tryz.underlying4
 a4:=Tryz.isAgg4
 z4:=Tryz.sizeOf4
 v4:=Tryz.zeroValue4
 t5:=Tryz.underlying5
 a5:=Tryz.isAgg5
 z5:=Tryz.sizeOf5
 v5:=Tryz.zeroValue5
 t9:=Tryz.underlying9
 a9:=Tryz.isAgg9
 z9:=Tryz.sizeOf9
 v9:=Tryz.zeroValue9
 t46:=Tryz.underlying162
 a46:=Tryz.isAgg162
 z46:=Tryz.sizeOf162
 v46:=Tryz.zeroValue162
 t51:=Tryz.underlying168
 a51:=Tryz.isAgg168
 z51:=Tryz.sizeOf168
 v51:=Tryz.zeroValue168
 t146:=Tryz.underlying169
 a146:=Tryz.isAgg169
 z146:=Tryz.sizeOf169
 v146:=Tryz.zeroValue169
 g1:=by kernel_rfl }
end Go.Proofs.YteidahabkfgfjaaGreat
namespace Go.Proofs.YteidahabkfgfjaaGreat
open Go Go.Abs
open Go.RowKit (Below)
theorem uHi (s p : List UInt8) : Ctr sys 157 [xs s,xs p] [] (xb (p.isPrefixOf s)) none []:=by
 refine uJx [.string ⟨s.toArray⟩, .string ⟨p.toArray⟩] ⟨_,Tryz.func157,by kernel_rfl,by kernel_rfl⟩ (fun w G vs h=>?_) (fun w=>Any.strings_HasPrefix uQs ⟨s.toArray⟩ ⟨p.toArray⟩ w) (fun w G=>CRep.b _)
 match vs,h with
 | [u,v],⟨h1,h2,_⟩=>rw[XRep.str h1,XRep.str h2]
end Go.Proofs.YteidahabkfgfjaaGreat
namespace Go.Proofs.YteidahabkfgfjaaGreat
open Go Go.Proofs Go.RowKit
open Go.Abs (uFK BdSys)
end Go.Proofs.YteidahabkfgfjaaGreat
namespace Go.Proofs.YteidahabkfgfjaaGreat
open Go Go.Abs
theorem uFR (n : Int) : Ctr sys 137 [xu n] [] (xb (uBl n)) none []:=by
 refine uAA Tryz.func137 rfl rfl rfl rfl rfl rfl ?_;refine uAd (uAb ?_);refine uAa rfl rfl rfl (uAe rfl gU) ?_;refine uAf ?_;refine uAd (uAb ?_);refine uAa rfl rfl rfl (uAc rfl gU) ?_;refine uAa rfl rfl rfl (uAm rfl rfl gU gU rfl) ?_;refine uAa rfl rfl rfl (uAc rfl gU) ?_;refine uAa rfl rfl rfl (uAc rfl gU) ?_;refine uAa rfl rfl rfl (uAm rfl rfl (fun hh=>hh) gU rfl) ?_;refine uAa rfl rfl rfl (uAJ rfl rfl gU (fun _ hi=>gP rfl hi)) ?_;refine uAa rfl rfl rfl (uAc rfl gU) ?_;refine uAa rfl rfl rfl (uAc rfl gU) ?_;refine uAa rfl rfl rfl (uAm rfl rfl (fun hh=>hh) gU rfl) ?_;refine uAa rfl rfl rfl (uAc rfl (fun hh=>hh)) ?_;refine uAa rfl rfl rfl (uAc rfl gU) ?_;refine uAa rfl rfl rfl (uAm rfl rfl (fun hh=>hh) gU rfl) ?_;refine uAa rfl rfl rfl (uAJ rfl rfl (fun hh=>hh) (fun hh hi=>gP hh hi)) ?_;refine uAa rfl rfl rfl (uAO rfl rfl gU (fun _ hi=>gP rfl hi)) ?_;refine uAa rfl rfl rfl (uAe rfl gU) ?_;refine uAf ?_;refine uAq ?_
 repeat(first|refine tR ?_|refine bR ?_)
 refine uAu rfl ?_ trivial
 rfl
theorem uKr (n : Int) : Ctr sys 156 [xu n] [] (xb (uBI n)) none []:=by
 refine uAA Tryz.func156 rfl rfl rfl rfl rfl rfl ?_;refine uAd (uAb ?_);refine uAa rfl rfl rfl (uAe rfl gU) ?_;refine uAf ?_;refine uAd (uAb ?_);refine uAa rfl rfl rfl (uAc rfl gU) ?_;refine uAa rfl rfl rfl (uAm rfl rfl gU gU rfl) ?_;refine uAa rfl rfl rfl (uAc rfl gU) ?_;refine uAa rfl rfl rfl (uAc rfl gU) ?_;refine uAa rfl rfl rfl (uAm rfl rfl (fun hh=>hh) gU rfl) ?_;refine uAa rfl rfl rfl (uAJ rfl rfl gU (fun _ hi=>gP rfl hi)) ?_;refine uAa rfl rfl rfl (uAe rfl gU) ?_;refine uAf ?_;refine uAq ?_
 repeat(first|refine tR ?_|refine bR ?_)
 refine uAu rfl ?_ trivial
 rfl
theorem pre2 (b : UInt8) (l : List UInt8) : ([35,35] : List UInt8).isPrefixOf (b :: l)=(decide (b.toNat=35) && decide ((l.getD 0 0).toNat=35)):=by
 have hb : ∀ x : UInt8,((35 : UInt8) == x)=decide (x.toNat=35):=by
  intro x
  rw[Bool.eq_iff_iff]
  simp only [beq_iff_eq,decide_eq_true_eq]
  exact ⟨fun h=>by subst h; rfl,fun h=>UInt8.toNat_inj.1 (by rw[h]; rfl)⟩
 cases l with
 | nil=>simp [List.isPrefixOf,hb]
 | cons c r=>simp [List.isPrefixOf,hb]
theorem uGK (s : List UInt8) (hs : s.length≤9223372036854775807) : Ctr sys 138 [xs s] [] (xi (nlE s : Nat)) none []:=by
 refine uAA Tryz.func138 rfl rfl rfl rfl rfl rfl ?_;refine uAd (uAb ?_);refine uAa rfl rfl rfl (uAe rfl gU) ?_;refine uAf ?_;refine uAd (uAb ?_);refine uAa rfl rfl rfl (uAe rfl gU) ?_;refine uAf ?_;refine uAd ?_;refine uAt ?_;refine uAW (ι:=Nat) { t:=[(0,_,_)],bx:=[],ow:=[] } (fun k=>[(3,true,xi (k : Int))]) (fun k=>[]) (fun k=>1≤k∧(k≤s.length∨k=1)∧nmP (s.drop k) + k=nlE s) (fun k=>s.length - k) (1) (⟨by omega,by omega,by unfold nlE; omega⟩) (uAj (⟨sx rfl,sx rfl,trivial⟩) trivial trivial) ?_
 intro k hok
 dsimp only [List.cons_append,List.nil_append]
 obtain ⟨hk1,hk,hi⟩:=hok
 refine uAd ?_;refine uAd (uAb ?_);refine uAa rfl rfl rfl (uAc rfl gU) ?_;refine uAa rfl rfl rfl (uAc rfl gU) ?_;refine uBS rfl rfl rfl rfl rfl gU (Tryz.underlying9) ?_ (fun hh=>by simp at hh); intro hlen;refine uAa rfl rfl rfl (uAm rfl rfl gU gU rfl) ?_;refine uAa rfl rfl rfl (uAc rfl gU) ?_;refine uAa rfl rfl rfl (uAc rfl gU) ?_;refine uAa rfl rfl rfl (uAc rfl gU) ?_;refine uAa rfl rfl rfl (uAP (j:=k) rfl rfl (fun hh=>hh) (fun hh=>hh) Tryz.underlying9 (by first|omega|(simp at hh ⊢; omega)) (fun hh=>by first|omega|(simp at hh ⊢; omega))) ?_;refine uAx rfl rfl rfl rfl rfl rfl gU (fun hh=>gA ((fun hh=>hh) hh) (rfl)) (uFR _) rfl ?_;refine uAa rfl rfl rfl (uAc rfl (fun hh=>hh)) ?_;refine uAa rfl rfl rfl (uAc rfl gU) ?_;refine uAa rfl rfl rfl (uAc rfl gU) ?_;refine uBd (s:=⟨[(0,_,_),(3,_,_),(8,_,_),(13,_,_),(14,_,_),(15,_,_)],[],[],[]⟩) (uAj (⟨sx rfl,sx rfl,sx rfl,sx rfl,sx rfl,sx rfl,trivial⟩) trivial trivial) ?_;refine uAa rfl rfl rfl (uAP (j:=k) rfl rfl (fun hh=>hh) (fun hh=>hh) Tryz.underlying9 (by first|omega|(simp at hh ⊢; omega)) (fun hh=>by first|omega|(simp at hh ⊢; omega))) ?_;refine uAx rfl rfl rfl rfl rfl rfl gU (fun hh=>gA ((fun hh=>hh) hh) (rfl)) (uKr _) rfl ?_;refine uAa rfl rfl rfl (uAO rfl rfl (fun hh=>hh) (fun hh hi=>gP hh hi)) ?_
 refine uAa rfl rfl rfl (uAc rfl (fun hh=>hh)) ?_;refine uAa rfl rfl rfl (uAc rfl gU) ?_;refine uAa rfl rfl rfl (uAc rfl gU) ?_;refine uAa rfl rfl rfl (uAP (j:=k) rfl rfl (fun hh=>hh) (fun hh=>hh) Tryz.underlying9 (by first|omega|(simp at hh ⊢; omega)) (fun hh=>by first|omega|(simp at hh ⊢; omega))) ?_;refine uAa rfl rfl rfl (uAm rfl rfl (fun hh=>hh) gU rfl) ?_;refine uAa rfl rfl rfl (uAO rfl rfl (fun hh=>hh) (fun hh hi=>gP hh hi)) ?_;refine uAa rfl rfl rfl (uAc rfl (fun hh=>hh)) ?_;refine uAa rfl rfl rfl (uAc rfl gU) ?_;refine uAa rfl rfl rfl (uAc rfl gU) ?_;refine uBd (s:=⟨[(0,_,_),(3,_,_),(8,_,_),(25,_,_),(26,_,_),(27,_,_)],[],[],[]⟩) (uAj (⟨sx rfl,sx rfl,sx rfl,sx rfl,sx rfl,sx rfl,trivial⟩) trivial trivial) ?_;refine uAa rfl rfl rfl (uAP (j:=k) rfl rfl (fun hh=>hh) (fun hh=>hh) Tryz.underlying9 (by first|omega|(simp at hh ⊢; omega)) (fun hh=>by first|omega|(simp at hh ⊢; omega))) ?_;refine uAa rfl rfl rfl (uAm rfl rfl (fun hh=>hh) gU rfl) ?_;refine uAa rfl rfl rfl (uAO rfl rfl (fun hh=>hh) (fun hh hi=>gP hh hi)) ?_;refine uAa rfl rfl rfl (uAJ rfl rfl gU (fun _ hi=>gP rfl hi)) ?_;refine uAf ?_;refine uAo rfl (fun hc=>?_) (fun hc=>?_)
 ·try simp only [nn] at hc
  rw[uBj (by omega),nmP] at hi
  refine uAp ?_;refine uAt ?_;refine uAd ?_;refine uAd (uAb ?_);refine uAa rfl rfl rfl (uAc rfl gU) ?_;refine uAa rfl rfl rfl (uAc rfl gU) ?_;refine uAa rfl rfl rfl (uBL (l:=k) rfl gU Tryz.underlying9 (fun _=>⟨_,_,_,rfl,gU,by first|omega|(simp at hh ⊢; omega)⟩) (fun _=>rfl) (fun hh=>by first|omega|(simp at hh ⊢; omega)) (fun hh=>by first|omega|(simp at hh ⊢; omega))) ?_;refine uAx rfl rfl rfl rfl rfl rfl gU gU (uHi _ _) rfl ?_;refine uAf ?_;refine uAk (s:=⟨[(0,_,_),(3,_,_),(35,_,_)],[],[],[]⟩) (uAj (⟨sx rfl,sx rfl,sx rfl,trivial⟩) trivial trivial) ?_;refine uAo rfl (fun hc2=>?_) (fun hc2=>?_)
  ·try simp only [nn] at hc2
   rw[List.take_length,uBj (by omega),pre2] at hc2
   refine uAL ?_
   repeat(first|refine uAE ?_|refine uAF ?_|refine uAB rfl ?_)
   refine uAd (uAb ?_);refine uAa rfl rfl rfl (uAc rfl gU) ?_;refine uAa rfl rfl rfl (uAe rfl gU) ?_;refine uAf ?_;refine uAq ?_
   repeat(first|refine tR ?_|refine bR ?_)
   refine uAu rfl ?_ trivial
   (have hn:=hi; rw[if_neg (by intro q; simp only [Bool.and_eq_true,decide_eq_true_eq] at hc2; exact q.2 hc2)] at hn; exact uBc (by omega))
  ·try simp only [nn] at hc2
   rw[List.take_length,uBj (by omega),pre2] at hc2
   have hn:=hi
   rw[if_pos ⟨by simp only [uB4]; grind,by simpa using hc2⟩] at hn
   refine uAp ?_;refine uAb ?_;refine uAa rfl rfl rfl (uAc rfl gU) ?_;refine uAa rfl rfl rfl (uAz rfl rfl gU gU rfl (IntWalk.i64_in _ (by omega))) ?_;refine uAa rfl rfl rfl (uAe rfl gU) ?_;refine uAf ?_;refine ⟨k + 1,?_,?_,uAj (⟨⟨_,rfl,?_⟩,⟨sx rfl,trivial⟩⟩) trivial trivial⟩
   all_goals (first|rfl|omega|exact ⟨by omega,by omega,by omega⟩)
 ·try simp only [nn] at hc
  refine uAL ?_
  repeat(first|refine uAE ?_|refine uAF ?_|refine uAB rfl ?_)
  refine uAd (uAb ?_);refine uAa rfl rfl rfl (uAc rfl gU) ?_;refine uAa rfl rfl rfl (uAe rfl gU) ?_;refine uAf ?_;refine uAq ?_
  repeat(first|refine tR ?_|refine bR ?_)
  refine uAu rfl ?_ trivial
  (have hn : nmP (s.drop k)=0:=by { by_cases hlt : k < s.length; { rw[uBj hlt,nmP,if_neg (by simp only [uB4]; grind)] }; { rw[List.drop_of_length_le (by omega)]; rfl } }; exact uBc (by omega))
theorem uGN {c : UInt8} (h : hexB c=true) : 0≤hexV c∧hexV c≤15:=by
 simp [hexB] at h
 unfold hexV
 split <;> omega
theorem uQo {x : Int} {n : Nat} (h : x=n) (hn : n < 256) : x=((UInt8.ofNat n).toNat : Int):=by
 rw[h,UInt8.toNat_ofNat']; omega
theorem uOb {n i : Nat} {l out : List UInt8} (h : l=[]) : litA n l i out=([],0):=by subst h; cases n <;> rfl
theorem uPS {s : List UInt8} {k : Nat} (h : k < s.length) : escE (s.drop k)=if (s.getD k 0).toNat=110 then (10,1) else if (s.getD k 0).toNat=116 then (9,1) else if (s.getD k 0).toNat=34∨(s.getD k 0).toNat=92 then (s.getD k 0,1)
  else if (s.getD k 0).toNat=120∧k + 2 < s.length∧hexB (s.getD (k + 1) 0)=true∧hexB (s.getD (k + 2) 0)=true then (UInt8.ofNat (16 * hexV (s.getD (k + 1) 0) + hexV (s.getD (k + 2) 0)).toNat,3) else (0,0):=by
 have e : (2≤s.length - (k + 1))=(k + 2 < s.length):=propext (by omega)
 rw[uBj h,escE,uIF,uIF,List.length_drop]
 simp only [e,Nat.add_zero]
theorem uNm {s out : List UInt8} {n k : Nat} (h : k < s.length) : litA (n + 1) (s.drop k) k out=if (s.getD k 0).toNat=34 then (out,k + 1)
  else if (s.getD k 0).toNat=92 then (if (escE (s.drop (k + 1))).2=0 then ([],0) else litA n (s.drop (k + 1 + (escE (s.drop (k + 1))).2)) (k + 1 + (escE (s.drop (k + 1))).2) (out++[(escE (s.drop (k + 1))).1]))
  else if (s.getD k 0).toNat < 32∨126 < (s.getD k 0).toNat then ([],0) else litA n (s.drop (k + 1)) (k + 1) (out++[s.getD k 0]):=by
 rw[uBj h,litA,List.drop_drop]
theorem uMN {n : Int} (h : uBI n=true) : 48≤n∧n≤57:=by simpa [uBI] using h
theorem uDE (c : UInt8) (n : Int) (h : n=(c.toNat : Int)) : Ctr sys 129 [xu n] [] (xi (clsE c)) none []:=by
 subst h
 have hu:=c.toNat_lt
 have h18 : syms.length=18:=rfl
 refine uAA Tryz.func129 rfl rfl rfl rfl rfl rfl ?_;refine uAd (uAb ?_);refine uAa rfl rfl rfl (uAe rfl gU) ?_;refine uAf ?_;refine uAd ?_;refine uAt ?_;refine uAd (uAb ?_);refine uAa rfl rfl rfl (uAc rfl gU) ?_;refine uAa rfl rfl rfl (uAm rfl rfl gU gU rfl) ?_;refine uAa rfl rfl rfl (uAc rfl gU) ?_;refine uAa rfl rfl rfl (uAc rfl gU) ?_;refine uAa rfl rfl rfl (uAm rfl rfl (fun hh=>hh) gU rfl) ?_;refine uAa rfl rfl rfl (uAO rfl rfl gU (fun _ hi=>gP rfl hi)) ?_;refine uAa rfl rfl rfl (uAc rfl gU) ?_;refine uAa rfl rfl rfl (uAc rfl gU) ?_;refine uAa rfl rfl rfl (uAm rfl rfl (fun hh=>hh) gU rfl) ?_;refine uAa rfl rfl rfl (uAO rfl rfl gU (fun _ hi=>gP rfl hi)) ?_;refine uAa rfl rfl rfl (uAc rfl gU) ?_;refine uBd (s:=⟨[(0,_,_),(16,_,_)],[],[],[]⟩) (uAj (⟨sx rfl,sx rfl,trivial⟩) trivial trivial) ?_;refine uAa rfl rfl rfl (uAc rfl gU) ?_;refine uAa rfl rfl rfl (uAm rfl rfl (fun hh=>hh) gU rfl) ?_;refine uAa rfl rfl rfl (uAO rfl rfl gU (fun _ hi=>gP rfl hi)) ?_;refine uAa rfl rfl rfl (uAe rfl gU) ?_;refine uAf ?_;refine uAo rfl (fun hc=>?_) (fun hc=>?_)
 ·try simp only [nn] at hc
  refine uAd (uAb ?_);refine uAa rfl rfl rfl (uAe rfl gU) ?_;refine uAf ?_;refine uAq ?_
  repeat(first|refine tR ?_|refine bR ?_)
  refine uAu rfl ?_ trivial;exact uBc (by rw[clsE,if_pos (by simp [uCu]; omega)])
 ·try simp only [nn] at hc
  have hw : ¬uCu c=true:=by simp [uCu]; omega
  refine uAd (uAb ?_);refine uAa rfl rfl rfl (uAc rfl gU) ?_;refine uAa rfl rfl rfl (uAm rfl rfl gU gU rfl) ?_;refine uAa rfl rfl rfl (uAc rfl gU) ?_;refine uAa rfl rfl rfl (uAc rfl gU) ?_;refine uAa rfl rfl rfl (uAm rfl rfl (fun hh=>hh) gU rfl) ?_;refine uAa rfl rfl rfl (uAJ rfl rfl gU (fun _ hi=>gP rfl hi)) ?_;refine uAa rfl rfl rfl (uAc rfl gU) ?_;refine uAa rfl rfl rfl (uAc rfl gU) ?_;refine uBd (s:=⟨[(0,_,_),(27,_,_),(28,_,_)],[],[],[]⟩) (uAj (⟨sx rfl,sx rfl,sx rfl,trivial⟩) trivial trivial) ?_;refine uAa rfl rfl rfl (uAm rfl rfl (fun hh=>hh) gU rfl) ?_;refine uAa rfl rfl rfl (uAc rfl (fun hh=>hh)) ?_;refine uAa rfl rfl rfl (uAc rfl gU) ?_;refine uAa rfl rfl rfl (uAm rfl rfl (fun hh=>hh) gU rfl) ?_;refine uAa rfl rfl rfl (uAJ rfl rfl (fun hh=>hh) (fun hh hi=>gP hh hi)) ?_;refine uAa rfl rfl rfl (uAO rfl rfl gU (fun _ hi=>gP rfl hi)) ?_;refine uAa rfl rfl rfl (uAe rfl gU) ?_;refine uAf ?_;refine uAk (s:=⟨[(0,_,_),(20,_,_)],[],[],[]⟩) (uAj (⟨sx rfl,sx rfl,trivial⟩) trivial trivial) ?_;refine uAo rfl (fun hc2=>?_) (fun hc2=>?_)
  ·try simp only [nn] at hc2
   refine uAd (uAb ?_);refine uAa rfl rfl rfl (uAe rfl gU) ?_;refine uAf ?_;refine uAq ?_
   repeat(first|refine tR ?_|refine bR ?_)
   refine uAu rfl ?_ trivial;exact uBc (by rw[clsE,if_neg hw,if_pos (by simp [uBl]; omega)])
  ·try simp only [nn] at hc2
   have hl : ¬uBl (c.toNat : Int)=true:=by simp [uBl]; omega
   refine uAd (uAb ?_);refine uAa rfl rfl rfl (uAc rfl gU) ?_;refine uAa rfl rfl rfl (uAm rfl rfl gU gU rfl) ?_;refine uAa rfl rfl rfl (uAc rfl gU) ?_;refine uAa rfl rfl rfl (uAc rfl gU) ?_;refine uAa rfl rfl rfl (uAm rfl rfl (fun hh=>hh) gU rfl) ?_;refine uAa rfl rfl rfl (uAJ rfl rfl gU (fun _ hi=>gP rfl hi)) ?_;refine uAa rfl rfl rfl (uAe rfl gU) ?_;refine uAf ?_;refine uAk (s:=⟨[(0,_,_),(35,_,_)],[],[],[]⟩) (uAj (⟨sx rfl,sx rfl,trivial⟩) trivial trivial) ?_;refine uAo rfl (fun hc3=>?_) (fun hc3=>?_)
   ·try simp only [nn] at hc3
    refine uAd (uAb ?_);refine uAa rfl rfl rfl (uAe rfl gU) ?_;refine uAf ?_;refine uAq ?_
    repeat(first|refine tR ?_|refine bR ?_)
    refine uAu rfl ?_ trivial;exact uBc (by rw[clsE,if_neg hw,if_neg hl,if_pos (by simp [uBI]; omega)])
   ·try simp only [nn] at hc3
    have hd : ¬uBI (c.toNat : Int)=true:=by simp [uBI]; omega
    refine uAd (uAb ?_);refine uAa rfl rfl rfl (uAc rfl gU) ?_;refine uAa rfl rfl rfl (uAm rfl rfl gU gU rfl) ?_;refine uAa rfl rfl rfl (uAe rfl gU) ?_;refine uAf ?_;refine uAo rfl (fun hc4=>?_) (fun hc4=>?_)
    ·try simp only [nn] at hc4
     refine uAd (uAb ?_);refine uAa rfl rfl rfl (uAe rfl gU) ?_;refine uAf ?_;refine uAq ?_
     repeat(first|refine tR ?_|refine bR ?_)
     refine uAu rfl ?_ trivial;exact uBc (by rw[clsE,if_neg hw,if_neg hl,if_neg hd,if_pos (by omega)])
    ·try simp only [nn] at hc4
     have hx : clsE c=if symB c=true then 4 else 0:=by rw[clsE,if_neg hw,if_neg hl,if_neg hd,if_neg (by omega)]
     rw[hx]
     refine uAp ?_;refine uAd (uAb ?_);refine uAa rfl rfl rfl (uAe rfl gU) ?_;refine uAf ?_;refine uAd ?_;refine uAd (uAb ?_);refine uAa rfl rfl rfl (uAe rfl gU) ?_;refine uAf ?_;refine uAk (s:=⟨[(0,_,_),(3,_,_),(4,_,_)],[],[],[]⟩) (uAj (⟨sx rfl,sx rfl,sx rfl,trivial⟩) trivial trivial) ?_;refine uAt ?_;refine uAW (ι:=Nat) { t:=[(0,_,_),(3,_,_)],bx:=[],ow:=[] } (fun k=>[(4,true,xi (k : Int))]) (fun k=>[]) (fun k=>k≤18∧(syms.drop k).contains c=symB c) (fun k=>18 - k) (0) (⟨by omega,rfl⟩) (uAj (⟨sx rfl,sx rfl,sx rfl,trivial⟩) trivial trivial) ?_
     intro k hok
     dsimp only [List.cons_append,List.nil_append]
     obtain ⟨hk,hi⟩:=hok
     refine uAd ?_;refine uAd (uAb ?_);refine uAa rfl rfl rfl (uAc rfl gU) ?_;refine uAa rfl rfl rfl (uAc rfl gU) ?_;refine uBS rfl rfl rfl rfl rfl gU (Tryz.underlying9) ?_ (fun hh=>by simp at hh); intro hlen;refine uAa rfl rfl rfl (uAm rfl rfl gU gU rfl) ?_;refine uAf ?_;refine uAo rfl (fun hc5=>?_) (fun hc5=>?_)
     ·try simp only [nn] at hc5
      have hk2 : k < syms.length:=by rw[h18]; simp at hc5; omega
      rw[uBj hk2,List.contains_cons] at hi
      refine uAp ?_;refine uAd ?_;refine uAt ?_;refine uAd (uAb ?_);refine uAa rfl rfl rfl (uAc rfl gU) ?_;refine uAa rfl rfl rfl (uAc rfl gU) ?_;refine uAa rfl rfl rfl (uAP (j:=k) rfl rfl gU gU Tryz.underlying9 (by first|omega|(show _ < 18; omega)|(simp at hh ⊢; omega)) (fun hh=>by first|omega|(show _ < 18; omega)|(simp at hh ⊢; omega))) ?_;refine uAa rfl rfl rfl (uAc rfl gU) ?_;refine uAa rfl rfl rfl (uAm rfl rfl gU gU rfl) ?_;refine uAf ?_;refine uAk (s:=⟨[(0,_,_),(3,_,_),(4,_,_),(55,_,_)],[],[],[]⟩) (uAj (⟨sx rfl,sx rfl,sx rfl,sx rfl,trivial⟩) trivial trivial) ?_;refine uAo rfl (fun hc6=>?_) (fun hc6=>?_)
      ·try simp only [nn] at hc6
       have he : c=syms.getD k 0:=UInt8.toNat_inj.1 (by have : ((syms.getD k 0).toNat : Int)=(c.toNat : Int):=hc6; omega)
       refine uAd (uAb ?_);refine uAa rfl rfl rfl (uAe rfl gU) ?_;refine uAf ?_;refine uAq ?_
       repeat(first|refine tR ?_|refine bR ?_)
       refine uAu rfl ?_ trivial;exact uBc (by rw[← hi,he]; simp)
      ·try simp only [nn] at hc6
       have he : (c == syms.getD k 0)=false:=by
        rw[beq_eq_false_iff_ne]
        intro q
        exact hc6 (by show ((syms.getD k 0).toNat : Int)=(c.toNat : Int); rw[q])
       rw[he,Bool.false_or] at hi
       refine uAp ?_;refine uAb ?_;refine uAa rfl rfl rfl (uAc rfl gU) ?_;refine uAa rfl rfl rfl (uAz rfl rfl gU gU rfl (IntWalk.i64_in _ (by omega))) ?_;refine uAa rfl rfl rfl (uAe rfl gU) ?_;refine uAf ?_;refine ⟨k + 1,?_,?_,uAj (⟨⟨_,rfl,?_⟩,⟨sx rfl,sx rfl,trivial⟩⟩) trivial trivial⟩
       all_goals (first|rfl|omega|exact ⟨by omega,hi⟩)
     ·try simp only [nn] at hc5
      have hk2 : k=18:=by simp at hc5; omega
      rw[List.drop_of_length_le (by rw[h18]; omega)] at hi
      refine uAL ?_
      repeat(first|refine uAE ?_|refine uAF ?_|refine uAB rfl ?_)
      refine uAd (uAb ?_);refine uAa rfl rfl rfl (uAe rfl gU) ?_;refine uAf ?_;refine uAq ?_
      repeat(first|refine tR ?_|refine bR ?_)
      refine uAu rfl ?_ trivial;exact uBc (by rw[← hi]; rfl)
theorem uEs (c : UInt8) : (clsE c=2 ↔ uBl (c.toNat : Int)=true)∧(clsE c=3 ↔ uBI (c.toNat : Int)=true)∧(clsE c=1 ↔ uCu c=true):=by
 unfold clsE
 have h1 : uCu c=true→uBl (c.toNat : Int)≠true∧uBI (c.toNat : Int)≠true:=by simp [uCu,uBl,uBI]; omega
 have h2 : uBl (c.toNat : Int)=true→uBI (c.toNat : Int)≠true:=by simp [uBl,uBI]; omega
 refine ⟨?_,?_,?_⟩
 all_goals (repeat' split)
 all_goals simp_all
theorem uJY (c : UInt8) : uB4 (c.toNat : Int)=true ↔ ((clsE c=2∨clsE c=3)∨c.toNat=95)∨c.toNat=35:=by
 rw[(uEs c).1,(uEs c).2.1]
 have e1 : ((c.toNat : Int)=95)=(c.toNat=95):=propext (by omega)
 have e2 : ((c.toNat : Int)=35)=(c.toNat=35):=propext (by omega)
 simp only [uB4,Bool.or_eq_true,beq_iff_eq,e1,e2]
theorem uNt (s : List UInt8) (hs : s.length≤2000000) : Ctr sys 149 [xs s] [] (xs (s.take (wdN s))) none []:=by
 refine uAA Tryz.func149 rfl rfl rfl rfl rfl rfl ?_;refine uAd (uAb ?_);refine uAa rfl rfl rfl (uAe rfl gU) ?_;refine uAf ?_;refine uAd (uAb ?_);refine uAa rfl rfl rfl (uAe rfl gU) ?_;refine uAf ?_;refine uAd ?_;refine uAt ?_;refine uAW (ι:=Nat) { t:=[(0,_,_)],bx:=[],ow:=[] } (fun k=>[(3,true,xi (k : Int))]) (fun k=>[]) (fun k=>k≤s.length∧wdN (s.drop k) + k=wdN s) (fun k=>s.length - k) (0) (⟨by omega,rfl⟩) (uAj (⟨sx rfl,sx rfl,trivial⟩) trivial trivial) ?_
 intro k hok
 dsimp only [List.cons_append,List.nil_append]
 obtain ⟨hk,hi⟩:=hok
 refine uAd ?_;refine uAd (uAb ?_);refine uAa rfl rfl rfl (uAc rfl gU) ?_;refine uAa rfl rfl rfl (uAc rfl gU) ?_;refine uBS rfl rfl rfl rfl rfl gU (Tryz.underlying9) ?_ (fun hh=>by simp at hh); intro hlen;refine uAa rfl rfl rfl (uAm rfl rfl gU gU rfl) ?_;refine uAa rfl rfl rfl (uAc rfl gU) ?_;refine uAa rfl rfl rfl (uAc rfl gU) ?_;refine uAa rfl rfl rfl (uAc rfl gU) ?_;refine uAa rfl rfl rfl (uAP (j:=k) rfl rfl (fun hh=>hh) (fun hh=>hh) Tryz.underlying9 (by first|omega|(simp at hh ⊢; omega)) (fun hh=>by first|omega|(simp at hh ⊢; omega))) ?_;refine uAx rfl rfl rfl rfl rfl rfl gU (fun hh=>gA ((fun hh=>hh) hh) (rfl)) (uDE _ _ rfl) rfl ?_;refine uAa rfl rfl rfl (uAm rfl rfl (fun hh=>hh) gU rfl) ?_;refine uAa rfl rfl rfl (uAc rfl (fun hh=>hh)) ?_;refine uAa rfl rfl rfl (uAc rfl gU) ?_;refine uBd (s:=⟨[(0,_,_),(3,_,_),(8,_,_),(14,_,_),(15,_,_)],[],[],[]⟩) (uAj (⟨sx rfl,sx rfl,sx rfl,sx rfl,sx rfl,trivial⟩) trivial trivial) ?_;refine uAa rfl rfl rfl (uAc rfl gU) ?_;refine uAa rfl rfl rfl (uAP (j:=k) rfl rfl (fun hh=>hh) (fun hh=>hh) Tryz.underlying9 (by first|omega|(simp at hh ⊢; omega)) (fun hh=>by first|omega|(simp at hh ⊢; omega))) ?_;refine uAx rfl rfl rfl rfl rfl rfl gU (fun hh=>gA ((fun hh=>hh) hh) (rfl)) (uDE _ _ rfl) rfl ?_
 refine uAa rfl rfl rfl (uAm rfl rfl (fun hh=>hh) gU rfl) ?_;refine uAa rfl rfl rfl (uAO rfl rfl (fun hh=>hh) (fun hh hi=>gP hh hi)) ?_;refine uAa rfl rfl rfl (uAc rfl (fun hh=>hh)) ?_;refine uAa rfl rfl rfl (uAc rfl gU) ?_;refine uAa rfl rfl rfl (uAc rfl gU) ?_;refine uAa rfl rfl rfl (uAP (j:=k) rfl rfl (fun hh=>hh) (fun hh=>hh) Tryz.underlying9 (by first|omega|(simp at hh ⊢; omega)) (fun hh=>by first|omega|(simp at hh ⊢; omega))) ?_;refine uAa rfl rfl rfl (uAm rfl rfl (fun hh=>hh) gU rfl) ?_;refine uAa rfl rfl rfl (uAO rfl rfl (fun hh=>hh) (fun hh hi=>gP hh hi)) ?_;refine uAa rfl rfl rfl (uAc rfl (fun hh=>hh)) ?_;refine uBd (s:=⟨[(0,_,_),(3,_,_),(8,_,_),(27,_,_)],[],[],[]⟩) (uAj (⟨sx rfl,sx rfl,sx rfl,sx rfl,trivial⟩) trivial trivial) ?_;refine uAa rfl rfl rfl (uAc rfl gU) ?_;refine uAa rfl rfl rfl (uAc rfl gU) ?_;refine uAa rfl rfl rfl (uAP (j:=k) rfl rfl (fun hh=>hh) (fun hh=>hh) Tryz.underlying9 (by first|omega|(simp at hh ⊢; omega)) (fun hh=>by first|omega|(simp at hh ⊢; omega))) ?_;refine uAa rfl rfl rfl (uAm rfl rfl (fun hh=>hh) gU rfl) ?_;refine uAa rfl rfl rfl (uAO rfl rfl (fun hh=>hh) (fun hh hi=>gP hh hi)) ?_;refine uAa rfl rfl rfl (uAJ rfl rfl gU (fun _ hi=>gP rfl hi)) ?_;refine uAf ?_;refine uAk (s:=⟨[(0,_,_),(3,_,_),(33,_,_)],[],[],[]⟩) (uAj (⟨sx rfl,sx rfl,sx rfl,trivial⟩) trivial trivial) ?_
 refine uAo rfl (fun hc=>?_) (fun hc=>?_)
 ·try simp only [nn] at hc
  rw[uBj (by omega),wdN,if_pos ((uJY _).2 (by omega))] at hi
  refine uAp ?_;refine uAt ?_;refine uAb ?_;refine uAa rfl rfl rfl (uAc rfl gU) ?_;refine uAa rfl rfl rfl (uAz rfl rfl gU gU rfl (IntWalk.i64_in _ (by omega))) ?_;refine uAa rfl rfl rfl (uAe rfl gU) ?_;refine uAf ?_;refine ⟨k + 1,?_,?_,uAj (⟨⟨_,rfl,?_⟩,⟨sx rfl,trivial⟩⟩) trivial trivial⟩
  all_goals (first|rfl|omega)
 ·try simp only [nn] at hc
  have hn : wdN (s.drop k)=0:=by
   by_cases hlt : k < s.length
   ·rw[uBj hlt,wdN,if_neg (fun q=>by have := (uJY _).1 q; omega)]
   ·rw[List.drop_of_length_le (by omega)]; rfl
  have hn2 : wdN s=k:=by omega
  rw[hn2]
  refine uAL ?_
  repeat(first|refine uAE ?_|refine uAF ?_|refine uAB rfl ?_)
  refine uAd (uAb ?_);refine uAa rfl rfl rfl (uAc rfl gU) ?_;refine uAa rfl rfl rfl (uAc rfl gU) ?_;refine uAa rfl rfl rfl (uBL (h':=k) rfl gU Tryz.underlying9 (fun _=>rfl) (fun _=>⟨_,_,_,rfl,gU,by first|omega|(simp at hh ⊢; omega)⟩) (fun hh=>by first|omega|(simp at hh ⊢; omega)) (fun hh=>by first|omega|(simp at hh ⊢; omega))) ?_;refine uAa rfl rfl rfl (uAe rfl gU) ?_;refine uAf ?_;refine uAq ?_
  repeat(first|refine tR ?_|refine bR ?_)
  refine uAu rfl ?_ trivial
  rfl
theorem uNL (s : List UInt8) (hs : s.length≤2000000) : Ctr sys 128 [xs s] [] (xs (uBf s)) none []:=by
 refine uAA Tryz.func128 rfl rfl rfl rfl rfl rfl ?_;refine uAd (uAb ?_);refine uAa rfl rfl rfl (uAe rfl gU) ?_;refine uAf ?_;refine uAd (uAb ?_);refine uAa rfl rfl rfl (uAe rfl gU) ?_;refine uAf ?_;refine uAd ?_;refine uAd (uAb ?_);refine uAa rfl rfl rfl (uAe rfl gU) ?_;refine uAf ?_;refine uAt ?_;refine uAW (ι:=Nat × Bool) { t:=[(0,_,_)],bx:=[],ow:=[] } (fun p=>[(4,true,xi (p.1 : Int)),(3,true,xb p.2)]) (fun p=>[]) (fun p=>p.1≤s.length + 1∧s.take (uCi p.2 (s.drop p.1) + p.1)=uBf s) (fun p=>s.length + 1 - p.1) ((0,false)) (⟨by simp,rfl⟩) (uAj (⟨sx rfl,sx rfl,sx rfl,trivial⟩) trivial trivial) ?_
 intro p hok
 dsimp only [List.cons_append,List.nil_append] at *
 obtain ⟨k,ins⟩:=p
 dsimp only at hok ⊢
 obtain ⟨hk,hi⟩:=hok
 refine uAd ?_;refine uAd (uAb ?_);refine uAa rfl rfl rfl (uAc rfl gU) ?_;refine uAa rfl rfl rfl (uAc rfl gU) ?_;refine uBS rfl rfl rfl rfl rfl gU (Tryz.underlying9) ?_ (fun hh=>by simp at hh); intro hlen;refine uAa rfl rfl rfl (uAm rfl rfl gU gU rfl) ?_;refine uAf ?_;refine uAo rfl (fun hc=>?_) (fun hc=>?_)
 ·try simp only [nn] at hc
  have hd : s.drop k=s.getD k 0 :: s.drop (k + 1):=uBj (by omega)
  refine uAp ?_;refine uAd ?_;refine uAt ?_;refine uAd ?_;refine uAd (uAb ?_);refine uAa rfl rfl rfl (uAc rfl gU) ?_;refine uAa rfl rfl rfl (uAc rfl gU) ?_;refine uAa rfl rfl rfl (uAc rfl gU) ?_;refine uAa rfl rfl rfl (uAc rfl gU) ?_;refine uAa rfl rfl rfl (uAP (j:=k) rfl rfl (fun hh=>hh) (fun hh=>hh) Tryz.underlying9 (by first|omega|(simp at hh ⊢; omega)) (fun hh=>by first|omega|(simp at hh ⊢; omega))) ?_;refine uAa rfl rfl rfl (uAm rfl rfl (fun hh=>hh) gU rfl) ?_;refine uAa rfl rfl rfl (uAJ rfl rfl gU (fun _ hi=>gP rfl hi)) ?_;refine uAf ?_;refine uAk (s:=⟨[(0,_,_),(3,_,_),(4,_,_),(17,_,_)],[],[],[]⟩) (uAj (⟨sx rfl,sx rfl,sx rfl,sx rfl,trivial⟩) trivial trivial) ?_;refine uAo rfl (fun hc2=>?_) (fun hc2=>?_)
  ·try simp only [nn] at hc2
   have hq : ins=true∧(s.getD k 0).toNat=92:=⟨hc2.1,by omega⟩
   have hi2 : s.take (uCi true (s.drop (k + 2)) + (k + 2))=uBf s:=by
    rw[← hi,hd]
    by_cases hlt : k + 1 < s.length
    ·rw[uBj hlt,uCi,if_pos hq,show k + 1 + 1=k + 2 from rfl]
     congr 1; omega
    ·rw[List.drop_of_length_le (by omega),List.drop_of_length_le (by omega),uCi,uCi,List.take_of_length_le (by omega),List.take_of_length_le (by omega)]
   refine uAd (uAb ?_);refine uAa rfl rfl rfl (uAc rfl gU) ?_;refine uAa rfl rfl rfl (uAz rfl rfl gU gU rfl (IntWalk.i64_in _ (by omega))) ?_;refine uAa rfl rfl rfl (uAe rfl gU) ?_;refine uAf ?_;refine uAL ?_
   repeat(first|refine uAE ?_|refine uAF ?_|refine uAB rfl ?_)
   refine uAb ?_;refine uAa rfl rfl rfl (uAc rfl gU) ?_;refine uAa rfl rfl rfl (uAz rfl rfl gU gU rfl (IntWalk.i64_in _ (by omega))) ?_;refine uAa rfl rfl rfl (uAe rfl gU) ?_;refine uAf ?_;refine ⟨(k + 2,true),?_,?_,uAj (⟨⟨_,rfl,?_⟩,⟨⟨_,rfl,?_⟩,⟨sx rfl,trivial⟩⟩⟩) trivial trivial⟩
   all_goals (first|rfl|omega|exact ⟨by omega,hi2⟩|exact tx (uBY hq.1))
  ·try simp only [nn] at hc2
   have hq : ¬(ins=true∧(s.getD k 0).toNat=92):=by
    rintro ⟨q1,q2⟩
    rcases hc2 with z | z
    ·rw[q1] at z; simp at z
    ·omega
   have hlast : k + 1=s.length → ∀ i2 : Bool,s.take (uCi i2 (s.drop (k + 1)) + (k + 1))=uBf s:=by
    intro e i2
    rw[← hi,hd,List.drop_of_length_le (by omega),List.take_of_length_le (by omega),uCi,List.take_of_length_le (by omega)]
   have hcut : k + 1 < s.length→(if (s.getD k 0).toNat=34 then !ins else ins)=false∧(s.getD k 0).toNat=35∧(s.getD (k + 1) 0).toNat=35→s.take k=uBf s:=by
    intro e q
    rw[← hi,hd,uBj e,uCi,if_neg hq,if_pos q,Nat.zero_add]
   have hnext : k + 1 < s.length → ¬((if (s.getD k 0).toNat=34 then !ins else ins)=false∧(s.getD k 0).toNat=35∧(s.getD (k + 1) 0).toNat=35)→s.take (uCi (if (s.getD k 0).toNat=34 then !ins else ins) (s.drop (k + 1)) + (k + 1))=uBf s:=by
    intro e q
    rw[← hi,hd,uBj e,uCi,if_neg hq,if_neg q]
    congr 1; omega
   have h35 : k + 1 < s.length→((s.take (k + 2)).drop k=[35,35] ↔ (s.getD k 0).toNat=35∧(s.getD (k + 1) 0).toNat=35):=by
    intro e
    have e1 : (s.take (k + 2)).drop k=[s.getD k 0,s.getD (k + 1) 0]:=by
     rw[uBj (by simp; omega),uBj (by simp; omega),List.drop_of_length_le (by simp; omega),uGe _ _ (by omega),uGe _ _ (by omega)]
    rw[e1]
    constructor
    ·intro q; simp only [List.cons.injEq,and_true] at q; rw[q.1,q.2]; exact ⟨rfl,rfl⟩
    ·rintro ⟨q1,q2⟩
     rw[UInt8.toNat_inj.1 (show (s.getD k 0).toNat=(35 : UInt8).toNat from q1),UInt8.toNat_inj.1 (show (s.getD (k + 1) 0).toNat=(35 : UInt8).toNat from q2)]
   refine uAp ?_;refine uAd ?_;refine uAd (uAb ?_);refine uAa rfl rfl rfl (uAc rfl gU) ?_;refine uAa rfl rfl rfl (uAc rfl gU) ?_;refine uAa rfl rfl rfl (uAP (j:=k) rfl rfl gU gU Tryz.underlying9 (by first|omega|(simp at hh ⊢; omega)) (fun hh=>by first|omega|(simp at hh ⊢; omega))) ?_;refine uAa rfl rfl rfl (uAm rfl rfl gU gU rfl) ?_;refine uAf ?_;refine uAo rfl (fun hc3=>?_) (fun hc3=>?_)
   ·try simp only [nn] at hc3
    rw[if_pos (by omega)] at hcut hnext
    refine uAb ?_;refine uAa rfl rfl rfl (uAc rfl gU) ?_;refine uAa rfl rfl rfl (uA1 rfl gU) ?_;refine uAa rfl rfl rfl (uAe rfl gU) ?_;refine uAf ?_;refine uAk (s:=⟨[(0,_,_),(3,_,_),(4,_,_)],[],[],[]⟩) (uAj (⟨sx rfl,sx rfl,sx rfl,trivial⟩) trivial trivial) ?_;refine uAd (uAb ?_);refine uAa rfl rfl rfl (uAc rfl gU) ?_;refine uAa rfl rfl rfl (uA1 rfl gU) ?_;refine uAa rfl rfl rfl (uAc rfl gU) ?_;refine uAa rfl rfl rfl (uAc rfl gU) ?_;refine uAa rfl rfl rfl (uAz rfl rfl (fun hh=>hh) gU rfl (IntWalk.i64_in _ (by omega))) ?_;refine uAa rfl rfl rfl (uAc rfl gU) ?_;refine uAa rfl rfl rfl (uCm rfl (fun hh=>hh) (Tryz.underlying9)) ?_;refine uAa rfl rfl rfl (uAm rfl rfl (fun hh=>hh) (fun hh=>hh) rfl) ?_;refine uAa rfl rfl rfl (uAJ rfl rfl gU (fun _ hi=>gP rfl hi)) ?_;refine uAa rfl rfl rfl (uAc rfl gU) ?_;refine uAa rfl rfl rfl (uAc rfl gU) ?_;refine uAa rfl rfl rfl (uAc rfl gU) ?_;refine uBd (s:=⟨[(0,_,_),(3,_,_),(4,_,_),(35,_,_),(36,_,_),(37,_,_)],[],[],[]⟩) (uAj (⟨sx rfl,sx rfl,sx rfl,sx rfl,sx rfl,sx rfl,trivial⟩) trivial trivial) ?_;refine uAa rfl rfl rfl (uAc rfl gU) ?_;refine uAa rfl rfl rfl (uAz rfl rfl (fun hh=>hh) gU rfl (IntWalk.i64_in _ (by omega))) ?_;refine uAa rfl rfl rfl (uBL (l:=k) (h':=(k + 2)) rfl (fun hh=>hh) Tryz.underlying9 (fun _=>⟨_,_,_,rfl,(fun hh=>hh),by first|omega|(simp at hh ⊢; omega)⟩) (fun _=>⟨_,_,_,rfl,(fun hh=>hh),by first|omega|(simp at hh ⊢; omega)⟩) (fun hh=>by first|omega|(simp at hh ⊢; omega)) (fun hh=>by first|omega|(simp at hh ⊢; omega))) ?_
    refine uAa rfl rfl rfl (uA3 rfl rfl (fun hh=>hh) gU rfl) ?_;refine uAa rfl rfl rfl (uAJ rfl rfl gU (fun _ hi=>gP rfl hi)) ?_;refine uAf ?_;refine uAk (s:=⟨[(0,_,_),(3,_,_),(4,_,_),(42,_,_)],[],[],[]⟩) (uAj (⟨sx rfl,sx rfl,sx rfl,sx rfl,trivial⟩) trivial trivial) ?_;refine uAo rfl (fun hc4=>?_) (fun hc4=>?_)
    ·try simp only [nn] at hc4
     exfalso
     have := (h35 (by omega)).1 hc4.2
     omega
    ·try simp only [nn] at hc4
     have hfin : s.take (uCi (!ins) (s.drop (k + 1)) + (k + 1))=uBf s:=by
      by_cases hlt : k + 1 < s.length
      ·exact hnext hlt (by omega)
      ·exact hlast (by omega) _
     refine uAp ?_;refine uAb ?_;refine uAa rfl rfl rfl (uAc rfl gU) ?_;refine uAa rfl rfl rfl (uAz rfl rfl gU gU rfl (IntWalk.i64_in _ (by omega))) ?_;refine uAa rfl rfl rfl (uAe rfl gU) ?_;refine uAf ?_;refine ⟨(k + 1,!ins),?_,?_,uAj (⟨⟨_,rfl,?_⟩,⟨⟨_,rfl,?_⟩,⟨sx rfl,trivial⟩⟩⟩) trivial trivial⟩
     all_goals (first|rfl|omega|exact ⟨by omega,hfin⟩)
   ·try simp only [nn] at hc3
    rw[if_neg (by omega)] at hcut hnext
    refine uAp ?_;refine uAd (uAb ?_);refine uAa rfl rfl rfl (uAc rfl gU) ?_;refine uAa rfl rfl rfl (uA1 rfl gU) ?_;refine uAa rfl rfl rfl (uAc rfl gU) ?_;refine uAa rfl rfl rfl (uAc rfl gU) ?_;refine uAa rfl rfl rfl (uAz rfl rfl (fun hh=>hh) gU rfl (IntWalk.i64_in _ (by omega))) ?_;refine uAa rfl rfl rfl (uAc rfl gU) ?_;refine uAa rfl rfl rfl (uCm rfl (fun hh=>hh) (Tryz.underlying9)) ?_;refine uAa rfl rfl rfl (uAm rfl rfl (fun hh=>hh) (fun hh=>hh) rfl) ?_;refine uBd (s:=⟨[(0,_,_),(3,_,_),(4,_,_),(28,_,_),(33,_,_)],[],[],[]⟩) (uAj (⟨sx rfl,sx rfl,sx rfl,sx rfl,sx rfl,trivial⟩) trivial trivial) ?_;refine uAa rfl rfl rfl (uAJ rfl rfl gU (fun _ hi=>gP rfl hi)) ?_;refine uAa rfl rfl rfl (uAc rfl gU) ?_;refine uAa rfl rfl rfl (uAc rfl gU) ?_;refine uAa rfl rfl rfl (uAc rfl gU) ?_;refine uAa rfl rfl rfl (uAc rfl gU) ?_;refine uAa rfl rfl rfl (uAz rfl rfl (fun hh=>hh) gU rfl (IntWalk.i64_in _ (by omega))) ?_;refine uAa rfl rfl rfl (uBL (l:=k) (h':=(k + 2)) rfl (fun hh=>hh) Tryz.underlying9 (fun _=>⟨_,_,_,rfl,(fun hh=>hh),by first|omega|(simp at hh ⊢; omega)⟩) (fun _=>⟨_,_,_,rfl,(fun hh=>hh),by first|omega|(simp at hh ⊢; omega)⟩) (fun hh=>by first|omega|(simp at hh ⊢; omega)) (fun hh=>by first|omega|(simp at hh ⊢; omega))) ?_
    refine uAa rfl rfl rfl (uA3 rfl rfl (fun hh=>hh) gU rfl) ?_;refine uAa rfl rfl rfl (uAJ rfl rfl gU (fun _ hi=>gP rfl hi)) ?_;refine uAf ?_;refine uAk (s:=⟨[(0,_,_),(3,_,_),(4,_,_),(42,_,_)],[],[],[]⟩) (uAj (⟨sx rfl,sx rfl,sx rfl,sx rfl,trivial⟩) trivial trivial) ?_;refine uAo rfl (fun hc4=>?_) (fun hc4=>?_)
    ·try simp only [nn] at hc4
     have := (h35 (by omega)).1 hc4.2
     have hfin:=hcut (by omega) ⟨hc4.1.1,this⟩
     refine uAd (uAb ?_);refine uAa rfl rfl rfl (uAc rfl gU) ?_;refine uAa rfl rfl rfl (uAc rfl gU) ?_;refine uAa rfl rfl rfl (uBL (h':=k) rfl gU Tryz.underlying9 (fun _=>rfl) (fun _=>⟨_,_,_,rfl,gU,by first|omega|(simp at hh ⊢; omega)⟩) (fun hh=>by first|omega|(simp at hh ⊢; omega)) (fun hh=>by first|omega|(simp at hh ⊢; omega))) ?_;refine uAa rfl rfl rfl (uAe rfl gU) ?_;refine uAf ?_;refine uAq ?_
     repeat(first|refine tR ?_|refine bR ?_)
     refine uAu rfl ?_ trivial
     (rw[← hfin]; rfl)
    ·try simp only [nn] at hc4
     have hfin : s.take (uCi ins (s.drop (k + 1)) + (k + 1))=uBf s:=by
      by_cases hlt : k + 1 < s.length
      ·refine hnext hlt ?_
       rintro ⟨q1,q2⟩
       have q3:=(h35 hlt).2 q2
       rcases hc4 with z | z
       ·rcases z with z | z
        ·rw[q1] at z; simp at z
        ·omega
       ·exact z q3
      ·exact hlast (by omega) _
     refine uAp ?_;refine uAb ?_;refine uAa rfl rfl rfl (uAc rfl gU) ?_;refine uAa rfl rfl rfl (uAz rfl rfl gU gU rfl (IntWalk.i64_in _ (by omega))) ?_;refine uAa rfl rfl rfl (uAe rfl gU) ?_;refine uAf ?_;refine ⟨(k + 1,ins),?_,?_,uAj (⟨⟨_,rfl,?_⟩,⟨⟨_,rfl,?_⟩,⟨sx rfl,trivial⟩⟩⟩) trivial trivial⟩
     all_goals (first|rfl|omega|exact ⟨by omega,hfin⟩)
 ·try simp only [nn] at hc
  rw[List.take_of_length_le (by omega)] at hi
  refine uAL ?_
  repeat(first|refine uAE ?_|refine uAF ?_|refine uAB rfl ?_)
  refine uAd (uAb ?_);refine uAa rfl rfl rfl (uAc rfl gU) ?_;refine uAa rfl rfl rfl (uAe rfl gU) ?_;refine uAf ?_;refine uAq ?_
  repeat(first|refine tR ?_|refine bR ?_)
  refine uAu rfl ?_ trivial
  (rw[← hi]; rfl)
def uFO : List UInt8→Nat→UInt8→Int→Int
 | [],_,_,r=>r
 | b :: l,k,c,r=>uFO l (k + 1) c (if c.toNat=b.toNat then (k : Int) else r)
theorem uQN : ∀ n : Fin 256,uFO hexs 0 (UInt8.ofNat n.val) (-1)=if hexB (UInt8.ofNat n.val)=true then hexV (UInt8.ofNat n.val) else -1:=by decide +kernel
theorem uLx (c : UInt8) : uFO hexs 0 c (-1)=if hexB c=true then hexV c else -1:=by
 have := uQN ⟨c.toNat,c.toNat_lt⟩
 rwa [show UInt8.ofNat c.toNat=c from UInt8.ofNat_toNat] at this
def forms : List UInt8:=[110,10,116,9,34,34,92,92]
def uIm : List UInt8→UInt8→Option UInt8
 | a :: b :: l,c=>if c.toNat=a.toNat then some b else uIm l c
 | _,_=>none
theorem uPC {a b : Int} {n m : Int} (h : a=b) (hn : n=m) : X.tup [.c (.i .u8 a), .c (.i .i64 n)]=X.tup [.c (.i .u8 b), .c (.i .i64 m)]:=by rw[h,hn]
theorem uKu (s : List UInt8) (hs : s.length≤2000000) : Ctr sys 164 [xs s] [] (.tup [.c (.i .u8 ((escE s).1.toNat : Int)), .c (.i .i64 ((escE s).2 : Int))]) none []:=by
 have h8 : forms.length=8:=rfl
 have h16 : hexs.length=16:=rfl
 refine uAA Tryz.func164 rfl rfl rfl rfl rfl rfl ?_;refine uAd (uAb ?_);refine uAa rfl rfl rfl (uAe rfl gU) ?_;refine uAa rfl rfl rfl (uAe rfl gU) ?_;refine uAf ?_;refine uAd ?_;refine uAd (uAb ?_);refine uAa rfl rfl rfl (uAc rfl gU) ?_;refine uBS rfl rfl rfl rfl rfl gU (Tryz.underlying9) ?_ (fun hh=>by simp at hh); intro hlen;refine uAa rfl rfl rfl (uAm rfl rfl gU gU rfl) ?_;refine uAf ?_;refine uAk (s:=⟨[(0,_,_),(12,_,_)],[],[],[]⟩) (uAj (⟨sx rfl,sx rfl,trivial⟩) trivial trivial) ?_;refine uAo rfl (fun hc=>?_) (fun hc=>?_)
 ·try simp only [nn] at hc
  have : s=[]:=by cases s; rfl; simp at hc; omega
  subst this
  refine uAd (uAb ?_);refine uAa rfl rfl rfl (uAe rfl gU) ?_;refine uAa rfl rfl rfl (uAe rfl gU) ?_;refine uAf ?_;refine uAq ?_
  repeat(first|refine tR ?_|refine bR ?_)
  refine uAu rfl ?_ trivial
  rfl
 ·try simp only [nn] at hc
  have he:=uPS (s:=s) (k:=0) (by omega)
  rw[List.drop_zero,Nat.zero_add,Nat.zero_add] at he
  have hu:=(s.getD 0 0).toNat_lt
  refine uAp ?_;refine uAd (uAb ?_);refine uAa rfl rfl rfl (uAe rfl gU) ?_;refine uAf ?_;refine uAd ?_;refine uAd (uAb ?_);refine uAa rfl rfl rfl (uAe rfl gU) ?_;refine uAf ?_;refine uAt ?_;refine uAW (ι:=Nat) { t:=[(0,_,_),(4,_,_)],bx:=[],ow:=[] } (fun k=>[(5,true,xi (k : Int))]) (fun k=>[]) (fun k=>k≤8∧k % 2=0∧uIm (forms.drop k) (s.getD 0 0)=uIm forms (s.getD 0 0)) (fun k=>8 - k) (0) (⟨by omega,by omega,rfl⟩) (uAj (⟨sx rfl,sx rfl,sx rfl,trivial⟩) trivial trivial) ?_
  intro k hok
  dsimp only [List.cons_append,List.nil_append]
  obtain ⟨hk,hk2,hi⟩:=hok
  refine uAd ?_;refine uAd (uAb ?_);refine uAa rfl rfl rfl (uAc rfl gU) ?_;refine uAa rfl rfl rfl (uAc rfl gU) ?_;refine uBS rfl rfl rfl rfl rfl gU (Tryz.underlying9) ?_ (fun hh=>by simp at hh); intro hlen;refine uAa rfl rfl rfl (uAm rfl rfl gU gU rfl) ?_;refine uAf ?_;refine uAo rfl (fun hc2=>?_) (fun hc2=>?_)
  ·try simp only [nn] at hc2
   have hk3 : k < 7:=by simp at hc2; omega
   rw[uBj (by omega),uBj (by omega),uIm] at hi
   refine uAp ?_;refine uAd ?_;refine uAt ?_;refine uAd ?_;refine awp_drawn' (by kernel_rfl) ?_;refine uAl rfl rfl rfl rfl (uAc rfl gU) ?_;refine uAl rfl rfl rfl rfl (uAP (j:=0) rfl rfl gU gU Tryz.underlying9 (by first|omega|(show _ < 8; omega)|(simp at hh ⊢; omega)) (fun hh=>by first|omega|(show _ < 8; omega)|(simp at hh ⊢; omega))) ?_;refine uAl rfl rfl rfl rfl (uAc rfl gU) ?_;refine uAl rfl rfl rfl rfl (uAc rfl gU) ?_;refine uAl rfl rfl rfl rfl (uAP (j:=k) rfl rfl gU gU Tryz.underlying9 (by first|omega|(show _ < 8; omega)|(simp at hh ⊢; omega)) (fun hh=>by first|omega|(show _ < 8; omega)|(simp at hh ⊢; omega))) ?_;refine uAl rfl rfl rfl rfl (uAm rfl rfl gU gU rfl) ?_;refine uA2 (by kernel_rfl) ?_;refine uAk (s:=⟨[(0,_,_),(4,_,_),(5,_,_),(24,_,_)],[],[],[]⟩) (uAj (⟨sx rfl,sx rfl,sx rfl,sx rfl,trivial⟩) trivial trivial) ?_;refine uAo rfl (fun hc3=>?_) (fun hc3=>?_)
   ·try simp only [nn] at hc3
    have hq : (s.getD 0 0).toNat=(forms.getD k 0).toNat:=by have : ((s.getD 0 0).toNat : Int)=((forms.getD k 0).toNat : Int):=hc3; omega
    rw[if_pos hq] at hi
    have hesc : escE s=(forms.getD (k + 1) 0,1):=by
     have hks : k=0∨k=2∨k=4∨k=6:=by omega
     rw[he]
     rcases hks with rfl | rfl | rfl | rfl
     ·rw[if_pos (by rw[hq]; rfl)]; rfl
     ·rw[if_neg (by rw[hq]; decide),if_pos (by rw[hq]; rfl)]; rfl
     ·rw[if_neg (by rw[hq]; decide),if_neg (by rw[hq]; decide),if_pos (by rw[hq]; decide),UInt8.toNat_inj.1 hq]; rfl
     ·rw[if_neg (by rw[hq]; decide),if_neg (by rw[hq]; decide),if_pos (by rw[hq]; decide),UInt8.toNat_inj.1 hq]; rfl
    rw[hesc]
    refine uAd (uAb ?_);refine uAa rfl rfl rfl (uAc rfl gU) ?_;refine uAa rfl rfl rfl (uAc rfl gU) ?_;refine uAa rfl rfl rfl (uAz rfl rfl gU gU rfl (IntWalk.i64_in _ (by omega))) ?_;refine uAa rfl rfl rfl (uAP (j:=k + 1) rfl rfl gU gU Tryz.underlying9 (by first|omega|(show _ < 8; omega)|(simp at hh ⊢; omega)) (fun hh=>by first|omega|(show _ < 8; omega)|(simp at hh ⊢; omega))) ?_;refine uAa rfl rfl rfl (uAe rfl gU) ?_;refine uAa rfl rfl rfl (uAe rfl gU) ?_;refine uAf ?_;refine uAq ?_
    repeat(first|refine tR ?_|refine bR ?_)
    refine uAu rfl ?_ trivial
    rfl
   ·try simp only [nn] at hc3
    have hq : ¬(s.getD 0 0).toNat=(forms.getD k 0).toNat:=by intro q; exact hc3 (by show ((s.getD 0 0).toNat : Int)=((forms.getD k 0).toNat : Int); rw[q])
    rw[if_neg hq] at hi
    refine uAp ?_;refine uAb ?_;refine uAa rfl rfl rfl (uAc rfl gU) ?_;refine uAa rfl rfl rfl (uAz rfl rfl gU gU rfl (IntWalk.i64_in _ (by omega))) ?_;refine uAa rfl rfl rfl (uAe rfl gU) ?_;refine uAf ?_;refine ⟨k + 2,?_,?_,uAj (⟨⟨_,rfl,?_⟩,⟨sx rfl,sx rfl,trivial⟩⟩) trivial trivial⟩
    all_goals (first|rfl|omega|exact ⟨by omega,by omega,hi⟩)
  ·try simp only [nn] at hc2
   have hk3 : k=8:=by simp at hc2; omega
   rw[List.drop_of_length_le (by omega),show uIm [] (s.getD 0 0)=none from rfl] at hi
   have hno : (s.getD 0 0).toNat≠110∧(s.getD 0 0).toNat≠116∧(s.getD 0 0).toNat≠34∧(s.getD 0 0).toNat≠92:=by
    have hf : ∀ c : UInt8,uIm forms c=if c.toNat=110 then some 10 else if c.toNat=116 then some 9 else if c.toNat=34 then some 34 else if c.toNat=92 then some 92 else none:=fun c=>rfl
    rw[hf] at hi
    refine ⟨fun q=>?_,fun q=>?_,fun q=>?_,fun q=>?_⟩
    ·rw[if_pos q] at hi; cases hi
    ·rw[if_neg (by omega),if_pos q] at hi; cases hi
    ·rw[if_neg (by omega),if_neg (by omega),if_pos q] at hi; cases hi
    ·rw[if_neg (by omega),if_neg (by omega),if_neg (by omega),if_pos q] at hi; cases hi
   rw[if_neg hno.1,if_neg hno.2.1,if_neg (by omega)] at he
   refine uAL ?_
   repeat(first|refine uAE ?_|refine uAF ?_|refine uAB rfl ?_)
   refine uAd (uAb ?_);refine uAa rfl rfl rfl (uAe rfl gU) ?_;refine uAf ?_;refine uAk (s:=⟨[(0,_,_),(6,_,_)],[],[],[]⟩) (uAj (⟨sx rfl,sx rfl,trivial⟩) trivial trivial) ?_;refine uAd ?_;refine uAd (uAb ?_);refine uAa rfl rfl rfl (uAc rfl gU) ?_;refine uAa rfl rfl rfl (uAP (j:=0) rfl rfl gU gU Tryz.underlying9 (by first|omega|(show _ < 16; omega)|(simp at hh ⊢; omega)) (fun hh=>by first|omega|(show _ < 16; omega)|(simp at hh ⊢; omega))) ?_;refine uAa rfl rfl rfl (uAm rfl rfl gU gU rfl) ?_;refine uAa rfl rfl rfl (uAc rfl gU) ?_;refine uAa rfl rfl rfl (uAc rfl gU) ?_;refine uAa rfl rfl rfl (uCm rfl (fun hh=>hh) (Tryz.underlying9)) ?_;refine uAa rfl rfl rfl (uAm rfl rfl (fun hh=>hh) gU rfl) ?_;refine uAa rfl rfl rfl (uAO rfl rfl gU (fun _ hi=>gP rfl hi)) ?_;refine uAf ?_;refine uAk (s:=⟨[(0,_,_),(6,_,_),(36,_,_)],[],[],[]⟩) (uAj (⟨sx rfl,sx rfl,sx rfl,trivial⟩) trivial trivial) ?_;refine uAo rfl (fun hc3=>?_) (fun hc3=>?_)
   ·try simp only [nn] at hc3
    rw[if_neg (by omega)] at he
    rw[he]
    refine uAd (uAb ?_);refine uAa rfl rfl rfl (uAe rfl gU) ?_;refine uAa rfl rfl rfl (uAe rfl gU) ?_;refine uAf ?_;refine uAq ?_
    repeat(first|refine tR ?_|refine bR ?_)
    refine uAu rfl ?_ trivial
    rfl
   ·try simp only [nn] at hc3
    refine uAp ?_;refine uAd (uAb ?_);refine uAa rfl rfl rfl (uAe rfl gU) ?_;refine uAa rfl rfl rfl (uAe rfl gU) ?_;refine uAf ?_;refine uAd ?_;refine uAd (uAb ?_);refine uAa rfl rfl rfl (uAe rfl gU) ?_;refine uAf ?_;refine uAt ?_;refine uAW (ι:=Nat × Int × Int) { t:=[(0,_,_),(6,_,_)],bx:=[],ow:=[] } (fun q=>[(9,true,xi (q.1 : Int)),(7,true,xi q.2.1),(8,true,xi q.2.2)]) (fun q=>[]) (fun q=>q.1≤16 ∧ -1≤q.2.1∧q.2.1≤16 ∧ -1≤q.2.2∧q.2.2≤16∧uFO (hexs.drop q.1) q.1 (s.getD 1 0) q.2.1=uFO hexs 0 (s.getD 1 0) (-1)∧uFO (hexs.drop q.1) q.1 (s.getD 2 0) q.2.2=uFO hexs 0 (s.getD 2 0) (-1)) (fun q=>16 - q.1) ((0,-1,-1)) (⟨by simp,by simp,by simp,by simp,by simp,rfl,rfl⟩) (uAj (⟨sx rfl,sx rfl,sx rfl,sx rfl,sx rfl,trivial⟩) trivial trivial) ?_
    intro q hok
    dsimp only [List.cons_append,List.nil_append] at *
    obtain ⟨j,a,b⟩:=q
    dsimp only at hok ⊢
    obtain ⟨hj,ha0,ha1,hb0,hb1,hi1,hi2⟩:=hok
    refine uAd ?_;refine uAd (uAb ?_);refine uAa rfl rfl rfl (uAc rfl gU) ?_;refine uAa rfl rfl rfl (uAc rfl gU) ?_;refine uBS rfl rfl rfl rfl rfl gU (Tryz.underlying9) ?_ (fun hh=>by simp at hh); intro hlen;refine uAa rfl rfl rfl (uAm rfl rfl gU gU rfl) ?_;refine uAf ?_;refine uAo rfl (fun hc4=>?_) (fun hc4=>?_)
    ·try simp only [nn] at hc4
     have hj2 : j < 16:=by simp at hc4; omega
     rw[uBj (by omega),uFO] at hi1 hi2
     refine uAp ?_;refine uAd ?_;refine uAt ?_;refine uAd ?_;refine uAd ?_;refine awp_drawn' (by kernel_rfl) ?_;refine uAl rfl rfl rfl rfl (uAc rfl gU) ?_;refine uAl rfl rfl rfl rfl (uAP (j:=1) rfl rfl gU gU Tryz.underlying9 (by first|omega|(show _ < 16; omega)|(simp at hh ⊢; omega)) (fun hh=>by first|omega|(show _ < 16; omega)|(simp at hh ⊢; omega))) ?_;refine uAl rfl rfl rfl rfl (uAc rfl gU) ?_;refine uAl rfl rfl rfl rfl (uAc rfl gU) ?_;refine uAl rfl rfl rfl rfl (uAP (j:=j) rfl rfl gU gU Tryz.underlying9 (by first|omega|(show _ < 16; omega)|(simp at hh ⊢; omega)) (fun hh=>by first|omega|(show _ < 16; omega)|(simp at hh ⊢; omega))) ?_;refine uAl rfl rfl rfl rfl (uAm rfl rfl gU gU rfl) ?_;refine uA2 (by kernel_rfl) ?_;refine uAk (s:=⟨[(0,_,_),(6,_,_),(7,_,_),(8,_,_),(9,_,_),(48,_,_)],[],[],[]⟩) (uAj (⟨sx rfl,sx rfl,sx rfl,sx rfl,sx rfl,sx rfl,trivial⟩) trivial trivial) ?_;refine uAo rfl (fun hc5=>?_) (fun hc5=>?_)
     ·try simp only [nn] at hc5
      rw[if_pos (by have : ((s.getD 1 0).toNat : Int)=((hexs.getD j 0).toNat : Int):=hc5; omega)] at hi1
      refine uAb ?_;refine uAa rfl rfl rfl (uAc rfl gU) ?_;refine uAa rfl rfl rfl (uAe rfl gU) ?_;refine uAf ?_;refine uAd ?_;refine awp_drawn' (by kernel_rfl) ?_;refine uAl rfl rfl rfl rfl (uAc rfl gU) ?_;refine uAl rfl rfl rfl rfl (uAP (j:=2) rfl rfl gU gU Tryz.underlying9 (by first|omega|(show _ < 16; omega)|(simp at hh ⊢; omega)) (fun hh=>by first|omega|(show _ < 16; omega)|(simp at hh ⊢; omega))) ?_;refine uAl rfl rfl rfl rfl (uAc rfl gU) ?_;refine uAl rfl rfl rfl rfl (uAc rfl gU) ?_;refine uAl rfl rfl rfl rfl (uAP (j:=j) rfl rfl gU gU Tryz.underlying9 (by first|omega|(show _ < 16; omega)|(simp at hh ⊢; omega)) (fun hh=>by first|omega|(show _ < 16; omega)|(simp at hh ⊢; omega))) ?_;refine uAl rfl rfl rfl rfl (uAm rfl rfl gU gU rfl) ?_;refine uA2 (by kernel_rfl) ?_;refine uAk (s:=⟨[(0,_,_),(6,_,_),(7,_,_),(8,_,_),(9,_,_),(55,_,_)],[],[],[]⟩) (uAj (⟨sx rfl,sx rfl,sx rfl,sx rfl,sx rfl,sx rfl,trivial⟩) trivial trivial) ?_;refine uAo rfl (fun hc6=>?_) (fun hc6=>?_)
      ·try simp only [nn] at hc6
       rw[if_pos (by have : ((s.getD 2 0).toNat : Int)=((hexs.getD j 0).toNat : Int):=hc6; omega)] at hi2
       refine uAb ?_;refine uAa rfl rfl rfl (uAc rfl gU) ?_;refine uAa rfl rfl rfl (uAe rfl gU) ?_;refine uAf ?_;refine uAb ?_;refine uAa rfl rfl rfl (uAc rfl gU) ?_;refine uAa rfl rfl rfl (uAz rfl rfl gU gU rfl (IntWalk.i64_in _ (by omega))) ?_;refine uAa rfl rfl rfl (uAe rfl gU) ?_;refine uAf ?_;refine ⟨(j + 1,(j : Int),(j : Int)),?_,?_,uAj (⟨⟨_,rfl,?_⟩,⟨⟨_,rfl,?_⟩,⟨⟨_,rfl,?_⟩,⟨sx rfl,sx rfl,trivial⟩⟩⟩⟩) trivial trivial⟩
       all_goals (first|rfl|omega|(refine ⟨?_,?_,?_,?_,?_,hi1,hi2⟩ <;> (dsimp only; omega)))
      ·try simp only [nn] at hc6
       rw[if_neg (by intro q; exact hc6 (by show ((s.getD 2 0).toNat : Int)=((hexs.getD j 0).toNat : Int); rw[q]))] at hi2
       refine uAp ?_;refine uAb ?_;refine uAa rfl rfl rfl (uAc rfl gU) ?_;refine uAa rfl rfl rfl (uAz rfl rfl gU gU rfl (IntWalk.i64_in _ (by omega))) ?_;refine uAa rfl rfl rfl (uAe rfl gU) ?_;refine uAf ?_;refine ⟨(j + 1,(j : Int),b),?_,?_,uAj (⟨⟨_,rfl,?_⟩,⟨⟨_,rfl,?_⟩,⟨⟨_,rfl,?_⟩,⟨sx rfl,sx rfl,trivial⟩⟩⟩⟩) trivial trivial⟩
       all_goals (first|rfl|omega|(refine ⟨?_,?_,?_,?_,?_,hi1,hi2⟩ <;> (dsimp only; omega)))
     ·try simp only [nn] at hc5
      rw[if_neg (by intro q; exact hc5 (by show ((s.getD 1 0).toNat : Int)=((hexs.getD j 0).toNat : Int); rw[q]))] at hi1
      refine uAp ?_;refine uAd ?_;refine awp_drawn' (by kernel_rfl) ?_;refine uAl rfl rfl rfl rfl (uAc rfl gU) ?_;refine uAl rfl rfl rfl rfl (uAP (j:=2) rfl rfl gU gU Tryz.underlying9 (by first|omega|(show _ < 16; omega)|(simp at hh ⊢; omega)) (fun hh=>by first|omega|(show _ < 16; omega)|(simp at hh ⊢; omega))) ?_;refine uAl rfl rfl rfl rfl (uAc rfl gU) ?_;refine uAl rfl rfl rfl rfl (uAc rfl gU) ?_;refine uAl rfl rfl rfl rfl (uAP (j:=j) rfl rfl gU gU Tryz.underlying9 (by first|omega|(show _ < 16; omega)|(simp at hh ⊢; omega)) (fun hh=>by first|omega|(show _ < 16; omega)|(simp at hh ⊢; omega))) ?_;refine uAl rfl rfl rfl rfl (uAm rfl rfl gU gU rfl) ?_;refine uA2 (by kernel_rfl) ?_;refine uAk (s:=⟨[(0,_,_),(6,_,_),(7,_,_),(8,_,_),(9,_,_),(55,_,_)],[],[],[]⟩) (uAj (⟨sx rfl,sx rfl,sx rfl,sx rfl,sx rfl,sx rfl,trivial⟩) trivial trivial) ?_;refine uAo rfl (fun hc6=>?_) (fun hc6=>?_)
      ·try simp only [nn] at hc6
       rw[if_pos (by have : ((s.getD 2 0).toNat : Int)=((hexs.getD j 0).toNat : Int):=hc6; omega)] at hi2
       refine uAb ?_;refine uAa rfl rfl rfl (uAc rfl gU) ?_;refine uAa rfl rfl rfl (uAe rfl gU) ?_;refine uAf ?_;refine uAb ?_;refine uAa rfl rfl rfl (uAc rfl gU) ?_;refine uAa rfl rfl rfl (uAz rfl rfl gU gU rfl (IntWalk.i64_in _ (by omega))) ?_;refine uAa rfl rfl rfl (uAe rfl gU) ?_;refine uAf ?_;refine ⟨(j + 1,a,(j : Int)),?_,?_,uAj (⟨⟨_,rfl,?_⟩,⟨⟨_,rfl,?_⟩,⟨⟨_,rfl,?_⟩,⟨sx rfl,sx rfl,trivial⟩⟩⟩⟩) trivial trivial⟩
       all_goals (first|rfl|omega|(refine ⟨?_,?_,?_,?_,?_,hi1,hi2⟩ <;> (dsimp only; omega)))
      ·try simp only [nn] at hc6
       rw[if_neg (by intro q; exact hc6 (by show ((s.getD 2 0).toNat : Int)=((hexs.getD j 0).toNat : Int); rw[q]))] at hi2
       refine uAp ?_;refine uAb ?_;refine uAa rfl rfl rfl (uAc rfl gU) ?_;refine uAa rfl rfl rfl (uAz rfl rfl gU gU rfl (IntWalk.i64_in _ (by omega))) ?_;refine uAa rfl rfl rfl (uAe rfl gU) ?_;refine uAf ?_;refine ⟨(j + 1,a,b),?_,?_,uAj (⟨⟨_,rfl,?_⟩,⟨⟨_,rfl,?_⟩,⟨⟨_,rfl,?_⟩,⟨sx rfl,sx rfl,trivial⟩⟩⟩⟩) trivial trivial⟩
       all_goals (first|rfl|omega|(refine ⟨?_,?_,?_,?_,?_,hi1,hi2⟩ <;> (dsimp only; omega)))
    ·try simp only [nn] at hc4
     have hj2 : j=16:=by simp at hc4; omega
     rw[List.drop_of_length_le (by omega),uFO,uLx] at hi1 hi2
     refine uAL ?_
     repeat(first|refine uAE ?_|refine uAF ?_|refine uAB rfl ?_)
     refine uAd ?_;refine uAd (uAb ?_);refine uAa rfl rfl rfl (uAc rfl gU) ?_;refine uAa rfl rfl rfl (uAm rfl rfl gU gU rfl) ?_;refine uAa rfl rfl rfl (uAc rfl gU) ?_;refine uAa rfl rfl rfl (uAc rfl gU) ?_;refine uAa rfl rfl rfl (uAm rfl rfl (fun hh=>hh) gU rfl) ?_;refine uAa rfl rfl rfl (uAO rfl rfl gU (fun _ hi=>gP rfl hi)) ?_;refine uAf ?_;refine uAk (s:=⟨[(7,_,_),(8,_,_),(62,_,_)],[],[],[]⟩) (uAj (⟨sx rfl,sx rfl,sx rfl,trivial⟩) trivial trivial) ?_;refine uAo rfl (fun hc5=>?_) (fun hc5=>?_)
     ·try simp only [nn] at hc5
      rw[if_neg (by
       rintro ⟨-, -, q1,q2⟩
       have := uGN q1
       have := uGN q2
       rw[if_pos q1] at hi1
       rw[if_pos q2] at hi2
       omega)] at he
      rw[he]
      refine uAd (uAb ?_);refine uAa rfl rfl rfl (uAe rfl gU) ?_;refine uAa rfl rfl rfl (uAe rfl gU) ?_;refine uAf ?_;refine uAq ?_
      repeat(first|refine tR ?_|refine bR ?_)
      refine uAu rfl ?_ trivial
      rfl
     ·try simp only [nn] at hc5
      have x1 : hexB (s.getD 1 0)=true:=by
       by_cases q : hexB (s.getD 1 0)=true
       ·exact q
       ·rw[if_neg q] at hi1; omega
      have x2 : hexB (s.getD 2 0)=true:=by
       by_cases q : hexB (s.getD 2 0)=true
       ·exact q
       ·rw[if_neg q] at hi2; omega
      have x3:=uGN x1
      have x4:=uGN x2
      rw[if_pos x1] at hi1
      rw[if_pos x2] at hi2
      rw[if_pos ⟨by omega,by omega,x1,x2⟩] at he
      rw[he]
      refine uAp ?_;refine uAd (uAb ?_);refine uAa rfl rfl rfl (uAc rfl gU) ?_;refine uAa rfl rfl rfl (uAz rfl rfl gU gU rfl (IntWalk.i64_in _ (by omega))) ?_;refine uAa rfl rfl rfl (uAc rfl gU) ?_;refine uAa rfl rfl rfl (uAz rfl rfl gU gU rfl (IntWalk.i64_in _ (by omega))) ?_;refine uAa rfl rfl rfl (uF1 rfl gU ⟨_,Tryz.underlying3⟩ (Tryz.underlying5) (IntWalk.u8_in _ (by omega))) ?_;refine uAa rfl rfl rfl (uAe rfl gU) ?_;refine uAa rfl rfl rfl (uAe rfl gU) ?_;refine uAf ?_;refine uAq ?_
      repeat(first|refine tR ?_|refine bR ?_)
      refine uAu rfl ?_ trivial
      (refine uPC ?_ rfl; exact uQo (by omega) (by omega))
theorem uMS (s : List UInt8) (k : Nat) (hs : s.length≤2000000) : Ctr sys 164 [xs ((s.take s.length).drop k)] [] (.tup [.c (.i .u8 ((escE (s.drop k)).1.toNat : Int)), .c (.i .i64 ((escE (s.drop k)).2 : Int))]) none []:=by
 rw[List.take_length]
 exact uKu _ (by simp; omega)
theorem uMT (s : List UInt8) (h : 0 < s.length) (hs : s.length≤2000000) : Ctr sys 151 [xs s] [] (xsn (litE s)) none []:=by
 refine uAA Tryz.func151 rfl rfl rfl rfl rfl rfl ?_;refine uAd (uAb ?_);refine uAa rfl rfl rfl (uAe rfl gU) ?_;refine uAa rfl rfl rfl (uAe rfl gU) ?_;refine uAf ?_;refine uAd (uAb ?_);refine uAs rfl (uBe (.inr rfl) rfl rfl) ?_;refine uAf ?_;refine uAd ?_;refine uAd (uAb ?_);refine uAa rfl rfl rfl (uAe rfl gU) ?_;refine uAf ?_;refine uAt ?_;refine uAW (ι:=Nat × List UInt8) { t:=[(0,_,_)],bx:=[],ow:=[(.t 4,_)] } (fun p=>[(5,true,xi (p.1 : Int)),(4,true,xbs p.2)]) (fun p=>[]) (fun p=>p.1≤s.length∧p.2.length≤p.1 ∧ ∃ n,s.length < n + p.1∧litA n (s.drop p.1) p.1 p.2=litE s) (fun p=>s.length - p.1) ((1,[])) (⟨by dsimp only; omega,by simp,s.length + 1,by dsimp only; omega,rfl⟩) (uAj (⟨sx rfl,sx rfl,sx rfl,trivial⟩) trivial (⟨rfl,trivial⟩)) ?_
 intro p hok
 dsimp only [List.cons_append,List.nil_append] at *
 obtain ⟨k,out⟩:=p
 dsimp only at hok ⊢
 obtain ⟨hk,ho,n,hn,hi⟩:=hok
 obtain ⟨n,rfl⟩ : ∃ m,n=m + 1:=⟨n - 1,by omega⟩
 have hu:=(s.getD k 0).toNat_lt
 refine uAd ?_;refine uAd (uAb ?_);refine uAa rfl rfl rfl (uAc rfl gU) ?_;refine uAa rfl rfl rfl (uAc rfl gU) ?_;refine uBS rfl rfl rfl rfl rfl gU (Tryz.underlying9) ?_ (fun hh=>by simp at hh); intro hlen;refine uAa rfl rfl rfl (uAm rfl rfl gU gU rfl) ?_;refine uAf ?_;refine uAo rfl (fun hc=>?_) (fun hc=>?_)
 ·try simp only [nn] at hc
  rw[uNm (by omega)] at hi
  have hle:=uI1 (s.drop (k + 1))
  rw[List.length_drop] at hle
  refine uAp ?_;refine uAd ?_;refine uAt ?_;refine uAt ?_;refine uAd (uAb ?_);refine uAa rfl rfl rfl (uAc rfl gU) ?_;refine uAa rfl rfl rfl (uAc rfl gU) ?_;refine uAa rfl rfl rfl (uAP (j:=k) rfl rfl gU gU Tryz.underlying9 (by first|omega|(simp at hh ⊢; omega)) (fun hh=>by first|omega|(simp at hh ⊢; omega))) ?_;refine uAa rfl rfl rfl (uAm rfl rfl gU gU rfl) ?_;refine uAa rfl rfl rfl (uAe rfl gU) ?_;refine uAf ?_;refine uAk (s:=⟨[(0,_,_),(4,_,_),(5,_,_),(20,_,_)],[],[(.t 4,_)],[]⟩) (uAj (⟨sx rfl,sx rfl,sx rfl,sx rfl,trivial⟩) trivial (⟨rfl,trivial⟩)) ?_;refine uAo rfl (fun hc2=>?_) (fun hc2=>?_)
  ·try simp only [nn] at hc2
   rw[if_pos (by omega)] at hi
   refine uAd (uAb ?_);refine uAa rfl rfl rfl (uAc rfl gU) ?_;refine uAa rfl rfl rfl (uH8 (l:=out) rfl (by rfl) gU Tryz.underlying163 Tryz.underlying5 Tryz.underlying9) ?_;refine uAa rfl rfl rfl (uAc rfl gU) ?_;refine uAa rfl rfl rfl (uAz rfl rfl gU gU rfl (IntWalk.i64_in _ (by omega))) ?_;refine uAa rfl rfl rfl (uAe rfl gU) ?_;refine uAa rfl rfl rfl (uAe rfl gU) ?_;refine uAf ?_;refine uAq ?_
   repeat(first|refine tR ?_|refine bR ?_)
   refine uAu rfl ?_ trivial
   (rw[← hi]; rfl)
  ·try simp only [nn] at hc2
   rw[if_neg (by omega)] at hi
   refine uAd (uAb ?_);refine uAa rfl rfl rfl (uAc rfl gU) ?_;refine uAa rfl rfl rfl (uAc rfl gU) ?_;refine uAa rfl rfl rfl (uAP (j:=k) rfl rfl gU gU Tryz.underlying9 (by first|omega|(simp at hh ⊢; omega)) (fun hh=>by first|omega|(simp at hh ⊢; omega))) ?_;refine uAa rfl rfl rfl (uAm rfl rfl gU gU rfl) ?_;refine uAa rfl rfl rfl (uAe rfl gU) ?_;refine uAf ?_;refine uAk (s:=⟨[(0,_,_),(4,_,_),(5,_,_),(29,_,_)],[],[(.t 4,_)],[]⟩) (uAj (⟨sx rfl,sx rfl,sx rfl,sx rfl,trivial⟩) trivial (⟨rfl,trivial⟩)) ?_;refine uAo rfl (fun hc3=>?_) (fun hc3=>?_)
   ·try simp only [nn] at hc3
    rw[if_pos (by omega)] at hi
    refine uAd (uAb ?_);refine uAa rfl rfl rfl (uAc rfl gU) ?_;refine uAa rfl rfl rfl (uAc rfl gU) ?_;refine uAa rfl rfl rfl (uAz rfl rfl gU gU rfl (IntWalk.i64_in _ (by omega))) ?_;refine uAa rfl rfl rfl (uBL (l:=(k + 1)) rfl gU Tryz.underlying9 (fun _=>⟨_,_,_,rfl,gU,by first|omega|(simp at hh ⊢; omega)⟩) (fun _=>rfl) (fun hh=>by first|omega|(simp at hh ⊢; omega)) (fun hh=>by first|omega|(simp at hh ⊢; omega))) ?_;refine uAx rfl rfl rfl rfl rfl rfl gU gU (uMS s (k + 1) (by omega)) rfl ?_;refine uAa rfl rfl rfl (uAc rfl gU) ?_;refine uAa rfl rfl rfl (uAv rfl gU rfl) ?_;refine uAa rfl rfl rfl (uAv rfl gU rfl) ?_;refine uAa rfl rfl rfl (uAe rfl gU) ?_;refine uAa rfl rfl rfl (uAe rfl gU) ?_;refine uAf ?_;refine uAk (s:=⟨[(0,_,_),(4,_,_),(5,_,_),(6,_,_),(7,_,_)],[],[(.t 4,_)],[]⟩) (uAj (⟨sx rfl,sx rfl,sx rfl,sx rfl,sx rfl,trivial⟩) trivial (⟨rfl,trivial⟩)) ?_;refine uAd ?_;refine uAd (uAb ?_);refine uAa rfl rfl rfl (uAc rfl gU) ?_;refine uAa rfl rfl rfl (uAm rfl rfl gU gU rfl) ?_;refine uAf ?_;refine uAo rfl (fun hc4=>?_) (fun hc4=>?_)
    ·try simp only [nn] at hc4
     rw[if_pos (by omega)] at hi
     refine uAd (uAb ?_);refine uAa rfl rfl rfl (uAe rfl gU) ?_;refine uAa rfl rfl rfl (uAe rfl gU) ?_;refine uAf ?_;refine uAq ?_
     repeat(first|refine tR ?_|refine bR ?_)
     refine uAu rfl ?_ trivial
     (rw[← hi]; rfl)
    ·try simp only [nn] at hc4
     rw[if_neg (by omega)] at hi
     refine uAp ?_;refine uAd (uAb ?_);refine uAs rfl (uAV (.inl rfl) rfl rfl rfl) ?_;refine uAa rfl rfl rfl (uAc rfl gU) ?_;refine uAR (xs:=[_]) rfl rfl rfl rfl rfl rfl rfl rfl rfl gU rfl ?_;refine uAs rfl (uA0 rfl rfl rfl rfl rfl rfl rfl (by first|omega|(simp only [List.length_append,List.length_singleton,uC0,uAi]; omega)) (by first|omega|(simp only [List.length_append,List.length_singleton,uC0,uAi]; omega))) ?_;refine uAs rfl (uAV (.inr rfl) rfl rfl rfl) ?_;refine uAf ?_;refine uAk (s:=⟨[(0,_,_),(4,_,_),(5,_,_),(7,_,_)],[],[(.t 4,_)],[]⟩) (uAj (⟨sx rfl,sx rfl,sx rfl,sx rfl,trivial⟩) trivial (⟨rfl,trivial⟩)) ?_;refine uAb ?_;refine uAa rfl rfl rfl (uAc rfl gU) ?_;refine uAa rfl rfl rfl (uAc rfl gU) ?_;refine uAa rfl rfl rfl (uAz rfl rfl gU gU rfl (IntWalk.i64_in _ (by omega))) ?_;refine uAa rfl rfl rfl (uAe rfl gU) ?_;refine uAf ?_;refine uAb ?_;refine uAa rfl rfl rfl (uAc rfl gU) ?_;refine uAa rfl rfl rfl (uAz rfl rfl gU gU rfl (IntWalk.i64_in _ (by omega))) ?_;refine uAa rfl rfl rfl (uAe rfl gU) ?_;refine uAf ?_;refine ⟨(k + 1 + (escE (s.drop (k + 1))).2,out++[(escE (s.drop (k + 1))).1]),?_,?_,uAj (⟨⟨_,rfl,?_⟩,⟨⟨_,rfl,?_⟩,⟨sx rfl,trivial⟩⟩⟩) trivial (⟨rfl,trivial⟩)⟩
     all_goals (first|rfl|omega|exact tx (uKI out (escE (s.drop (k + 1))).1 _ rfl)|exact tx (uBc (by omega))|(refine ⟨?_,?_,n,?_,hi⟩ <;> (simp only [List.length_append,List.length_singleton]; omega)))
   ·try simp only [nn] at hc3
    rw[if_neg (by omega)] at hi
    refine uAd (uAb ?_);refine uAa rfl rfl rfl (uAc rfl gU) ?_;refine uAa rfl rfl rfl (uAc rfl gU) ?_;refine uAa rfl rfl rfl (uAP (j:=k) rfl rfl gU gU Tryz.underlying9 (by first|omega|(simp at hh ⊢; omega)) (fun hh=>by first|omega|(simp at hh ⊢; omega))) ?_;refine uAa rfl rfl rfl (uAm rfl rfl gU gU rfl) ?_;refine uAa rfl rfl rfl (uAc rfl gU) ?_;refine uAa rfl rfl rfl (uAc rfl gU) ?_;refine uAa rfl rfl rfl (uAc rfl gU) ?_;refine uAa rfl rfl rfl (uAP (j:=k) rfl rfl (fun hh=>hh) (fun hh=>hh) Tryz.underlying9 (by first|omega|(simp at hh ⊢; omega)) (fun hh=>by first|omega|(simp at hh ⊢; omega))) ?_;refine uAa rfl rfl rfl (uAm rfl rfl (fun hh=>hh) gU rfl) ?_;refine uAa rfl rfl rfl (uAO rfl rfl gU (fun _ hi=>gP rfl hi)) ?_;refine uAa rfl rfl rfl (uAe rfl gU) ?_;refine uAf ?_;refine uAk (s:=⟨[(0,_,_),(4,_,_),(5,_,_),(51,_,_)],[],[(.t 4,_)],[]⟩) (uAj (⟨sx rfl,sx rfl,sx rfl,sx rfl,trivial⟩) trivial (⟨rfl,trivial⟩)) ?_;refine uAo rfl (fun hc4=>?_) (fun hc4=>?_)
    ·try simp only [nn] at hc4
     rw[if_pos (by omega)] at hi
     refine uAd (uAb ?_);refine uAa rfl rfl rfl (uAe rfl gU) ?_;refine uAa rfl rfl rfl (uAe rfl gU) ?_;refine uAf ?_;refine uAq ?_
     repeat(first|refine tR ?_|refine bR ?_)
     refine uAu rfl ?_ trivial
     (rw[← hi]; rfl)
    ·try simp only [nn] at hc4
     rw[if_neg (by omega)] at hi
     refine uAb ?_;refine uAs rfl (uAV (.inl rfl) rfl rfl rfl) ?_;refine uAa rfl rfl rfl (uAc rfl gU) ?_;refine uAa rfl rfl rfl (uAc rfl gU) ?_;refine uAa rfl rfl rfl (uAP (j:=k) rfl rfl gU gU Tryz.underlying9 (by first|omega|(simp at hh ⊢; omega)) (fun hh=>by first|omega|(simp at hh ⊢; omega))) ?_;refine uAR (xs:=[_]) rfl rfl rfl rfl rfl rfl rfl rfl rfl gU rfl ?_;refine uAs rfl (uA0 rfl rfl rfl rfl rfl rfl rfl (by first|omega|(simp only [List.length_append,List.length_singleton,uC0,uAi]; omega)) (by first|omega|(simp only [List.length_append,List.length_singleton,uC0,uAi]; omega))) ?_;refine uAs rfl (uAV (.inr rfl) rfl rfl rfl) ?_;refine uAf ?_;refine uAk (s:=⟨[(0,_,_),(4,_,_),(5,_,_)],[],[(.t 4,_)],[]⟩) (uAj (⟨sx rfl,sx rfl,sx rfl,trivial⟩) trivial (⟨rfl,trivial⟩)) ?_;refine uAb ?_;refine uAa rfl rfl rfl (uAc rfl gU) ?_;refine uAa rfl rfl rfl (uAz rfl rfl gU gU rfl (IntWalk.i64_in _ (by omega))) ?_;refine uAa rfl rfl rfl (uAe rfl gU) ?_;refine uAf ?_;refine ⟨(k + 1,out++[s.getD k 0]),?_,?_,uAj (⟨⟨_,rfl,?_⟩,⟨⟨_,rfl,?_⟩,⟨sx rfl,trivial⟩⟩⟩) trivial (⟨rfl,trivial⟩)⟩
     all_goals (first|rfl|omega|exact tx (uKI out (s.getD k 0) _ rfl)|(refine ⟨?_,?_,n,?_,hi⟩ <;> (simp only [List.length_append,List.length_singleton]; omega)))
 ·try simp only [nn] at hc
  rw[uOb (List.drop_of_length_le (by omega))] at hi
  refine uAL ?_
  repeat(first|refine uAE ?_|refine uAF ?_|refine uAB rfl ?_)
  refine uAd (uAb ?_);refine uAa rfl rfl rfl (uAe rfl gU) ?_;refine uAa rfl rfl rfl (uAe rfl gU) ?_;refine uAf ?_;refine uAq ?_
  repeat(first|refine tR ?_|refine bR ?_)
  refine uAu rfl ?_ trivial
  (rw[← hi]; rfl)
abbrev xnum (s : List UInt8) (r : Bool × Nat × Int) : X:=.tup [.c (.s (s.take r.2.1)), .c (.i .i64 r.2.2), .c (.b r.1)]
theorem uI9 (s : List UInt8) (hs : s.length≤2000000) : Ctr sys 150 [xs s] [] (xnum s (numA s 0 0)) none []:=by
 refine uAA Tryz.func150 rfl rfl rfl rfl rfl rfl ?_;refine uAd (uAb ?_);refine uAa rfl rfl rfl (uAe rfl gU) ?_;refine uAa rfl rfl rfl (uAe rfl gU) ?_;refine uAa rfl rfl rfl (uAe rfl gU) ?_;refine uAf ?_;refine uAd (uAb ?_);refine uAa rfl rfl rfl (uAe rfl gU) ?_;refine uAa rfl rfl rfl (uAe rfl gU) ?_;refine uAf ?_;refine uAk (s:=⟨[(0,_,_),(5,_,_),(6,_,_)],[],[],[]⟩) (uAj (⟨sx rfl,sx rfl,sx rfl,trivial⟩) trivial trivial) ?_;refine uAd ?_;refine uAt ?_;refine uAW (ι:=Nat × Int) { t:=[(0,_,_)],bx:=[],ow:=[] } (fun p=>[(5,true,xi (p.1 : Int)),(6,true,xi p.2)]) (fun p=>[]) (fun p=>p.1≤s.length∧0≤p.2∧p.2≤9223372036854775807∧numA (s.drop p.1) p.1 p.2=numA s 0 0) (fun p=>s.length - p.1) ((0,0)) (⟨by simp,by simp,by simp,rfl⟩) (uAj (⟨sx rfl,sx rfl,sx rfl,trivial⟩) trivial trivial) ?_
 intro p hok
 dsimp only [List.cons_append,List.nil_append] at *
 obtain ⟨k,v⟩:=p
 dsimp only at hok ⊢
 obtain ⟨hk,hv0,hv1,hi⟩:=hok
 refine uAd ?_;refine uAd (uAb ?_);refine uAa rfl rfl rfl (uAc rfl gU) ?_;refine uAa rfl rfl rfl (uAc rfl gU) ?_;refine uBS rfl rfl rfl rfl rfl gU (Tryz.underlying9) ?_ (fun hh=>by simp at hh); intro hlen;refine uAa rfl rfl rfl (uAm rfl rfl gU gU rfl) ?_;refine uAa rfl rfl rfl (uAc rfl gU) ?_;refine uAa rfl rfl rfl (uAc rfl gU) ?_;refine uAa rfl rfl rfl (uAc rfl gU) ?_;refine uAa rfl rfl rfl (uAP (j:=k) rfl rfl (fun hh=>hh) (fun hh=>hh) Tryz.underlying9 (by first|omega|(simp at hh ⊢; omega)) (fun hh=>by first|omega|(simp at hh ⊢; omega))) ?_;refine uAx rfl rfl rfl rfl rfl rfl gU (fun hh=>gA ((fun hh=>hh) hh) (rfl)) (uDE _ _ rfl) rfl ?_;refine uAa rfl rfl rfl (uAm rfl rfl (fun hh=>hh) gU rfl) ?_;refine uAa rfl rfl rfl (uAJ rfl rfl gU (fun _ hi=>gP rfl hi)) ?_;refine uAf ?_;refine uAk (s:=⟨[(0,_,_),(5,_,_),(6,_,_),(18,_,_)],[],[],[]⟩) (uAj (⟨sx rfl,sx rfl,sx rfl,sx rfl,trivial⟩) trivial trivial) ?_;refine uAo rfl (fun hc=>?_) (fun hc=>?_)
 ·try simp only [nn,uAi,Tk.rows_len] at hc
  have hd:=(uEs (s.getD k 0)).2.1.1 hc.2
  have hd2:=uMN hd
  rw[uBj (by omega),numA,if_pos hd] at hi
  refine uAp ?_;refine uAt ?_;refine uAd (uAb ?_);refine uAa rfl rfl rfl (uAc rfl gU) ?_;refine uAa rfl rfl rfl (uAc rfl gU) ?_;refine uAa rfl rfl rfl (uAP (j:=k) rfl rfl gU gU Tryz.underlying9 (by first|omega|(simp at hh ⊢; omega)) (fun hh=>by first|omega|(simp at hh ⊢; omega))) ?_;refine uAa rfl rfl rfl (uAz rfl rfl gU gU rfl (IntWalk.u8_in _ (by omega))) ?_;refine uAa rfl rfl rfl (uF1 rfl gU ⟨_,Tryz.underlying5⟩ (Tryz.underlying2) (IntWalk.i64_in _ (by omega))) ?_;refine uAa rfl rfl rfl (uAe rfl gU) ?_;refine uAf ?_;refine uAk (s:=⟨[(0,_,_),(5,_,_),(6,_,_),(7,_,_)],[],[],[]⟩) (uAj (⟨sx rfl,sx rfl,sx rfl,sx rfl,trivial⟩) trivial trivial) ?_;refine uAd ?_;refine uAd (uAb ?_);refine uAa rfl rfl rfl (uAc rfl gU) ?_;refine uAa rfl rfl rfl (uAc rfl gU) ?_;refine uAa rfl rfl rfl (uAz rfl rfl gU gU rfl (IntWalk.i64_in _ (by omega))) ?_;refine uAa rfl rfl rfl (uNe rfl rfl gU gU (fun hh=>by first|omega|(simp at hh ⊢; omega)) (fun hh=>(congrArg IntKind.i64.wrap (Int.tdiv_eq_ediv_of_nonneg (by first|omega|(simp at hh ⊢; omega)))).trans (IntWalk.i64_in _ (by omega)))) ?_;refine uAa rfl rfl rfl (uAm rfl rfl gU gU rfl) ?_;refine uAf ?_;refine uAk (s:=⟨[(0,_,_),(5,_,_),(6,_,_),(7,_,_),(28,_,_)],[],[],[]⟩) (uAj (⟨sx rfl,sx rfl,sx rfl,sx rfl,sx rfl,trivial⟩) trivial trivial) ?_
  refine uAo rfl (fun hc2=>?_) (fun hc2=>?_)
  ·try simp only [nn,uAi,Tk.rows_len] at hc2
   rw[if_pos (by omega)] at hi
   refine uAd (uAb ?_);refine uAa rfl rfl rfl (uAe rfl gU) ?_;refine uAa rfl rfl rfl (uAe rfl gU) ?_;refine uAa rfl rfl rfl (uAe rfl gU) ?_;refine uAf ?_;refine uAq ?_
   repeat(first|refine tR ?_|refine bR ?_)
   refine uAu rfl ?_ trivial
   (rw[← hi]; rfl)
  ·try simp only [nn,uAi,Tk.rows_len] at hc2
   rw[if_neg (by omega)] at hi
   refine uAp ?_;refine uAd (uAb ?_);refine uAa rfl rfl rfl (uAc rfl gU) ?_;refine uAa rfl rfl rfl (uAz rfl rfl gU gU rfl (IntWalk.i64_in _ (by omega))) ?_;refine uAa rfl rfl rfl (uAc rfl gU) ?_;refine uAa rfl rfl rfl (uAz rfl rfl gU gU rfl (IntWalk.i64_in _ (by omega))) ?_;refine uAa rfl rfl rfl (uAe rfl gU) ?_;refine uAf ?_;refine uAk (s:=⟨[(0,_,_),(5,_,_),(6,_,_)],[],[],[]⟩) (uAj (⟨sx rfl,sx rfl,sx rfl,trivial⟩) trivial trivial) ?_;refine uAb ?_;refine uAa rfl rfl rfl (uAc rfl gU) ?_;refine uAa rfl rfl rfl (uAz rfl rfl gU gU rfl (IntWalk.i64_in _ (by omega))) ?_;refine uAa rfl rfl rfl (uAe rfl gU) ?_;refine uAf ?_;refine ⟨(k + 1,10 * v + (((s.getD k 0).toNat : Int) - 48)),?_,?_,uAj (⟨⟨_,rfl,?_⟩,⟨⟨_,rfl,?_⟩,⟨sx rfl,trivial⟩⟩⟩) trivial trivial⟩
   all_goals (first|rfl|omega|exact ⟨by omega,by omega,by omega,hi⟩)
 ·try simp only [nn,uAi,Tk.rows_len] at hc
  have hn : numA (s.drop k) k v=(true,k,v):=by
   by_cases hlt : k < s.length
   ·rw[uBj hlt,numA,if_neg]
    intro q
    have := (uEs (s.getD k 0)).2.1.2 q
    omega
   ·rw[List.drop_of_length_le (by omega)]; rfl
  rw[hn] at hi
  refine uAL ?_
  repeat(first|refine uAE ?_|refine uAF ?_|refine uAB rfl ?_)
  refine uAd (uAb ?_);refine uAa rfl rfl rfl (uAc rfl gU) ?_;refine uAa rfl rfl rfl (uAc rfl gU) ?_;refine uAa rfl rfl rfl (uBL (h':=k) rfl gU Tryz.underlying9 (fun _=>rfl) (fun _=>⟨_,_,_,rfl,gU,by first|omega|(simp at hh ⊢; omega)⟩) (fun hh=>by first|omega|(simp at hh ⊢; omega)) (fun hh=>by first|omega|(simp at hh ⊢; omega))) ?_;refine uAa rfl rfl rfl (uAc rfl gU) ?_;refine uAa rfl rfl rfl (uAe rfl gU) ?_;refine uAa rfl rfl rfl (uAe rfl gU) ?_;refine uAa rfl rfl rfl (uAe rfl gU) ?_;refine uAf ?_;refine uAq ?_
  repeat(first|refine tR ?_|refine bR ?_)
  refine uAu rfl ?_ trivial
  (rw[← hi]; rfl)
theorem uPW (c : UInt8) : (uBl (c.toNat : Int)=true→clsE c=2)∧(uBI (c.toNat : Int)=true→clsE c=3)∧(c.toNat=34→clsE c=5)∧(uBl (c.toNat : Int)≠true→uBI (c.toNat : Int)≠true→c.toNat≠34→(symB c=true→clsE c=4∨clsE c=1)∧(symB c≠true→clsE c=0∨clsE c=1)):=by
 refine ⟨(uEs c).1.2,(uEs c).2.1.2,fun h=>?_,fun h1 h2 h3=>⟨fun h4=>?_,fun h4=>?_⟩⟩
 ·unfold clsE
  rw[if_neg (by simp [uCu]; omega),if_neg (by simp [uBl]; omega),if_neg (by simp [uBI]; omega),if_pos h]
 ·unfold clsE
  rw[if_neg h1,if_neg h2,if_neg h3,if_pos h4]
  split <;> simp
 ·unfold clsE
  rw[if_neg h1,if_neg h2,if_neg h3,if_neg h4]
  split <;> simp
theorem uP2 {t u : Tk} {a b e : Int} (h : t=u) (h2 : a=b) : X.tup [.agg t.cells, .c (.i .i64 a), .c (.i .i64 e)]=X.tup [.agg u.cells, .c (.i .i64 b), .c (.i .i64 e)]:=by rw[h,h2]
theorem uLv (s : List UInt8) (k ki : Int) (h : 0 < s.length) (hs : s.length≤2000000) (hk : ki=k) (hw : clsE (s.getD 0 0)≠1) : Ctr sys 130 [xs s,xi ki] [] (xnx (uBK s k)) none []:=by
 subst hk
 have h1:=uLG s
 have h2 : (s.take (wdN s)).length=wdN s:=by rw[List.length_take]; omega
 have h3:=uMC s h
 have h4:=uGY s 0 0 (by omega)
 have h5 : (s.take (numA s 0 0).2.1).length=(numA s 0 0).2.1:=by rw[List.length_take]; omega
 obtain ⟨c1,c2,c3,c4⟩:=uPW (s.getD 0 0)
 obtain ⟨d1,d2,-⟩:=uEs (s.getD 0 0)
 refine uAA Tryz.func130 rfl rfl rfl rfl rfl rfl ?_;refine uAd (uAb ?_);refine uAs rfl (uAK rfl rfl rfl) ?_;refine uAa rfl rfl rfl (uAe rfl gU) ?_;refine uAa rfl rfl rfl (uAe rfl gU) ?_;refine uAf ?_;refine uAd ?_;refine uAd (uAb ?_);refine uAa rfl rfl rfl (uAc rfl gU) ?_;refine uAa rfl rfl rfl (uAP (j:=0) rfl rfl gU gU Tryz.underlying9 (by first|omega|(simp at hh ⊢; omega)) (fun hh=>by first|omega|(simp at hh ⊢; omega))) ?_;refine uAx rfl rfl rfl rfl rfl rfl gU gU (uDE _ _ rfl) rfl ?_;refine uAf ?_;refine uAk (s:=⟨[(0,_,_),(1,_,_),(4,_,_),(15,_,_)],[(.l 4,_)],[],[]⟩) (uAj (⟨sx rfl,sx rfl,sx rfl,sx rfl,trivial⟩) (⟨sx rfl,trivial⟩) trivial) ?_;refine uAt ?_;refine uAd (uAb ?_);refine uAa rfl rfl rfl (uAm rfl rfl gU gU rfl) ?_;refine uAa rfl rfl rfl (uAe rfl gU) ?_;refine uAf ?_;refine uAo rfl (fun hc=>?_) (fun hc=>?_)
 ·try simp only [nn,uAi,Tk.rows_len] at hc
  rw[uBK,if_pos (d1.1 hc)]
  refine uAd (uAb ?_);refine uAa rfl rfl rfl (uAc rfl gU) ?_;refine uAx rfl rfl rfl rfl rfl rfl gU gU (uNt _ (by omega)) rfl ?_;refine uAa rfl rfl rfl (uAe rfl gU) ?_;refine uAf ?_;refine uAk (s:=⟨[(1,_,_),(4,_,_),(7,_,_)],[(.l 4,_)],[],[]⟩) (uAj (⟨sx rfl,sx rfl,sx rfl,trivial⟩) (⟨sx rfl,trivial⟩) trivial) ?_;refine uAd ?_;refine uAd (uAb ?_);refine uAa rfl rfl rfl (uAc rfl gU) ?_;refine uBS rfl rfl rfl rfl rfl gU (Tryz.underlying9) ?_ (fun hh=>by simp at hh); intro hlen;refine uAa rfl rfl rfl (uAm rfl rfl gU gU rfl) ?_;refine uAf ?_;refine uAo rfl (fun hc2=>?_) (fun hc2=>?_)
  ·try simp only [nn,uAi,Tk.rows_len] at hc2
   refine uAd (uAb ?_);refine uAa rfl rfl rfl (uBg rfl Tryz.underlying134 rfl gU) ?_;refine uAs rfl (uAw rfl rfl rfl rfl rfl rfl rfl) ?_;refine uAa rfl rfl rfl (uAe rfl gU) ?_;refine uAa rfl rfl rfl (uAe rfl gU) ?_;refine uAf ?_;refine uAq ?_
   repeat(first|refine tR ?_|refine bR ?_)
   refine uAu rfl ?_ trivial
   (rw[if_pos (by omega)]; rfl)
  ·try simp only [nn,uAi,Tk.rows_len] at hc2
   refine uAp ?_;refine uAd (uAb ?_);refine uAa rfl rfl rfl (uAc rfl gU) ?_;refine uAa rfl rfl rfl (uAc rfl gU) ?_;refine uAa rfl rfl rfl (uBg rfl Tryz.underlying134 rfl gU) ?_;refine uAa rfl rfl rfl (uAc rfl gU) ?_;refine uBS rfl rfl rfl rfl rfl gU (Tryz.underlying9) ?_ (fun hh=>by simp at hh); intro hlen;refine uAs rfl (uAw rfl rfl rfl rfl rfl rfl rfl) ?_;refine uAa rfl rfl rfl (uAe rfl gU) ?_;refine uAa rfl rfl rfl (uAe rfl gU) ?_;refine uAf ?_;refine uAq ?_
   repeat(first|refine tR ?_|refine bR ?_)
   refine uAu rfl ?_ trivial
   (rw[if_neg (by omega)]; exact uP2 (t:=⟨1,s.take (wdN s),0,[],ki⟩) (u:=⟨1,s.take (wdN s),0,[],ki⟩) rfl (by dsimp only; omega))
 ·try simp only [nn,uAi,Tk.rows_len] at hc
  have e1 : ¬uBl ((s.getD 0 0).toNat : Int)=true:=fun q=>hc (c1 q)
  rw[uBK,if_neg e1]
  refine uAd (uAb ?_);refine uAa rfl rfl rfl (uAm rfl rfl gU gU rfl) ?_;refine uAa rfl rfl rfl (uAe rfl gU) ?_;refine uAf ?_;refine uAo rfl (fun hc2=>?_) (fun hc2=>?_)
  ·try simp only [nn,uAi,Tk.rows_len] at hc2
   rw[if_pos (d2.1 hc2)]
   refine uAd (uAb ?_);refine uAa rfl rfl rfl (uAc rfl gU) ?_;refine uAx rfl rfl rfl rfl rfl rfl gU gU (uI9 _ (by omega)) rfl ?_;refine uAa rfl rfl rfl (uAc rfl gU) ?_;refine uAa rfl rfl rfl (uAv rfl gU rfl) ?_;refine uAa rfl rfl rfl (uAv rfl gU rfl) ?_;refine uAa rfl rfl rfl (uAv rfl gU rfl) ?_;refine uAa rfl rfl rfl (uAe rfl gU) ?_;refine uAa rfl rfl rfl (uAe rfl gU) ?_;refine uBd (s:=⟨[(1,_,_),(4,_,_),(8,_,_),(9,_,_),(36,_,_)],[(.l 4,_)],[],[]⟩) (uAj (⟨sx rfl,sx rfl,sx rfl,sx rfl,sx rfl,trivial⟩) (⟨sx rfl,trivial⟩) trivial) ?_;refine uAa rfl rfl rfl (uAe rfl gU) ?_;refine uAf ?_;refine uAd ?_;refine uAd (uAb ?_);refine uAa rfl rfl rfl (uAc rfl gU) ?_;refine uAa rfl rfl rfl (uA1 rfl gU) ?_;refine uAf ?_;refine uAo rfl (fun hc3=>?_) (fun hc3=>?_)
   ·try simp only [nn,uAi,Tk.rows_len] at hc3
    refine uAd (uAb ?_);refine uAa rfl rfl rfl (uBg rfl Tryz.underlying134 rfl gU) ?_;refine uAs rfl (uAw rfl rfl rfl rfl rfl rfl rfl) ?_;refine uAa rfl rfl rfl (uAe rfl gU) ?_;refine uAa rfl rfl rfl (uAe rfl gU) ?_;refine uAf ?_;refine uAq ?_
    repeat(first|refine tR ?_|refine bR ?_)
    refine uAu rfl ?_ trivial
    (rw[if_neg (by rw[hc3]; exact Bool.false_ne_true)]; rfl)
   ·try simp only [nn,uAi,Tk.rows_len] at hc3
    refine uAp ?_;refine uAd (uAb ?_);refine uAa rfl rfl rfl (uAc rfl gU) ?_;refine uAa rfl rfl rfl (uAc rfl gU) ?_;refine uAa rfl rfl rfl (uBg rfl Tryz.underlying134 rfl gU) ?_;refine uAa rfl rfl rfl (uAc rfl gU) ?_;refine uBS rfl rfl rfl rfl rfl gU (Tryz.underlying9) ?_ (fun hh=>by simp at hh); intro hlen;refine uAs rfl (uAw rfl rfl rfl rfl rfl rfl rfl) ?_;refine uAa rfl rfl rfl (uAe rfl gU) ?_;refine uAa rfl rfl rfl (uAe rfl gU) ?_;refine uAf ?_;refine uAq ?_
    repeat(first|refine tR ?_|refine bR ?_)
    refine uAu rfl ?_ trivial
    (rw[if_pos hc3]; exact uP2 (t:=⟨2,[],(numA s 0 0).2.2,[],ki⟩) (u:=⟨2,[],(numA s 0 0).2.2,[],ki⟩) rfl (by dsimp only; omega))
  ·try simp only [nn,uAi,Tk.rows_len] at hc2
   have e2 : ¬uBI ((s.getD 0 0).toNat : Int)=true:=fun q=>hc2 (c2 q)
   rw[if_neg e2]
   refine uAd (uAb ?_);refine uAa rfl rfl rfl (uAm rfl rfl gU gU rfl) ?_;refine uAa rfl rfl rfl (uAe rfl gU) ?_;refine uAf ?_;refine uAk (s:=⟨[(0,_,_),(1,_,_),(4,_,_),(15,_,_),(45,_,_)],[(.l 4,_)],[],[]⟩) (uAj (⟨sx rfl,sx rfl,sx rfl,sx rfl,sx rfl,trivial⟩) (⟨sx rfl,trivial⟩) trivial) ?_;refine uAo rfl (fun hc3=>?_) (fun hc3=>?_)
   ·try simp only [nn,uAi,Tk.rows_len] at hc3
    have e3 : (s.getD 0 0).toNat=34:=by
     by_cases q : (s.getD 0 0).toNat=34
     ·exact q
     ·have := c4 e1 e2 q
      by_cases q2 : symB (s.getD 0 0)=true
      ·have := this.1 q2; omega
      ·have := this.2 q2; omega
    rw[if_pos e3]
    refine uAd (uAb ?_);refine uAa rfl rfl rfl (uAc rfl gU) ?_;refine uAx rfl rfl rfl rfl rfl rfl gU gU (uMT _ (by omega) (by omega)) rfl ?_;refine uAa rfl rfl rfl (uAc rfl gU) ?_;refine uAa rfl rfl rfl (uAv rfl gU rfl) ?_;refine uAa rfl rfl rfl (uAv rfl gU rfl) ?_;refine uAa rfl rfl rfl (uAe rfl gU) ?_;refine uAa rfl rfl rfl (uAe rfl gU) ?_;refine uAf ?_;refine uAk (s:=⟨[(1,_,_),(4,_,_),(11,_,_),(12,_,_)],[(.l 4,_)],[],[]⟩) (uAj (⟨sx rfl,sx rfl,sx rfl,sx rfl,trivial⟩) (⟨sx rfl,trivial⟩) trivial) ?_;refine uAd (uAb ?_);refine uAa rfl rfl rfl (uAc rfl gU) ?_;refine uAa rfl rfl rfl (uAm rfl rfl gU gU rfl) ?_;refine uAf ?_;refine uAo rfl (fun hc4=>?_) (fun hc4=>?_)
    ·try simp only [nn,uAi,Tk.rows_len] at hc4
     refine uAd (uAb ?_);refine uAa rfl rfl rfl (uAc rfl gU) ?_;refine uAa rfl rfl rfl (uAc rfl gU) ?_;refine uAa rfl rfl rfl (uBg rfl Tryz.underlying134 rfl gU) ?_;refine uAa rfl rfl rfl (uAc rfl gU) ?_;refine uAs rfl (uAw rfl rfl rfl rfl rfl rfl rfl) ?_;refine uAa rfl rfl rfl (uAe rfl gU) ?_;refine uAa rfl rfl rfl (uAe rfl gU) ?_;refine uAf ?_;refine uAq ?_
     repeat(first|refine tR ?_|refine bR ?_)
     refine uAu rfl ?_ trivial
     (rw[if_neg (by omega)]; rfl)
    ·try simp only [nn,uAi,Tk.rows_len] at hc4
     refine uAp ?_;refine uAd (uAb ?_);refine uAa rfl rfl rfl (uBg rfl Tryz.underlying134 rfl gU) ?_;refine uAs rfl (uAw rfl rfl rfl rfl rfl rfl rfl) ?_;refine uAa rfl rfl rfl (uAe rfl gU) ?_;refine uAa rfl rfl rfl (uAe rfl gU) ?_;refine uAf ?_;refine uAq ?_
     repeat(first|refine tR ?_|refine bR ?_)
     refine uAu rfl ?_ trivial
     (rw[if_pos (by omega)]; rfl)
   ·try simp only [nn,uAi,Tk.rows_len] at hc3
    have e3 : ¬(s.getD 0 0).toNat=34:=fun q=>hc3 (c3 q)
    rw[if_neg e3]
    refine uAd (uAb ?_);refine uAa rfl rfl rfl (uAm rfl rfl gU gU rfl) ?_;refine uAa rfl rfl rfl (uAe rfl gU) ?_;refine uAf ?_;refine uAo rfl (fun hc4=>?_) (fun hc4=>?_)
    ·try simp only [nn,uAi,Tk.rows_len] at hc4
     have e4 : symB (s.getD 0 0)=true:=by
      by_cases q2 : symB (s.getD 0 0)=true
      ·exact q2
      ·have := (c4 e1 e2 e3).2 q2; omega
     refine uAd (uAb ?_);refine uAa rfl rfl rfl (uAc rfl gU) ?_;refine uAa rfl rfl rfl (uBL (h':=1) rfl gU Tryz.underlying9 (fun _=>rfl) (fun _=>⟨_,_,_,rfl,gU,by first|omega|(simp at hh ⊢; omega)⟩) (fun hh=>by first|omega|(simp at hh ⊢; omega)) (fun hh=>by first|omega|(simp at hh ⊢; omega))) ?_;refine uAa rfl rfl rfl (uAc rfl gU) ?_;refine uAa rfl rfl rfl (uBg rfl Tryz.underlying134 rfl gU) ?_;refine uAs rfl (uAw rfl rfl rfl rfl rfl rfl rfl) ?_;refine uAa rfl rfl rfl (uAe rfl gU) ?_;refine uAa rfl rfl rfl (uAe rfl gU) ?_;refine uAf ?_;refine uAq ?_
     repeat(first|refine tR ?_|refine bR ?_)
     refine uAu rfl ?_ trivial
     (rw[if_pos e4]; rfl)
    ·try simp only [nn,uAi,Tk.rows_len] at hc4
     have e4 : ¬symB (s.getD 0 0)=true:=by
      intro q2
      have := (c4 e1 e2 e3).1 q2
      omega
     refine uAp ?_;refine uAd (uAb ?_);refine uAa rfl rfl rfl (uBg rfl Tryz.underlying134 rfl gU) ?_;refine uAs rfl (uAw rfl rfl rfl rfl rfl rfl rfl) ?_;refine uAa rfl rfl rfl (uAe rfl gU) ?_;refine uAa rfl rfl rfl (uAe rfl gU) ?_;refine uAf ?_;refine uAq ?_
     repeat(first|refine tR ?_|refine bR ?_)
     refine uAu rfl ?_ trivial
     (rw[if_neg e4]; rfl)
theorem uJV (s : List UInt8) (hs : s.length≤2000000) : Ctr sys 127 [xs s] [] (xss (lnsR s)) none []:=by
 refine uAA Tryz.func127 rfl rfl rfl rfl rfl rfl ?_;refine uAd (uAb ?_);refine uAs rfl (uBe (.inr rfl) rfl rfl) ?_;refine uAf ?_;refine uAd (uAb ?_);refine uAs rfl (uBe (.inr rfl) rfl rfl) ?_;refine uAf ?_;refine uAd (uAb ?_);refine uAa rfl rfl rfl (uAe rfl gU) ?_;refine uAf ?_;refine uAd ?_;refine uAd (uAb ?_);refine uAa rfl rfl rfl (uAe rfl gU) ?_;refine uAf ?_;refine uAt ?_;refine uAW (ι:=Nat × List UInt8 × List (List UInt8)) { t:=[(0,_,_)],bx:=[],ow:=[(.t 3,_)] } (fun p=>[(5,true,xi (p.1 : Int)),(4,true,xs p.2.1),(3,true,xss p.2.2)]) (fun p=>[]) (fun p=>p.1≤s.length∧p.2.1.length≤p.1∧p.2.2.length≤p.1∧lnsA (s.drop p.1) p.2.1 p.2.2=lnsR s) (fun p=>s.length - p.1) ((0,[],[])) (⟨by simp,by simp,by simp,rfl⟩) (uAj (⟨sx rfl,sx rfl,sx rfl,sx rfl,trivial⟩) trivial (⟨rfl,trivial⟩)) ?_
 intro p hok
 dsimp only [List.cons_append,List.nil_append] at *
 obtain ⟨k,line,out⟩:=p
 dsimp only at hok ⊢
 obtain ⟨hk,hl,ho,hi⟩:=hok
 refine uAd ?_;refine uAd (uAb ?_);refine uAa rfl rfl rfl (uAc rfl gU) ?_;refine uAa rfl rfl rfl (uAc rfl gU) ?_;refine uBS rfl rfl rfl rfl rfl gU (Tryz.underlying9) ?_ (fun hh=>by simp at hh); intro hlen;refine uAa rfl rfl rfl (uAm rfl rfl gU gU rfl) ?_;refine uAf ?_;refine uAo rfl (fun hc=>?_) (fun hc=>?_)
 ·try simp only [nn,uAi,Tk.rows_len] at hc
  rw[uBj (by omega),lnsA] at hi
  refine uAp ?_;refine uAd ?_;refine uAt ?_;refine uAd ?_;refine uAd (uAb ?_);refine uAa rfl rfl rfl (uAc rfl gU) ?_;refine uAa rfl rfl rfl (uAc rfl gU) ?_;refine uAa rfl rfl rfl (uAP (j:=k) rfl rfl gU gU Tryz.underlying9 (by first|omega|(simp at hh ⊢; omega)) (fun hh=>by first|omega|(simp at hh ⊢; omega))) ?_;refine uAa rfl rfl rfl (uAm rfl rfl gU gU rfl) ?_;refine uAf ?_;refine uAk (s:=⟨[(0,_,_),(3,_,_),(4,_,_),(5,_,_),(15,_,_)],[],[(.t 3,_)],[]⟩) (uAj (⟨sx rfl,sx rfl,sx rfl,sx rfl,sx rfl,trivial⟩) trivial (⟨rfl,trivial⟩)) ?_;refine uAo rfl (fun hc2=>?_) (fun hc2=>?_)
  ·try simp only [nn,uAi,Tk.rows_len] at hc2
   rw[if_pos (by omega)] at hi
   refine uAd (uAb ?_);refine uAs rfl (uAV (.inl rfl) rfl rfl rfl) ?_;refine uAa rfl rfl rfl (uAc rfl gU) ?_;refine uAR (xs:=[_]) rfl rfl rfl rfl rfl rfl rfl rfl rfl gU rfl ?_;refine uAs rfl (uA0 rfl rfl rfl rfl rfl rfl rfl (by first|omega|(simp only [List.length_append,List.length_singleton,Tk.rows_len,uAi]; omega)) (by first|omega|(simp only [List.length_append,List.length_singleton,Tk.rows_len,uAi]; omega))) ?_;refine uAs rfl (uAV (.inr rfl) rfl rfl rfl) ?_;refine uAf ?_;refine uAk (s:=⟨[(0,_,_),(3,_,_),(5,_,_)],[],[(.t 3,_)],[]⟩) (uAj (⟨sx rfl,sx rfl,sx rfl,trivial⟩) trivial (⟨rfl,trivial⟩)) ?_;refine uAd (uAb ?_);refine uAa rfl rfl rfl (uAe rfl gU) ?_;refine uAf ?_;refine uAL ?_
   repeat(first|refine uAE ?_|refine uAF ?_|refine uAB rfl ?_)
   refine uAb ?_;refine uAa rfl rfl rfl (uAc rfl gU) ?_;refine uAa rfl rfl rfl (uAz rfl rfl gU gU rfl (IntWalk.i64_in _ (by omega))) ?_;refine uAa rfl rfl rfl (uAe rfl gU) ?_;refine uAf ?_;refine ⟨(k + 1,[],out++[line]),?_,?_,uAj (⟨⟨_,rfl,?_⟩,⟨⟨_,rfl,?_⟩,⟨⟨_,rfl,?_⟩,⟨sx rfl,trivial⟩⟩⟩⟩) trivial (⟨rfl,trivial⟩)⟩
   all_goals (first|rfl|omega|exact tx (uDY out line)|(refine ⟨?_,?_,?_,hi⟩ <;> (simp <;> omega)))
  ·try simp only [nn,uAi,Tk.rows_len] at hc2
   rw[if_neg (by omega)] at hi
   have e1 : (s.take (k + 1)).drop k=[s.getD k 0]:=by
    rw[uBj (by simp; omega),List.drop_of_length_le (by simp; omega),uGe _ _ (by omega)]
   refine uAp ?_;refine uAb ?_;refine uAa rfl rfl rfl (uAc rfl gU) ?_;refine uAa rfl rfl rfl (uAc rfl gU) ?_;refine uAa rfl rfl rfl (uAc rfl gU) ?_;refine uAa rfl rfl rfl (uAc rfl gU) ?_;refine uAa rfl rfl rfl (uAz rfl rfl gU gU rfl (IntWalk.i64_in _ (by omega))) ?_;refine uAa rfl rfl rfl (uBL (l:=k) (h':=(k + 1)) rfl gU Tryz.underlying9 (fun _=>⟨_,_,_,rfl,gU,by first|omega|(simp at hh ⊢; omega)⟩) (fun _=>⟨_,_,_,rfl,gU,by first|omega|(simp at hh ⊢; omega)⟩) (fun hh=>by first|omega|(simp at hh ⊢; omega)) (fun hh=>by first|omega|(simp at hh ⊢; omega))) ?_;refine uAa rfl rfl rfl (uES rfl rfl gU gU (by first|omega|(simp only [List.length_append,List.length_drop,List.length_take]; omega))) ?_;refine uAa rfl rfl rfl (uAe rfl gU) ?_;refine uAf ?_;refine uAk (s:=⟨[(0,_,_),(3,_,_),(4,_,_),(5,_,_)],[],[(.t 3,_)],[]⟩) (uAj (⟨sx rfl,sx rfl,sx rfl,sx rfl,trivial⟩) trivial (⟨rfl,trivial⟩)) ?_;refine uAb ?_;refine uAa rfl rfl rfl (uAc rfl gU) ?_;refine uAa rfl rfl rfl (uAz rfl rfl gU gU rfl (IntWalk.i64_in _ (by omega))) ?_;refine uAa rfl rfl rfl (uAe rfl gU) ?_;refine uAf ?_;refine ⟨(k + 1,line++[s.getD k 0],out),?_,?_,uAj (⟨⟨_,rfl,?_⟩,⟨⟨_,rfl,?_⟩,⟨⟨_,rfl,?_⟩,⟨sx rfl,trivial⟩⟩⟩⟩) trivial (⟨rfl,trivial⟩)⟩
   all_goals (first|rfl|omega|exact tx (congrArg xs (by rw[e1]))|(refine ⟨?_,?_,?_,hi⟩ <;> (simp <;> omega)))
 ·try simp only [nn,uAi,Tk.rows_len] at hc
  rw[List.drop_of_length_le (by omega),lnsA] at hi
  refine uAL ?_
  repeat(first|refine uAE ?_|refine uAF ?_|refine uAB rfl ?_)
  refine uAd ?_;refine uAd (uAb ?_);refine uAa rfl rfl rfl (uAc rfl gU) ?_;refine uAa rfl rfl rfl (uA3 rfl rfl gU gU rfl) ?_;refine uAf ?_;refine uAk (s:=⟨[(3,_,_),(4,_,_),(28,_,_)],[],[(.t 3,_)],[]⟩) (uAj (⟨sx rfl,sx rfl,sx rfl,trivial⟩) trivial (⟨rfl,trivial⟩)) ?_;refine uAo rfl (fun hc2=>?_) (fun hc2=>?_)
  ·try simp only [nn,uAi,Tk.rows_len] at hc2
   rw[if_neg hc2] at hi
   refine uAb ?_;refine uAs rfl (uAV (.inl rfl) rfl rfl rfl) ?_;refine uAa rfl rfl rfl (uAc rfl gU) ?_;refine uAR (xs:=[_]) rfl rfl rfl rfl rfl rfl rfl rfl rfl gU rfl ?_;refine uAs rfl (uA0 rfl rfl rfl rfl rfl rfl rfl (by first|omega|(simp only [List.length_append,List.length_singleton,Tk.rows_len,uAi]; omega)) (by first|omega|(simp only [List.length_append,List.length_singleton,Tk.rows_len,uAi]; omega))) ?_;refine uAs rfl (uAV (.inr rfl) rfl rfl rfl) ?_;refine uAf ?_;refine uAk (s:=⟨[(3,_,_)],[],[(.t 3,_)],[]⟩) (uAj (⟨sx rfl,trivial⟩) trivial (⟨rfl,trivial⟩)) ?_;refine uAd (uAb ?_);refine uAs rfl (uAV (.inl rfl) rfl rfl rfl) ?_;refine uAs rfl (uAV (.inr rfl) rfl rfl rfl) ?_;refine uAf ?_;refine uAq ?_
   repeat(first|refine tR ?_|refine bR ?_)
   refine uAu rfl ?_ trivial
   (rw[← hi]; exact uDY out line)
  ·try simp only [nn,uAi,Tk.rows_len] at hc2
   rw[if_pos hc2] at hi
   refine uAp ?_;refine uAd (uAb ?_);refine uAs rfl (uAV (.inl rfl) rfl rfl rfl) ?_;refine uAs rfl (uAV (.inr rfl) rfl rfl rfl) ?_;refine uAf ?_;refine uAq ?_
   repeat(first|refine tR ?_|refine bR ?_)
   refine uAu rfl ?_ trivial
   (rw[← hi]; rfl)
theorem uMU (s : List UInt8) : (uBf s).length≤s.length:=by unfold uBf; rw[List.length_take]; omega
theorem uFT (s : List UInt8) (hs : s.length≤9223372036854775807) : Ctr sys 103 [xs s] [] (uP4 (tokR s)) none []:=by
 have hsl:=uOp s
 refine uAA Tryz.func103 rfl rfl rfl rfl rfl rfl ?_;refine uAd (uAb ?_);refine uAs rfl (uBe (.inr rfl) rfl rfl) ?_;refine uAa rfl rfl rfl (uAe rfl gU) ?_;refine uAa rfl rfl rfl (uAe rfl gU) ?_;refine uAf ?_;refine uAd ?_;refine uAd (uAb ?_);refine uAa rfl rfl rfl (uAc rfl gU) ?_;refine uBS rfl rfl rfl rfl rfl gU (Tryz.underlying9) ?_ (fun hh=>by simp at hh); intro hlen;refine uAa rfl rfl rfl (uAm rfl rfl gU gU rfl) ?_;refine uAf ?_;refine uAk (s:=⟨[(0,_,_),(14,_,_)],[],[],[]⟩) (uAj (⟨sx rfl,sx rfl,trivial⟩) trivial trivial) ?_;refine uAo rfl (fun hc=>?_) (fun hc=>?_)
 ·try simp only [nn,uAi,Tk.rows_len] at hc
  refine uAd (uAb ?_);refine uAs rfl (uBe (.inr rfl) rfl rfl) ?_;refine uAa rfl rfl rfl (uAe rfl gU) ?_;refine uAa rfl rfl rfl (uAe rfl gU) ?_;refine uAf ?_;refine uAq ?_
  repeat(first|refine tR ?_|refine bR ?_)
  refine uAu rfl ?_ trivial
  (rw[tokR,if_pos (by omega)]; rfl)
 ·try simp only [nn,uAi,Tk.rows_len] at hc
  rw[tokR,if_neg (by omega)]
  refine uAp ?_;refine uAd (uAb ?_);refine uAs rfl (uBe (.inr rfl) rfl rfl) ?_;refine uAf ?_;refine uAd (uAb ?_);refine uAa rfl rfl rfl (uAc rfl gU) ?_;refine uAx rfl rfl rfl rfl rfl rfl gU gU (uJV _ (by omega)) rfl ?_;refine uAa rfl rfl rfl (uAe rfl gU) ?_;refine uAf ?_;refine uAd ?_;refine uAd (uAb ?_);refine uAa rfl rfl rfl (uAe rfl gU) ?_;refine uAf ?_;refine uAk (s:=⟨[(5,_,_),(6,_,_),(7,_,_)],[],[(.t 5,_)],[]⟩) (uAj (⟨sx rfl,sx rfl,sx rfl,trivial⟩) trivial (⟨rfl,trivial⟩)) ?_;refine uAt ?_;refine uAW (ι:=Nat × List Tk) { t:=[(6,_,_)],bx:=[],ow:=[(.t 5,_)] } (fun p=>[(7,true,xi (p.1 : Int)),(5,true,xts p.2)]) (fun p=>[]) (fun p=>p.1≤(lnsR s).length∧p.2.length≤70000 * p.1∧uFE ((lnsR s).drop p.1) (p.1 + 1) p.2=uFE (lnsR s) 1 []) (fun p=>(lnsR s).length - p.1) ((0,[])) (⟨by simp,by simp,rfl⟩) (uAj (⟨sx rfl,sx rfl,sx rfl,trivial⟩) trivial (⟨rfl,trivial⟩)) ?_
  intro p hok
  dsimp only [List.cons_append,List.nil_append] at *
  obtain ⟨k,out⟩:=p
  dsimp only at hok ⊢
  obtain ⟨hk,ho,hi⟩:=hok
  have hL:=uOK s k
  have hB:=uMU ((lnsR s).getD k [])
  refine uAd ?_;refine uAd (uAb ?_);refine uAa rfl rfl rfl (uAc rfl gU) ?_;refine uAa rfl rfl rfl (uAc rfl gU) ?_;refine uAI rfl rfl rfl rfl rfl gU rfl rfl ?_ (fun hh=>by simp at hh); intro hlen;refine uAa rfl rfl rfl (uAm rfl rfl gU gU rfl) ?_;refine uAf ?_;refine uAo rfl (fun hc2=>?_) (fun hc2=>?_)
  ·try simp only [nn,uAi,Tk.rows_len] at hc2
   rw[uIT (d:=[]) (by omega),uFE] at hi
   refine uAp ?_;refine uAd ?_;refine uAt ?_;refine uAd (uAb ?_);refine uAa rfl rfl rfl (uAc rfl gU) ?_;refine uAa rfl rfl rfl (uAc rfl gU) ?_;refine uAa rfl rfl rfl (uAr rfl rfl gU gU rfl rfl rfl (fun hh=>uBP (by first|omega|(simp at hh ⊢; omega)))) ?_;refine uAa rfl rfl rfl (uAM rfl gU rfl rfl rfl) ?_;refine uAx rfl rfl rfl rfl rfl rfl gU gU (uNL _ (by omega)) rfl ?_;refine uAa rfl rfl rfl (uAe rfl gU) ?_;refine uAf ?_;refine uAk (s:=⟨[(5,_,_),(6,_,_),(7,_,_),(8,_,_)],[],[(.t 5,_)],[]⟩) (uAj (⟨sx rfl,sx rfl,sx rfl,sx rfl,trivial⟩) trivial (⟨rfl,trivial⟩)) ?_;refine uAt ?_;refine uAW (ι:=List UInt8 × List Tk) { t:=[(6,_,_),(7,_,_)],bx:=[],ow:=[(.t 5,_)] } (fun q=>[(8,true,xs q.1),(5,true,xts q.2)]) (fun q=>[]) (fun q=>q.1.length≤(uBf ((lnsR s).getD k [])).length∧q.2.length + q.1.length≤out.length + (uBf ((lnsR s).getD k [])).length ∧ ∃ n,q.1.length < n∧uCP n q.1 ((k + 1 : Nat) : Int) q.2=uCP ((uBf ((lnsR s).getD k [])).length + 1) (uBf ((lnsR s).getD k [])) ((k + 1 : Nat) : Int) out) (fun q=>q.1.length) ((uBf ((lnsR s).getD k []),out)) (⟨by simp,by simp,_,by dsimp only; omega,rfl⟩) (uAj (⟨sx rfl,sx rfl,sx rfl,sx rfl,trivial⟩) trivial (⟨rfl,trivial⟩)) ?_
   intro q hokq
   dsimp only [List.cons_append,List.nil_append] at *
   obtain ⟨l,o2⟩:=q
   dsimp only at hokq ⊢
   obtain ⟨hl,ho2,n,hn,hi2⟩:=hokq
   obtain ⟨n,rfl⟩ : ∃ m,n=m + 1:=⟨n - 1,by omega⟩
   refine uAd ?_;refine uAd (uAb ?_);refine uAa rfl rfl rfl (uAc rfl gU) ?_;refine uBS rfl rfl rfl rfl rfl gU (Tryz.underlying9) ?_ (fun hh=>by simp at hh); intro hlen;refine uAa rfl rfl rfl (uAm rfl rfl gU gU rfl) ?_;refine uAf ?_;refine uAo rfl (fun hc3=>?_) (fun hc3=>?_)
   ·try simp only [nn,uAi,Tk.rows_len] at hc3
    have hne : 0 < l.length:=by omega
    have hcons : l=l.getD 0 0 :: l.drop 1 := by have := uBj hne; rwa [List.drop_zero] at this
    have hx : uCP (n + 1) l ((k + 1 : Nat) : Int) o2=if uCu (l.getD 0 0)=true then uCP n (l.drop 1) ((k + 1 : Nat) : Int) o2 else if (uBK l ((k + 1 : Nat) : Int)).2.2≠0 then ([],(uBK l ((k + 1 : Nat) : Int)).2.2)
      else uCP n (l.drop (uBK l ((k + 1 : Nat) : Int)).2.1) ((k + 1 : Nat) : Int) (o2++[(uBK l ((k + 1 : Nat) : Int)).1]):=by
     generalize hg : l.getD 0 0=c at hcons ⊢
     generalize hg2 : l.drop 1=r at hcons ⊢
     subst hcons
     rw[uCP]
    rw[hx] at hi2
    refine uAp ?_;refine uAt ?_;refine uAd ?_;refine uAd (uAb ?_);refine uAa rfl rfl rfl (uAc rfl gU) ?_;refine uAa rfl rfl rfl (uAP (j:=0) rfl rfl gU gU Tryz.underlying9 (by first|omega|(simp at hh ⊢; omega)) (fun hh=>by first|omega|(simp at hh ⊢; omega))) ?_;refine uAx rfl rfl rfl rfl rfl rfl gU gU (uDE _ _ rfl) rfl ?_;refine uAa rfl rfl rfl (uAm rfl rfl gU gU rfl) ?_;refine uAf ?_;refine uAk (s:=⟨[(5,_,_),(6,_,_),(7,_,_),(8,_,_),(34,_,_)],[],[(.t 5,_)],[]⟩) (uAj (⟨sx rfl,sx rfl,sx rfl,sx rfl,sx rfl,trivial⟩) trivial (⟨rfl,trivial⟩)) ?_;refine uAo rfl (fun hc4=>?_) (fun hc4=>?_)
    ·try simp only [nn,uAi,Tk.rows_len] at hc4
     rw[if_pos ((uEs _).2.2.1 hc4)] at hi2
     refine uAd (uAb ?_);refine uAa rfl rfl rfl (uAc rfl gU) ?_;refine uAa rfl rfl rfl (uBL (l:=1) rfl gU Tryz.underlying9 (fun _=>⟨_,_,_,rfl,gU,by first|omega|(simp at hh ⊢; omega)⟩) (fun _=>rfl) (fun hh=>by first|omega|(simp at hh ⊢; omega)) (fun hh=>by first|omega|(simp at hh ⊢; omega))) ?_;refine uAa rfl rfl rfl (uAe rfl gU) ?_;refine uAf ?_;refine uAL ?_
     repeat(first|refine uAE ?_|refine uAF ?_|refine uAB rfl ?_)
     refine ⟨(l.drop 1,o2),?_,?_,uAj (⟨⟨_,rfl,?_⟩,⟨⟨_,rfl,?_⟩,⟨sx rfl,sx rfl,trivial⟩⟩⟩) trivial (⟨rfl,trivial⟩)⟩
     all_goals first|rfl|exact tx (congrArg xs (by rw[List.take_length]))|(simp only [List.take_length,List.length_drop]; omega)|(refine ⟨?_,?_,n,?_,hi2⟩ <;> (simp only [List.length_drop]; omega))
    ·try simp only [nn,uAi,Tk.rows_len] at hc4
     rw[if_neg (fun q=>hc4 ((uEs _).2.2.2 q))] at hi2
     have hfl:=uNk (s:=l) (k:=((k + 1 : Nat) : Int)) hne
     refine uAp ?_;refine uAd (uAb ?_);refine uAa rfl rfl rfl (uAc rfl gU) ?_;refine uAa rfl rfl rfl (uAc rfl gU) ?_;refine uAa rfl rfl rfl (uAz rfl rfl gU gU rfl (IntWalk.i64_in _ (by omega))) ?_;refine uAx rfl rfl rfl rfl rfl rfl gU gU (uLv _ ((k + 1 : Nat) : Int) _ hne (by omega) (by omega) hc4) rfl ?_;refine uAa rfl rfl rfl (uAc rfl gU) ?_;refine uAa rfl rfl rfl (uAv rfl gU rfl) ?_;refine uAa rfl rfl rfl (uAv rfl gU rfl) ?_;refine uAa rfl rfl rfl (uAv rfl gU rfl) ?_;refine uAs rfl (uAK rfl rfl rfl) ?_;refine uAs rfl (uAw rfl rfl rfl rfl rfl rfl rfl) ?_;refine uAa rfl rfl rfl (uAe rfl gU) ?_;refine uAa rfl rfl rfl (uAe rfl gU) ?_;refine uAf ?_;refine uAk (s:=⟨[(5,_,_),(6,_,_),(7,_,_),(8,_,_),(9,_,_),(10,_,_),(11,_,_)],[(.l 9,_)],[(.t 5,_)],[]⟩) (uAj (⟨sx rfl,sx rfl,sx rfl,sx rfl,sx rfl,sx rfl,sx rfl,trivial⟩) (⟨sx rfl,trivial⟩) (⟨rfl,trivial⟩)) ?_;refine uAd ?_;refine uAd (uAb ?_);refine uAa rfl rfl rfl (uAc rfl gU) ?_;refine uAa rfl rfl rfl (uAm rfl rfl gU gU rfl) ?_;refine uAf ?_;refine uAo rfl (fun hc5=>?_) (fun hc5=>?_)
     ·try simp only [nn,uAi,Tk.rows_len] at hc5
      rw[if_pos hc5] at hi2
      rw[← hi2,if_pos hc5] at hi
      refine uAd (uAb ?_);refine uAa rfl rfl rfl (uAc rfl gU) ?_;refine uAa rfl rfl rfl (uAz rfl rfl gU gU rfl (IntWalk.i64_in _ (by omega))) ?_;refine uAa rfl rfl rfl (uAc rfl gU) ?_;refine uAs rfl (uBe (.inr rfl) rfl rfl) ?_;refine uAa rfl rfl rfl (uAe rfl gU) ?_;refine uAa rfl rfl rfl (uAe rfl gU) ?_;refine uAf ?_;refine uAq ?_
      repeat(first|refine tR ?_|refine bR ?_)
      refine uAu rfl ?_ trivial
      (rw[← hi]; rfl)
     ·try simp only [nn,uAi,Tk.rows_len] at hc5
      have h4:=hfl.2 hc5
      rw[if_neg (fun q=>q hc5)] at hi2
      refine uAp ?_;refine uAd (uAb ?_);refine uAs rfl (uAV (.inl rfl) rfl rfl rfl) ?_;refine uAa rfl rfl rfl (uAn rfl gU rfl rfl rfl rfl rfl) ?_;refine uAR (xs:=[_]) rfl rfl rfl rfl rfl rfl rfl rfl rfl gU rfl ?_;refine uAs rfl (uA0 rfl rfl rfl rfl rfl rfl rfl (by first|omega|(simp only [List.length_append,List.length_singleton,Tk.rows_len,uAi]; omega)) (by first|omega|(simp only [List.length_append,List.length_singleton,Tk.rows_len,uAi]; omega))) ?_;refine uAs rfl (uAV (.inr rfl) rfl rfl rfl) ?_;refine uAf ?_;refine uAk (s:=⟨[(5,_,_),(6,_,_),(7,_,_),(8,_,_),(10,_,_)],[],[(.t 5,_)],[]⟩) (uAj (⟨sx rfl,sx rfl,sx rfl,sx rfl,sx rfl,trivial⟩) trivial (⟨rfl,trivial⟩)) ?_;refine uAb ?_;refine uAa rfl rfl rfl (uAc rfl gU) ?_;refine uAa rfl rfl rfl (uAc rfl gU) ?_;refine uAa rfl rfl rfl (uBL (l:=(uBK l ((k + 1 : Nat) : Int)).2.1) rfl gU Tryz.underlying9 (fun _=>⟨_,_,_,rfl,gU,by first|omega|(simp at hh ⊢; omega)⟩) (fun _=>rfl) (fun hh=>by first|omega|(simp at hh ⊢; omega)) (fun hh=>by first|omega|(simp at hh ⊢; omega))) ?_;refine uAa rfl rfl rfl (uAe rfl gU) ?_;refine uAf ?_;refine ⟨(l.drop (uBK l ((k + 1 : Nat) : Int)).2.1,o2++[(uBK l ((k + 1 : Nat) : Int)).1]),?_,?_,uAj (⟨⟨_,rfl,?_⟩,⟨⟨_,rfl,?_⟩,⟨sx rfl,sx rfl,trivial⟩⟩⟩) trivial (⟨rfl,trivial⟩)⟩
      all_goals first|rfl|exact tx (uOV o2 (uBK l ((k + 1 : Nat) : Int)).1)|exact tx (congrArg xs (by rw[List.take_length]))|(simp only [List.take_length,List.length_drop,List.length_append,List.length_singleton]; omega)|(refine ⟨?_,?_,n,?_,hi2⟩ <;> (simp only [List.length_drop,List.length_append,List.length_singleton]; omega))
   ·try simp only [nn,uAi,Tk.rows_len] at hc3
    have hnil : l=[]:=List.eq_nil_of_length_eq_zero (by omega)
    subst hnil
    rw[uCP] at hi2
    rw[← hi2] at hi
    refine uAL ?_
    repeat(first|refine uAE ?_|refine uAF ?_|refine uAB rfl ?_)
    refine uAb ?_;refine uAa rfl rfl rfl (uAc rfl gU) ?_;refine uAa rfl rfl rfl (uAz rfl rfl gU gU rfl (IntWalk.i64_in _ (by omega))) ?_;refine uAa rfl rfl rfl (uAe rfl gU) ?_;refine uAf ?_;refine ⟨(k + 1,o2),?_,?_,uAj (⟨⟨_,rfl,?_⟩,⟨⟨_,rfl,?_⟩,⟨sx rfl,trivial⟩⟩⟩) trivial (⟨rfl,trivial⟩)⟩
    all_goals first|rfl|omega|(refine ⟨by dsimp only; omega,by dsimp only; omega,?_⟩; exact hi)
  ·try simp only [nn,uAi,Tk.rows_len] at hc2
   rw[List.drop_of_length_le (by omega),uFE] at hi
   refine uAL ?_
   repeat(first|refine uAE ?_|refine uAF ?_|refine uAB rfl ?_)
   refine uAd (uAb ?_);refine uAs rfl (uAV (.inl rfl) rfl rfl rfl) ?_;refine uAs rfl (uAV (.inr rfl) rfl rfl rfl) ?_;refine uAa rfl rfl rfl (uAe rfl gU) ?_;refine uAa rfl rfl rfl (uAe rfl gU) ?_;refine uAf ?_;refine uAq ?_
   repeat(first|refine tR ?_|refine bR ?_)
   refine uAu rfl ?_ trivial
   (rw[← hi]; rfl)
theorem uFC (s : List UInt8) (hs : s.length≤9223372036854775807) : Ctr sys 111 [xs s] [] (xb (uAN s)) none []:=by
 refine uAA Tryz.func111 rfl rfl rfl rfl rfl rfl ?_;refine uAd (uAb ?_);refine uAa rfl rfl rfl (uAe rfl gU) ?_;refine uAf ?_;refine uAd (uAb ?_);refine uAa rfl rfl rfl (uAc rfl gU) ?_;refine uAa rfl rfl rfl (uA3 rfl rfl gU gU rfl) ?_;refine uAa rfl rfl rfl (uAc rfl gU) ?_;refine uAa rfl rfl rfl (uAc rfl gU) ?_;refine uAa rfl rfl rfl (uAP (j:=0) rfl rfl (fun hh=>hh) gU Tryz.underlying9 (by first|omega|(simp at hh ⊢; exact List.length_pos_iff.2 hh)|(simp at hh ⊢; omega)) (fun hh=>by first|omega|(simp at hh ⊢; exact List.length_pos_iff.2 hh)|(simp at hh ⊢; omega))) ?_;refine uAx rfl rfl rfl rfl rfl rfl gU (fun hh=>gA ((fun hh=>hh) hh) (rfl)) (uFR _) rfl ?_;refine uAa rfl rfl rfl (uAJ rfl rfl gU (fun _ hi=>gP rfl hi)) ?_;refine uAa rfl rfl rfl (uAc rfl gU) ?_;refine uAa rfl rfl rfl (uAc rfl gU) ?_;refine uAx rfl rfl rfl rfl rfl rfl gU (fun hh=>gA ((fun hh=>hh) hh) (rfl)) (uGK _ (by omega)) rfl ?_;refine uAa rfl rfl rfl (uAc rfl gU) ?_;refine uBd (s:=⟨[(0,_,_),(10,_,_),(12,_,_),(13,_,_)],[],[],[]⟩) (uAj (⟨sx rfl,sx rfl,sx rfl,sx rfl,trivial⟩) trivial trivial) ?_;refine uAa rfl rfl rfl (uCm rfl (fun hh=>hh) (Tryz.underlying9)) ?_;refine uAa rfl rfl rfl (uAm rfl rfl (fun hh=>hh) (fun hh=>hh) rfl) ?_;refine uAa rfl rfl rfl (uAJ rfl rfl gU (fun _ hi=>gP rfl hi)) ?_
 refine uAa rfl rfl rfl (uAc rfl gU) ?_;refine uAa rfl rfl rfl (uAc rfl gU) ?_;refine uAa rfl rfl rfl (uCm rfl (fun hh=>hh) (Tryz.underlying9)) ?_;refine uAa rfl rfl rfl (uAm rfl rfl (fun hh=>hh) gU rfl) ?_;refine uAa rfl rfl rfl (uAJ rfl rfl gU (fun _ hi=>gP rfl hi)) ?_;refine uAa rfl rfl rfl (uAe rfl gU) ?_;refine uAf ?_;refine uAq ?_
 repeat(first|refine tR ?_|refine bR ?_)
 refine uAu rfl ?_ trivial;refine uBY ?_
 unfold uAN
 rw[Bool.eq_iff_iff]
 simp only [Bool.and_eq_true,decide_eq_true_eq,bne_iff_ne,ne_eq]
 constructor
 ·rintro ⟨⟨⟨a,b⟩,c⟩,d⟩
  refine ⟨⟨⟨?_,b⟩,?_⟩,?_⟩
  ·simpa using a
  ·have c':=c; simp at c'; omega
  ·omega
 ·rintro ⟨⟨⟨a,b⟩,c⟩,d⟩
  refine ⟨⟨⟨?_,b⟩,?_⟩,?_⟩
  ·simpa using a
  ·simp; omega
  ·omega
theorem uNd (l : List (List UInt8)) (k : Nat) : (strR l).take k=strR (l.take k):=by simp [strR,List.map_take]
def uQa (a b : List (List UInt8)) : Bool:=decide (a=b)
theorem uFc (a b : List (List UInt8)) : Ctr sys 59 [xss a,xss b] [] (xb (uQa a b)) none []:=by
 have la:=uAi a
 have lb:=uAi b
 refine uAA Tryz.func59 rfl rfl rfl rfl rfl rfl ?_;refine uAd (uAb ?_);refine uAa rfl rfl rfl (uAe rfl gU) ?_;refine uAf ?_;refine uAd ?_;refine uAd (uAb ?_);refine uAa rfl rfl rfl (uAc rfl gU) ?_;refine uAI rfl rfl rfl rfl rfl gU rfl rfl ?_ (fun hh=>by simp at hh); intro hlen;refine uAa rfl rfl rfl (uAc rfl gU) ?_;refine uAI rfl rfl rfl rfl rfl gU rfl rfl ?_ (fun hh=>by simp at hh); intro hlen;refine uAa rfl rfl rfl (uAm rfl rfl gU gU rfl) ?_;refine uAf ?_;refine uAk (s:=⟨[(0,_,_),(1,_,_),(10,_,_)],[],[],[]⟩) (uAj (⟨sx rfl,sx rfl,sx rfl,trivial⟩) trivial trivial) ?_;refine uAo rfl (fun hc=>?_) (fun hc=>?_)
 ·try simp only [nn,uAi,Tk.rows_len] at hc
  refine uAd (uAb ?_);refine uAa rfl rfl rfl (uAe rfl gU) ?_;refine uAf ?_;refine uAq ?_
  repeat(first|refine tR ?_|refine bR ?_)
  refine uAu rfl ?_ trivial;exact uBY (by symm; exact decide_eq_false (by intro e; rw[e] at hc; exact hc rfl))
 ·try simp only [nn,uAi,Tk.rows_len] at hc
  have hl : a.length=b.length:=by omega
  refine uAp ?_;refine uAd ?_;refine uAd (uAb ?_);refine uAa rfl rfl rfl (uAe rfl gU) ?_;refine uAf ?_;refine uAt ?_;refine uAW (ι:=Nat) { t:=[(0,_,_),(1,_,_)],bx:=[],ow:=[] } (fun k=>[(5,true,xi (k : Int))]) (fun k=>[]) (fun k=>k≤a.length ∧ ∀ j,j < k→a.getD j []=b.getD j []) (fun k=>a.length - k) (0) (by simp) (uAj (⟨sx rfl,sx rfl,sx rfl,trivial⟩) trivial trivial) ?_
  intro k hok
  dsimp only [List.cons_append,List.nil_append]
  obtain ⟨hk,hi⟩:=hok
  refine uAd ?_;refine uAd (uAb ?_);refine uAa rfl rfl rfl (uAc rfl gU) ?_;refine uAa rfl rfl rfl (uAc rfl gU) ?_;refine uAI rfl rfl rfl rfl rfl gU rfl rfl ?_ (fun hh=>by simp at hh); intro hlen;refine uAa rfl rfl rfl (uAm rfl rfl gU gU rfl) ?_;refine uAf ?_;refine uAo rfl (fun hc2=>?_) (fun hc2=>?_)
  ·try simp only [nn,uAi,Tk.rows_len] at hc2
   refine uAp ?_;refine uAd ?_;refine uAt ?_;refine uAd ?_;refine awp_drawn' (by kernel_rfl) ?_;refine uAl rfl rfl rfl rfl (uAc rfl gU) ?_;refine uAl rfl rfl rfl rfl (uAc rfl gU) ?_;refine uAl rfl rfl rfl rfl (uAr rfl rfl gU gU rfl rfl rfl (fun hh=>uBP (by first|omega|(simp at hh ⊢; omega)))) ?_;refine uAl rfl rfl rfl rfl (uAM rfl gU rfl rfl rfl) ?_;refine uAl rfl rfl rfl rfl (uAc rfl gU) ?_;refine uAl rfl rfl rfl rfl (uAc rfl gU) ?_;refine uAl rfl rfl rfl rfl (uAr rfl rfl gU gU rfl rfl rfl (fun hh=>uBP (by first|omega|(simp at hh ⊢; omega)))) ?_;refine uAl rfl rfl rfl rfl (uAM rfl gU rfl rfl rfl) ?_;refine uAl rfl rfl rfl rfl (uA3 rfl rfl gU gU rfl) ?_;refine uA2 (by kernel_rfl) ?_;refine uAk (s:=⟨[(0,_,_),(1,_,_),(5,_,_),(25,_,_)],[],[],[]⟩) (uAj (⟨sx rfl,sx rfl,sx rfl,sx rfl,trivial⟩) trivial trivial) ?_;refine uAo rfl (fun hc3=>?_) (fun hc3=>?_)
   ·try simp only [nn,uAi,Tk.rows_len] at hc3
    refine uAd (uAb ?_);refine uAa rfl rfl rfl (uAe rfl gU) ?_;refine uAf ?_;refine uAq ?_
    repeat(first|refine tR ?_|refine bR ?_)
    refine uAu rfl ?_ trivial;exact uBY (by symm; exact decide_eq_false (by intro e; rw[e] at hc3; exact hc3 rfl))
   ·try simp only [nn,uAi,Tk.rows_len] at hc3
    refine uAp ?_;refine uAb ?_;refine uAa rfl rfl rfl (uAc rfl gU) ?_;refine uAa rfl rfl rfl (uAz rfl rfl gU gU rfl (IntWalk.i64_in _ (by omega))) ?_;refine uAa rfl rfl rfl (uAe rfl gU) ?_;refine uAf ?_;refine ⟨k + 1,?_,?_,uAj (⟨⟨_,rfl,?_⟩,⟨sx rfl,sx rfl,trivial⟩⟩) trivial trivial⟩
    all_goals (first|rfl|omega|(refine ⟨by omega,fun j hj=>?_⟩; by_cases q : j=k; { subst q; exact hc3 }; { exact hi j (by omega) }))
  ·try simp only [nn,uAi,Tk.rows_len] at hc2
   have he : a=b:=by
    apply List.ext_getElem?
    intro i
    by_cases hlt : i < a.length
    ·have := hi i (by omega)
     rw[List.getD_eq_getElem?_getD,List.getD_eq_getElem?_getD,List.getElem?_eq_getElem hlt,List.getElem?_eq_getElem (hl ▸ hlt)] at this
     rw[List.getElem?_eq_getElem hlt,List.getElem?_eq_getElem (hl ▸ hlt)]
     exact congrArg some this
    ·rw[List.getElem?_eq_none (by omega),List.getElem?_eq_none (by omega)]
   refine uAL ?_
   repeat(first|refine uAE ?_|refine uAF ?_|refine uAB rfl ?_)
   refine uAd (uAb ?_);refine uAa rfl rfl rfl (uAe rfl gU) ?_;refine uAf ?_;refine uAq ?_
   repeat(first|refine tR ?_|refine bR ?_)
   refine uAu rfl ?_ trivial;exact uBY (by symm; exact decide_eq_true he)
theorem uFJ (s : List UInt8) (hs : s.length≤9223372036854775807) : Ctr sys 82 [xs s] [] (xb (rnmE s)) none []:=by
 have hr:=Tk.rows_len (tokR s).1
 refine uAA Tryz.func82 rfl rfl rfl rfl rfl rfl ?_;refine uAd (uAb ?_);refine uAa rfl rfl rfl (uAe rfl gU) ?_;refine uAf ?_;refine uAd (uAb ?_);refine uAa rfl rfl rfl (uAc rfl gU) ?_;refine uAx rfl rfl rfl rfl rfl rfl gU gU (uFT _ (by omega)) rfl ?_;refine uAa rfl rfl rfl (uAc rfl gU) ?_;refine uAa rfl rfl rfl (uAv rfl gU rfl) ?_;refine uAa rfl rfl rfl (uAv rfl gU rfl) ?_;refine uAa rfl rfl rfl (uAv rfl gU rfl) ?_;refine uAa rfl rfl rfl (uAe rfl gU) ?_;refine uAa rfl rfl rfl (uAe rfl gU) ?_;refine uAa rfl rfl rfl (uAe rfl gU) ?_;refine uAf ?_;refine uAk (s:=⟨[(0,_,_),(3,_,_),(5,_,_)],[],[],[]⟩) (uAj (⟨sx rfl,sx rfl,sx rfl,trivial⟩) trivial trivial) ?_;refine uAd (uAb ?_);refine uAa rfl rfl rfl (uAc rfl gU) ?_;refine uAa rfl rfl rfl (uAm rfl rfl gU gU rfl) ?_;refine uAa rfl rfl rfl (uAc rfl gU) ?_;refine uAa rfl rfl rfl (uAc rfl gU) ?_;refine uAa rfl rfl rfl (uA7 rfl (fun hh=>hh) rfl rfl) ?_;refine uAa rfl rfl rfl (uAm rfl rfl (fun hh=>hh) gU rfl) ?_;refine uAa rfl rfl rfl (uAJ rfl rfl gU (fun _ hi=>gP rfl hi)) ?_;refine uAa rfl rfl rfl (uAc rfl gU) ?_;refine uAa rfl rfl rfl (uAc rfl gU) ?_;refine uAa rfl rfl rfl (uAr (j:=0) rfl rfl (fun hh=>hh) gU rfl rfl (by first|omega|(simp at hh ⊢; omega)|(simp at hh; omega)) (fun hh=>Tk.rows_at (by first|omega|(simp at hh ⊢; omega)|(simp at hh; omega)))) ?_
 refine uAa rfl rfl rfl (uAU rfl (fun hh=>hh) rfl rfl) ?_;refine uAa rfl rfl rfl (uAM rfl (fun hh=>hh) rfl rfl rfl) ?_;refine uBd (s:=⟨[(0,_,_),(3,_,_),(19,_,_),(23,_,_)],[],[],[]⟩) (uAj (⟨sx rfl,sx rfl,sx rfl,sx rfl,trivial⟩) trivial trivial) ?_;refine uAa rfl rfl rfl (uAm rfl rfl (fun hh=>hh) gU rfl) ?_;refine uAa rfl rfl rfl (uAJ rfl rfl gU (fun _ hi=>gP rfl hi)) ?_;refine uAa rfl rfl rfl (uAc rfl gU) ?_;refine uAa rfl rfl rfl (uAc rfl gU) ?_;refine uAa rfl rfl rfl (uAr (j:=0) rfl rfl (fun hh=>hh) gU rfl rfl (by first|omega|(simp at hh ⊢; omega)|(simp at hh; omega)) (fun hh=>Tk.rows_at (by first|omega|(simp at hh ⊢; omega)|(simp at hh; omega)))) ?_;refine uAa rfl rfl rfl (uAU rfl (fun hh=>hh) rfl rfl) ?_;refine uAa rfl rfl rfl (uAM rfl (fun hh=>hh) rfl rfl rfl) ?_;refine uAa rfl rfl rfl (uAc rfl gU) ?_;refine uAa rfl rfl rfl (uA3 rfl rfl (fun hh=>hh) (fun hh=>hh) rfl) ?_;refine uAa rfl rfl rfl (uAJ rfl rfl gU (fun _ hi=>gP rfl hi)) ?_;refine uAa rfl rfl rfl (uAc rfl gU) ?_;refine uAa rfl rfl rfl (uAc rfl gU) ?_;refine uBd (s:=⟨[(34,_,_),(35,_,_)],[],[],[]⟩) (uAj (⟨sx rfl,sx rfl,trivial⟩) trivial trivial) ?_;refine uAx rfl rfl rfl rfl rfl rfl gU (fun hh=>gA ((fun hh=>hh) hh) (rfl)) (uGt _) rfl ?_
 refine uAa rfl rfl rfl (uAJ rfl rfl gU (fun _ hi=>gP rfl hi)) ?_;refine uAa rfl rfl rfl (uAe rfl gU) ?_;refine uAf ?_;refine uAq ?_
 repeat(first|refine tR ?_|refine bR ?_)
 refine uAu rfl ?_ trivial;refine uBY ?_
 unfold rnmE
 rw[Bool.eq_iff_iff]
 simp only [Bool.and_eq_true,decide_eq_true_eq,beq_iff_eq]
 constructor
 ·rintro ⟨⟨⟨⟨a,b⟩,c⟩,d⟩,e⟩
  exact ⟨⟨⟨⟨by simpa using a,by have := b; simp [Tk.rows_len] at this; omega⟩,by simpa using c⟩,by simpa using d⟩,e⟩
 ·rintro ⟨⟨⟨⟨a,b⟩,c⟩,d⟩,e⟩
  exact ⟨⟨⟨⟨by simpa using a,by simp [Tk.rows_len]; omega⟩,by simpa using c⟩,by simpa using d⟩,e⟩
theorem uEq (s : List UInt8) : Ctr sys 111 [xs s] [] (xb (uAN s)) none []:=uHH (uHN (uFC [] (by simp))) fun h=>uFC s h
theorem uLR (s : List UInt8) : Ctr sys 82 [xs s] [] (xb (rnmE s)) none []:=uHH (uHN (uFJ [] (by simp))) fun h=>uFJ s h
theorem uQJ (s : List UInt8) : rnmE s=uAN s:=by
 by_cases h : s.length≤65536
 ·exact (uO3 s h).symm
 ·have h1 : uAN s=false:=by
   unfold uAN
   have : decide (s.length≤24)=false:=decide_eq_false (by omega)
   rw[this,Bool.and_false]
  have h2 : uCO s=false:=by
   unfold uCO
   have : decide (s.length≤24)=false:=decide_eq_false (by omega)
   simp only [this,Bool.and_false,Bool.false_and]
  rw[h1]
  unfold rnmE
  rw[h2,Bool.and_false]
end Go.Proofs.YteidahabkfgfjaaGreat
