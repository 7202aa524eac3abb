/- Our abstract program logic and contracts of this seat's functions, part 3: no statement of its own (long names of ours are shortened by a program). -/
import Derived.Test.YteidahabkfgfjaaGreatM2
import Derived.Lib.Join
import Derived.Shelf.Strings.OnBuilder
import Derived.Shelf.Small.Strs
import Derived.Shelf.Strings.SlTrimAscii
import Derived.Shelf.Strings.Prefix
import Derived.Shelf.Strings.Split
import Derived.Shelf.LaysM
import Derived.Shelf.Strings.Search3
import Derived.Test.YteidahabkfgfjaaGreatProg
import Derived.KernelRfl
import Derived.WalkKit
import Derived.Lib.Builder
import Derived.Lib.UnsafeStr
import Derived.Laws.Externs
set_option linter.unusedVariables false
set_option linter.unusedSimpArgs false
namespace Go.Proofs.YteidahabkfgfjaaGreat
open Go Go.Abs
structure Fs where
 role : List UInt8
 name : List UInt8
 sort : Int
 deriving Inhabited,DecidableEq
structure Sp where
 frm : List UInt8
 dst : List UInt8
 msg : T
 line : Int
 deriving Inhabited
structure Gl where
 kind : Int
 role : List UInt8
 wth : List UInt8
 data : List T
 line : Int
 deriving Inhabited
structure Nar where
 name : List UInt8
 roles : List (List UInt8)
 fresh : List Fs
 tags : List (List UInt8)
 steps : List Sp
 goals : List Gl
 deriving Inhabited
def Fs.cells (f : Fs) : List C:=[.s f.role, .s f.name, .i .i64 f.sort]
def Sp.cells (s : Sp) : List C:=[.s s.frm, .s s.dst, .i .i64 s.msg.kind, .s s.msg.name, .i .i64 s.msg.sort, .sl 4 (T.rows s.msg.kids), .i .i64 s.line]
def Gl.cells (g : Gl) : List C:=[.i .i64 g.kind, .s g.role, .s g.wth, .sl 4 (T.rows g.data), .i .i64 g.line]
def Fs.rows (l : List Fs) : List (List C):=l.map Fs.cells
def Sp.rows (l : List Sp) : List (List C):=l.map Sp.cells
def Gl.rows (l : List Gl) : List (List C):=l.map Gl.cells
theorem Fs.rows_len (l : List Fs) : (Fs.rows l).length=l.length:=by simp [Fs.rows]
theorem Sp.rows_len (l : List Sp) : (Sp.rows l).length=l.length:=by simp [Sp.rows]
theorem Gl.rows_len (l : List Gl) : (Gl.rows l).length=l.length:=by simp [Gl.rows]
theorem Fs.rows_at {l : List Fs} {k : Nat} (h : k < l.length) : (Fs.rows l)[k]? = some (l.getD k default).cells:=by
 rw[Fs.rows,List.getElem?_map,List.getD_eq_getElem?_getD,List.getElem?_eq_getElem h]; rfl
theorem Sp.rows_at {l : List Sp} {k : Nat} (h : k < l.length) : (Sp.rows l)[k]? = some (l.getD k default).cells:=by
 rw[Sp.rows,List.getElem?_map,List.getD_eq_getElem?_getD,List.getElem?_eq_getElem h]; rfl
theorem Gl.rows_at {l : List Gl} {k : Nat} (h : k < l.length) : (Gl.rows l)[k]? = some (l.getD k default).cells:=by
 rw[Gl.rows,List.getElem?_map,List.getD_eq_getElem?_getD,List.getElem?_eq_getElem h]; rfl
theorem T.rows_at {l : List T} {k : Nat} (h : k < l.length) : (T.rows l)[k]? = some (l.getD k default).cells:=by
 rw[T.rows_eq,List.getElem?_map,List.getD_eq_getElem?_getD,List.getElem?_eq_getElem h]; rfl
theorem Fs.rows_app (a b : List Fs) : Fs.rows (a++b)=Fs.rows a++Fs.rows b:=by simp [Fs.rows]
theorem Sp.rows_app (a b : List Sp) : Sp.rows (a++b)=Sp.rows a++Sp.rows b:=by simp [Sp.rows]
theorem Gl.rows_app (a b : List Gl) : Gl.rows (a++b)=Gl.rows a++Gl.rows b:=by simp [Gl.rows]
theorem T.getD_size {l : List T} {k : Nat} (h : k < l.length) : T.sizes (l.take k) + (l.getD k default).size≤T.sizes l:=by
 have h0 : l[k]? = some (l.getD k default):=by rw[List.getD_eq_getElem?_getD,List.getElem?_eq_getElem h]; rfl
 have h1:=T.sizes_take l k _ h0
 have h2:=T.sizes_take_le l (k + 1)
 omega
theorem T.getD_some {l : List T} {k : Nat} (h : k < l.length) : l[k]? = some (l.getD k default):=by
 rw[List.getD_eq_getElem?_getD,List.getElem?_eq_getElem h]; rfl
def Nar.cells (n : Nar) : List C:=[.s n.name, .sl 1 (strR n.roles), .sl 3 (Fs.rows n.fresh), .sl 1 (strR n.tags), .sl 7 (Sp.rows n.steps), .sl 5 (Gl.rows n.goals)]
abbrev xn (n : Nar) : X:=.v (.agg n.cells)
abbrev xsp (s : Sp) : X:=.v (.agg s.cells)
abbrev xg (g : Gl) : X:=.v (.agg g.cells)
structure PS where
 at' : Nat
 bad : Bool
 deriving Inhabited,DecidableEq
def PS.go (p : PS) : PS:=⟨p.at' + 1,p.bad⟩
def PS.off (p : PS) : PS:=⟨p.at',true⟩
def symQ (l : List Tk) (p : PS) (c : List UInt8) : Bool:=!p.bad && decide (p.at' < l.length) && decide ((l.getD p.at' tk0).kind=4) && decide ((l.getD p.at' tk0).text=c)
def E9 (l : List Tk) (c : List UInt8) (p : PS) : PS:=if symQ l p c=true then p.go else p.off
def namQ (l : List Tk) (p : PS) (ws : List (List UInt8)) : Bool:=!p.bad && decide (p.at' < l.length) && decide ((l.getD p.at' tk0).kind=1) && (decide (ws=[]) || ws.contains (l.getD p.at' tk0).text)
def C9 (l : List Tk) (ws : List (List UInt8)) (p : PS) : List UInt8 × PS:=if namQ l p ws=true then ((l.getD p.at' tk0).text,p.go) else ([],p.off)
def L7 {α : Type} (l : List Tk) (f : PS→α × PS) : Nat→PS→List α→List α × PS
 | 0,p,out=>(out,p)
 | n + 1,p,out=>if symQ l p [44]=true then L7 l f n (f p.go).2 (out++[(f p.go).1]) else (out,p)
def H1 {α : Type} (l : List Tk) (f : PS→α × PS) (p : PS) : List α × PS:=L7 l f (l.length + 1) (f p).2 [(f p).1]
def J7 (l : List Tk) (p : PS) : List (List UInt8) × PS:=H1 l (C9 l []) p
def Fx : List UInt8:=[112,97,105,114]
def uBB (a b : T) : T:=⟨3,Fx,0,[a,b]⟩
def tupT : List T→T
 | []=>⟨0,[],0,[]⟩
 | [t]=>t
 | t :: u :: l=>uBB t (tupT (u :: l))
def T0 : T:=⟨0,[],0,[]⟩
def J2 (l : List Tk) : Nat→PS→T × PS
 | 0,p=>(default,p)
 | n + 1,p=>if symQ l p [60]=true then
   (tupT ((J2 l n p.go).1 :: (H1 l (J2 l n) (E9 l [44] (J2 l n p.go).2)).1),E9 l [62] (H1 l (J2 l n) (E9 l [44] (J2 l n p.go).2)).2)
  else if symQ l (C9 l [] p).2 [40]=true then
   (if symQ l (C9 l [] p).2.go [41]=true then (⟨3,(C9 l [] p).1,0,[]⟩,(C9 l [] p).2.go.go)
   else (⟨3,(C9 l [] p).1,0,(H1 l (J2 l n) (C9 l [] p).2.go).1⟩,E9 l [41] (H1 l (J2 l n) (C9 l [] p).2.go).2))
  else (⟨2,(C9 l [] p).1,0,[]⟩,(C9 l [] p).2)
def G4 (l : List Tk) : Nat→PS→T × PS
 | 0,p=>(default,p)
 | n + 1,p=>if symQ l p [60]=true then
   (if (E9 l [62] (H1 l (G4 l n) (E9 l [44] (G4 l n p.go).2)).2).bad=true then (T0,E9 l [62] (H1 l (G4 l n) (E9 l [44] (G4 l n p.go).2)).2)
   else (tupT ((G4 l n p.go).1 :: (H1 l (G4 l n) (E9 l [44] (G4 l n p.go).2)).1),E9 l [62] (H1 l (G4 l n) (E9 l [44] (G4 l n p.go).2)).2))
  else if symQ l (C9 l [] p).2 [40]=true then
   (if symQ l (C9 l [] p).2.go [41]=true then (⟨3,(C9 l [] p).1,0,[]⟩,(C9 l [] p).2.go.go)
   else (⟨3,(C9 l [] p).1,0,(H1 l (G4 l n) (C9 l [] p).2.go).1⟩,E9 l [41] (H1 l (G4 l n) (C9 l [] p).2.go).2))
  else (⟨2,(C9 l [] p).1,0,[]⟩,(C9 l [] p).2)
def I7 (l : List (List UInt8)) (s : List UInt8) : Int:=match l with
 | []=>-1
 | x :: r=>if x=s then 0 else if I7 r s < 0 then -1 else I7 r s + 1
def sortW : List (List UInt8):=[[110,111,110,99,101],[107,101,121],[100,97,116,97]]
def kindW : List (List UInt8):=[[115,101,99,114,101,116],[97,103,114,101,101],[105,110,106,101,99,116],[102,114,101,115,104],[102,111,114,119,97,114,100]]
def Ua : List UInt8:=[114,111,108,101]
def Mv : List UInt8:=[102,114,101,115,104]
def Uw : List UInt8:=[116,97,103]
def wMsg : List UInt8:=[109,101,115,115,97,103,101]
def Vh : List UInt8:=[103,111,97,108]
def Jb : List UInt8:=[112,114,111,116,111,99,111,108]
def K1 : List (List UInt8):=[Ua,Mv,Uw,wMsg,Vh]
def N3 (l : List Tk) (role : List UInt8) : Nat→PS→List Fs→List Fs × PS
 | 0,p,out=>(out,p)
 | n + 1,p,out=>if p.bad=true then (out,p) else
   if symQ l (C9 l sortW (C9 l [] p).2).2 [44]=true then N3 l role n (C9 l sortW (C9 l [] p).2).2.go (out++[⟨role,(C9 l [] p).1,2 + I7 sortW (C9 l sortW (C9 l [] p).2).1⟩])
   else (out++[⟨role,(C9 l [] p).1,2 + I7 sortW (C9 l sortW (C9 l [] p).2).1⟩],(C9 l sortW (C9 l [] p).2).2)
def Ag (l : List Tk) (p : PS) (out : List Fs) : List Fs × PS:=N3 l (C9 l [] p).1 (l.length + 1) (E9 l [58] (C9 l [] p).2) out
def Hb (l : List Tk) (line : Int) (p : PS) : Sp × PS :=
 let a:=C9 l [] p
 let b:=C9 l [] (E9 l [62] (E9 l [45] a.2))
 let t:=J2 l (l.length + 1) (E9 l [58] b.2)
 (⟨a.1,b.1,t.1,line⟩,t.2)
def I8 (k : Int) : Bool:=decide (k=2) || decide (k=3)
def Ga (l : List Tk) (line : Int) (p : PS) : Gl × PS :=
 let k:=C9 l kindW p
 let r:=C9 l [] k.2
 let w:=if I8 (1 + I7 kindW k.1)=true then C9 l [] r.2 else ([],r.2)
 let d:=H1 l (J2 l (l.length + 1)) (E9 l [58] w.2)
 (⟨1 + I7 kindW k.1,r.1,w.1,d.1,line⟩,d.2)
def P9 (l : List Tk) (p : PS) : Int:=if p.at' < l.length then (l.getD p.at' tk0).line else 0
def V0 (l : List Tk) (n : Nar) (line : Int) (w : List UInt8) (q : PS) : Nar × PS :=
 if w=Ua then ({ n with roles:=n.roles++(J7 l q).1 },(J7 l q).2)
 else if w=Mv then ({ n with fresh:=(Ag l q n.fresh).1 },(Ag l q n.fresh).2)
 else if w=Uw then ({ n with tags:=n.tags++(J7 l q).1 },(J7 l q).2)
 else if w=wMsg then ({ n with steps:=n.steps++[(Hb l line q).1] },(Hb l line q).2)
 else if w=Vh then ({ n with goals:=n.goals++[(Ga l line q).1] },(Ga l line q).2)
 else (n,q)
def Y9 (l : List Tk) (n : Nar) (p : PS) : Nar × PS :=
 ((V0 l n (P9 l p) (C9 l K1 p).1 (C9 l K1 p).2).1,E9 l [59] (V0 l n (P9 l p) (C9 l K1 p).1 (C9 l K1 p).2).2)
def Bn (l : List Tk) : Nat→Nar→PS→Nar × PS
 | 0,n,p=>(n,p)
 | m + 1,n,p=>if p.bad=true then (n,p) else if symQ l p [125]=true then (n,p.go) else Bn l m (Y9 l n p).1 (Y9 l n p).2
def Nt (l : List Tk) (p : PS) : Int:=if l.length=0 then 1 else if l.length≤p.at' then (l.getD (l.length - 1) tk0).line else (l.getD p.at' tk0).line
def endE (l : List Tk) (p : PS) : Int × Int:=if p.bad=true∨p.at' < l.length then (Nt l p,2) else (0,0)
def nar0 : Nar:=⟨[],[],[],[],[],[]⟩
def Z8 (l : List Tk) : Nar × PS :=
 let a:=C9 l [Jb] ⟨0,false⟩
 let b:=C9 l [] a.2
 Bn l (l.length + 2) { nar0 with name:=b.1 } (E9 l [123] b.2)
theorem nq : (∀ l : List T, (T.rows l).length = l.length) ∧ (∀ l : List Gl, (Gl.rows l).length = l.length) ∧ (∀ l : List Fs, (Fs.rows l).length = l.length) ∧ ∀ l : List Sp, (Sp.rows l).length = l.length := ⟨T.rows_len, Gl.rows_len, Fs.rows_len, Sp.rows_len⟩
def Tk.nl (t : Tk) (b : Bool) : Tk:=if b=true then t else t.onl 0
def L5 (s : List UInt8) : List UInt8:=s.take (O0 true s)
theorem Aj {i : Bool} {c : UInt8} {r : List UInt8} (h1 : ¬(i=true∧c.toNat=92)) (h2 : ¬((if c.toNat=34 then !i else i)=false∧c.toNat=35∧(r.getD 0 0).toNat=35)) :
  O0 i (c :: r)=O0 (if c.toNat=34 then !i else i) r + 1:=by
 cases r with
 | nil=>simp [O0]
 | cons d l =>
  rw[List.getD_cons_zero] at h2
  rw[O0,if_neg h1,if_neg h2]
theorem P0 {c : UInt8} {r : List UInt8} (hc : c.toNat≠34) (h2 : ¬(c.toNat=35∧(r.getD 0 0).toNat=35)) : H5 (c :: r)=c :: H5 r:=by
 unfold H5
 rw[Aj (by simp) (by rw[if_neg hc]; rintro ⟨-, q⟩; exact h2 q),if_neg hc,List.take_succ_cons]
theorem U2 {c : UInt8} {r : List UInt8} (hc : c.toNat=34) : H5 (c :: r)=c :: L5 r:=by
 unfold H5 L5
 rw[Aj (by simp) (by rintro ⟨-, q,-⟩; omega),if_pos hc,List.take_succ_cons]; rfl
theorem Fg {c : UInt8} {r : List UInt8} (hc : c.toNat=35) (hd : (r.getD 0 0).toNat=35) : H5 (c :: r)=[]:=by
 cases r with
 | nil=>simp at hd
 | cons d l =>
  rw[List.getD_cons_zero] at hd
  unfold H5
  rw[O0,if_neg (by simp),if_pos ⟨by rw[if_neg (by omega)],hc,hd⟩]; rfl
theorem Qm {c : UInt8} {r : List UInt8} (hc : c.toNat=34) : L5 (c :: r)=c :: H5 r:=by
 unfold H5 L5
 rw[Aj (by rintro ⟨-, q⟩; omega) (by rintro ⟨-, q,-⟩; omega),if_pos hc,List.take_succ_cons]; rfl
theorem W6 {c : UInt8} {r : List UInt8} (h1 : c.toNat≠34) (h2 : c.toNat≠92) : L5 (c :: r)=c :: L5 r:=by
 unfold L5
 rw[Aj (by rintro ⟨-, q⟩; omega) (by rw[if_neg h1]; rintro ⟨q,-⟩; simp at q),if_neg h1,List.take_succ_cons]
theorem Xl {c d : UInt8} {r : List UInt8} (h : c.toNat=92) : L5 (c :: d :: r)=c :: d :: L5 r:=by
 unfold L5
 rw[O0,if_pos ⟨rfl,h⟩]; rfl
theorem Wl (c : UInt8) : L5 [c]=[c]:=by unfold L5; rw[O0]; rfl
theorem Ey : H5 []=[]:=rfl
theorem Xm : L5 []=[]:=rfl
theorem Us (b : UInt8) (l : List UInt8) : ([35,35] : List UInt8).isPrefixOf (b :: l)=(decide (b.toNat=35) && decide ((l.getD 0 0).toNat=35)):=by
 have hb : ∀ x : UInt8,((35 : UInt8) == x)=decide (x.toNat=35):=by
  intro x
  rw[Bool.eq_iff_iff]
  simp only [beq_iff_eq,decide_eq_true_eq]
  exact ⟨fun h=>by subst h; rfl,fun h=>UInt8.toNat_inj.1 (by rw[h]; rfl)⟩
 cases l with
 | nil=>simp [List.isPrefixOf,hb]
 | cons c r=>simp [List.isPrefixOf,hb]
theorem Kw : ∀ (l : List UInt8),wdN (H5 l)=nmP l∧(H5 l).take (nmP l)=l.take (nmP l)∧(H5 l).drop (nmP l)=H5 (l.drop (nmP l))
 | []=>by simp [Ey,wdN,nmP]
 | b :: r=>by
  by_cases h : M6 (b.toNat : Int)=true ∧ ¬(b.toNat=35∧(r.getD 0 0).toNat=35)
  ·have h34 : b.toNat≠34:=by
    intro q
    have := h.1
    rw[q] at this
    revert this; decide
   obtain ⟨i1,i2,i3⟩:=Kw r
   rw[P0 h34 h.2,wdN,if_pos h.1,nmP,if_pos h,i1]
   exact ⟨rfl,by rw[List.take_succ_cons,List.take_succ_cons,i2],by rw[List.drop_succ_cons,List.drop_succ_cons,i3]⟩
  ·have hn : nmP (b :: r)=0:=by rw[nmP,if_neg h]
   rw[hn]
   refine ⟨?_,by simp,by simp⟩
   by_cases hq : b.toNat=35∧(r.getD 0 0).toNat=35
   ·rw[Fg hq.1 hq.2]; rfl
   ·have hp : ¬M6 (b.toNat : Int)=true:=fun q=>h ⟨q,hq⟩
    by_cases h34 : b.toNat=34
    ·rw[U2 h34,wdN,if_neg hp]
    ·rw[P0 h34 hq,wdN,if_neg hp]
theorem Og : ∀ (l : List UInt8) (n : Nat) (v : Int),numA (H5 l) n v=numA l n v∧((numA l n v).1=true → ∃ j,(numA l n v).2.1=n + j∧(H5 l).drop j=H5 (l.drop j))
 | [],n,v=>by rw[Ey]; exact ⟨rfl,fun _=>⟨0,rfl,rfl⟩⟩
 | b :: r,n,v=>by
  by_cases h : K4 (b.toNat : Int)=true
  ·have hd : (48 : Int)≤b.toNat∧(b.toNat : Int)≤57:=by simpa [K4] using h
   rw[P0 (by omega) (by omega),numA,if_pos h,numA,if_pos h]
   split
   ·exact ⟨rfl,fun q=>by simp at q⟩
   ·obtain ⟨i1,i2⟩:=Og r (n + 1) (10 * v + ((b.toNat : Int) - 48))
    refine ⟨i1,fun q=>?_⟩
    obtain ⟨j,q1,q2⟩:=i2 q
    exact ⟨j + 1,by omega,by rw[List.drop_succ_cons,List.drop_succ_cons,q2]⟩
  ·have e : numA (b :: r) n v=(true,n,v):=by rw[numA,if_neg h]
   rw[e]
   refine ⟨?_,fun _=>⟨0,rfl,rfl⟩⟩
   by_cases hq : b.toNat=35∧(r.getD 0 0).toNat=35
   ·rw[Fg hq.1 hq.2]; rfl
   ·by_cases h34 : b.toNat=34
    ·rw[U2 h34,numA,if_neg h]
    ·rw[P0 h34 hq,numA,if_neg h]
theorem Bf {c : UInt8} (h : hexB c=true) : c.toNat≠34∧c.toNat≠92:=by
 simp [hexB] at h
 omega
theorem take_getD' {α : Type} {l : List α} {d : α} {k j : Nat} (h : j < (l.take k).length) : (l.take k).getD j d=l.getD j d∧j < l.length:=by
 rw[List.length_take] at h
 refine ⟨?_,by omega⟩
 simp only [List.getD_eq_getElem?_getD]; rw[List.getElem?_take,if_pos (by omega)]
theorem uAo (d : UInt8) (r : List UInt8) : escE (d :: L5 r)=escE (d :: r)∧((escE (d :: r)).2≠0→(d :: L5 r).drop (escE (d :: r)).2=L5 ((d :: r).drop (escE (d :: r)).2)):=by
 have hx : (2≤(L5 r).length∧hexB ((L5 r).getD 0 0)=true∧hexB ((L5 r).getD 1 0)=true) ↔ (2≤r.length∧hexB (r.getD 0 0)=true∧hexB (r.getD 1 0)=true):=by
  constructor
  ·rintro ⟨q1,q2,q3⟩
   obtain ⟨e1,e2⟩:=take_getD' (l:=r) (d:=0) (k:=O0 true r) (j:=0) (by show 0 < (L5 r).length; omega)
   obtain ⟨e3,e4⟩:=take_getD' (l:=r) (d:=0) (k:=O0 true r) (j:=1) (by show 1 < (L5 r).length; omega)
   exact ⟨by omega,by rw[← e1]; exact q2,by rw[← e3]; exact q3⟩
  ·rintro ⟨q1,q2,q3⟩
   match r,q1 with
   | a :: b :: r,_ =>
    simp only [List.getD_cons_zero,List.getD_cons_succ] at q2 q3
    rw[W6 (Bf q2).1 (Bf q2).2,W6 (Bf q3).1 (Bf q3).2]
    exact ⟨by simp,q2,q3⟩
 by_cases hh : 2≤r.length∧hexB (r.getD 0 0)=true∧hexB (r.getD 1 0)=true
 ·have hb : ∃ a b t,r=a :: b :: t∧L5 r=a :: b :: L5 t:=by
   match r,hh with
   | a :: b :: t,⟨_,q2,q3⟩ =>
    simp only [List.getD_cons_zero,List.getD_cons_succ] at q2 q3
    exact ⟨a,b,t,rfl,by rw[W6 (Bf q2).1 (Bf q2).2,W6 (Bf q3).1 (Bf q3).2]⟩
  obtain ⟨a,b,t,rfl,hb⟩:=hb
  have e : escE (d :: L5 (a :: b :: t))=escE (d :: a :: b :: t):=by
   rw[hb,escE,escE]
   simp
  refine ⟨e,fun _=>?_⟩
  have h3 : (escE (d :: a :: b :: t)).2=1∨(escE (d :: a :: b :: t)).2=3∨(escE (d :: a :: b :: t)).2=0:=by
   rw[escE]
   repeat' split
   all_goals simp
  rcases h3 with h | h | h
  ·rw[h]; rfl
  ·rw[h,hb]; rfl
  ·contradiction
 ·have hh' : ¬(2≤(L5 r).length∧hexB ((L5 r).getD 0 0)=true∧hexB ((L5 r).getD 1 0)=true):=fun q=>hh (hx.1 q)
  have key : ∀ l : List UInt8,¬(2≤l.length∧hexB (l.getD 0 0)=true∧hexB (l.getD 1 0)=true)→escE (d :: l)=if d.toNat=110 then (10,1) else if d.toNat=116 then (9,1) else if d.toNat=34∨d.toNat=92 then (d,1) else (0,0):=by
   intro l hl
   rw[escE]
   repeat' (split <;> try rfl)
   rename_i q
   exact absurd q.2 hl
  rw[key _ hh',key _ hh]
  refine ⟨rfl,fun q=>?_⟩
  have h1 : (if d.toNat=110 then ((10 : UInt8),1) else if d.toNat=116 then (9,1) else if d.toNat=34∨d.toNat=92 then (d,1) else (0,0)).2=1:=by
   revert q
   repeat' split
   all_goals simp
  rw[h1]; rfl
theorem Hl : ∀ (N : Nat) (r : List UInt8),r.length≤N → ∀ (n m i : Nat) (out : List UInt8),r.length < n→(L5 r).length < m →
  litA m (L5 r) i out=litA n r i out∧((litA n r i out).2≠0 → ∃ j,(litA n r i out).2=i + j∧(L5 r).drop j=H5 (r.drop j))
 | N,[],_,n,m,i,out,hn,hm=>by
  obtain ⟨n,rfl⟩ : ∃ k,n=k + 1:=⟨n - 1,by simp at hn; omega⟩
  obtain ⟨m,rfl⟩ : ∃ k,m=k + 1:=⟨m - 1,by omega⟩
  rw[Xm]
  exact ⟨rfl,fun q=>by simp [litA] at q⟩
 | 0,c :: r,h,_,_,_,_,_,_=>by simp at h
 | N + 1,c :: r,h,n,m,i,out,hn,hm=>by
  obtain ⟨n,rfl⟩ : ∃ k,n=k + 1:=⟨n - 1,by omega⟩
  obtain ⟨m,rfl⟩ : ∃ k,m=k + 1:=⟨m - 1,by omega⟩
  simp only [List.length_cons] at h hn
  by_cases h34 : c.toNat=34
  ·rw[Qm h34,litA,if_pos h34,litA,if_pos h34]
   exact ⟨rfl,fun _=>⟨1,rfl,rfl⟩⟩
  by_cases h92 : c.toNat=92
  ·cases r with
   | nil =>
    rw[Wl,litA,if_neg h34,if_pos h92,litA,if_neg h34,if_pos h92]
    exact ⟨rfl,fun q=>by simp [escE] at q⟩
   | cons d r =>
    obtain ⟨e1,e2⟩:=uAo d r
    rw[Xl h92] at hm ⊢
    rw[litA,if_neg h34,if_pos h92,litA,if_neg h34,if_pos h92,e1]
    split
    ·exact ⟨rfl,fun q=>by simp at q⟩
    ·rename_i hz
     rw[e2 hz]
     have hle:=Ma (d :: r)
     have hl2 : (L5 ((d :: r).drop (escE (d :: r)).2)).length < m:=by
      rw[← e2 hz,List.length_drop]
      simp only [List.length_cons] at hm ⊢
      omega
     obtain ⟨i1,i2⟩:=Hl N ((d :: r).drop (escE (d :: r)).2) (by rw[List.length_drop]; omega) n m (i + 1 + (escE (d :: r)).2) (out++[(escE (d :: r)).1]) (by rw[List.length_drop]; omega) hl2
     refine ⟨i1,fun q=>?_⟩
     obtain ⟨j,q1,q2⟩:=i2 q
     refine ⟨1 + (escE (d :: r)).2 + j,by omega,?_⟩
     rw[show 1 + (escE (d :: r)).2 + j=((escE (d :: r)).2 + j) + 1 by omega,List.drop_succ_cons,List.drop_succ_cons,← List.drop_drop,← List.drop_drop,e2 hz,q2]
  ·rw[W6 h34 h92] at hm ⊢
   rw[litA,if_neg h34,if_neg h92,litA,if_neg h34,if_neg h92]
   split
   ·exact ⟨rfl,fun q=>by simp at q⟩
   ·obtain ⟨i1,i2⟩:=Hl N r (by omega) n m (i + 1) (out++[c]) (by omega) (by simp only [List.length_cons] at hm; omega)
    refine ⟨i1,fun q=>?_⟩
    obtain ⟨j,q1,q2⟩:=i2 q
    exact ⟨j + 1,by omega,by rw[List.drop_succ_cons,List.drop_succ_cons,q2]⟩
theorem Xc {c : UInt8} {r : List UInt8} (hc : c.toNat=34) : litE (H5 (c :: r))=litE (c :: r)∧((litE (c :: r)).2≠0→(H5 (c :: r)).drop (litE (c :: r)).2=H5 ((c :: r).drop (litE (c :: r)).2)):=by
 rw[U2 hc]
 unfold litE
 simp only [List.drop_succ_cons,List.drop_zero,List.length_cons]
 obtain ⟨i1,i2⟩:=Hl r.length r (Nat.le_refl _) (r.length + 1 + 1) ((L5 r).length + 1 + 1) 1 [] (by omega) (by omega)
 refine ⟨i1,fun q=>?_⟩
 obtain ⟨j,q1,q2⟩:=i2 q
 rw[q1,Nat.add_comm,List.drop_succ_cons,List.drop_succ_cons,q2]
theorem Wg {c : UInt8} {r : List UInt8} (k : Int) (h : ¬(c.toNat=35∧(r.getD 0 0).toNat=35)) :
  (K6 (H5 (c :: r)) k).2.2=(O9 (c :: r)).2.2∧((O9 (c :: r)).2.2=0→(K6 (H5 (c :: r)) k).1=(O9 (c :: r)).1.onl k∧(K6 (H5 (c :: r)) k).2.1=(O9 (c :: r)).2.1 ∧
   (H5 (c :: r)).drop (O9 (c :: r)).2.1=H5 ((c :: r).drop (O9 (c :: r)).2.1)):=by
 have h0 : (H5 (c :: r)).getD 0 0=c:=by
  by_cases h34 : c.toNat=34
  ·rw[U2 h34]; rfl
  ·rw[P0 h34 h]; rfl
 unfold K6 O9
 rw[h0,List.getD_cons_zero]
 by_cases hl : I1 (c.toNat : Int)=true
 ·have hnl : nlE (c :: r)=nmP (c :: r):=by
   rw[nlE,nmP,if_pos ⟨by simp [M6,hl],h⟩]; simp; omega
  obtain ⟨i1,i2,i3⟩:=Kw (c :: r)
  rw[if_pos hl,if_pos hl,i1,hnl]
  split
  ·exact ⟨rfl,fun q=>by simp at q⟩
  ·rw[i2]
   exact ⟨rfl,fun _=>⟨rfl,rfl,i3⟩⟩
 rw[if_neg hl,if_neg hl]
 by_cases hd : K4 (c.toNat : Int)=true
 ·obtain ⟨i1,i2⟩:=Og (c :: r) 0 0
  rw[if_pos hd,if_pos hd,i1]
  split
  ·rename_i hq
   obtain ⟨j,q1,q2⟩:=i2 hq
   refine ⟨rfl,fun _=>⟨rfl,rfl,?_⟩⟩
   dsimp only
   rw[q1,Nat.zero_add,q2]
  ·exact ⟨rfl,fun q=>by simp at q⟩
 rw[if_neg hd,if_neg hd]
 by_cases h34 : c.toNat=34
 ·obtain ⟨i1,i2⟩:=Xc (r:=r) h34
  rw[if_pos h34,if_pos h34,i1]
  split
  ·exact ⟨rfl,fun q=>by simp at q⟩
  ·rename_i hq
   exact ⟨rfl,fun _=>⟨rfl,rfl,i2 hq⟩⟩
 rw[if_neg h34,if_neg h34]
 split
 ·rw[P0 h34 h]
  exact ⟨rfl,fun _=>⟨rfl,rfl,rfl⟩⟩
 ·exact ⟨rfl,fun q=>by simp at q⟩
theorem W2 : ∀ (N : Nat) (l : List UInt8),l.length≤N→(∀ b ∈ l,b.toNat≠10) → ∀ (n m : Nat) (k : Int) (out : List Tk),l.length < n→(H5 l).length < m→R3 m (H5 l) k out=J8 n l k out
 | N,[],_,_,n,m,k,out,hn,hm=>by
  obtain ⟨n,rfl⟩ : ∃ k,n=k + 1:=⟨n - 1,by simp at hn; omega⟩
  obtain ⟨m,rfl⟩ : ∃ k,m=k + 1:=⟨m - 1,by omega⟩
  rw[Ey,R3,J8,if_pos (.inl J)]
 | 0,c :: r,h,_,_,_,_,_,_,_=>by simp at h
 | N + 1,c :: r,h,hno,n,m,k,out,hn,hm=>by
  obtain ⟨n,rfl⟩ : ∃ k,n=k + 1:=⟨n - 1,by omega⟩
  obtain ⟨m,rfl⟩ : ∃ k,m=k + 1:=⟨m - 1,by omega⟩
  simp only [List.length_cons] at h hn
  have hc10:=hno c (by simp)
  by_cases hw : P2 c=true
  ·have hw2 : c.toNat=32∨c.toNat=9∨c.toNat=13:=by simp [P2] at hw; omega
   have hin : wsp.contains c=true:=by
    rcases hw2 with q | q | q
    ·rw[show c=32 from UInt8.toNat_inj.1 q]; rfl
    ·rw[show c=9 from UInt8.toNat_inj.1 q]; rfl
    ·rw[show c=13 from UInt8.toNat_inj.1 q]; rfl
   have ht : M8 (c :: r)=M8 r:=by
    unfold M8
    rw[List.dropWhile_cons,if_pos hin]
   have e1 : J8 (n + 1) (c :: r) k out=J8 (n + 1) r k out:=by rw[J8,J8,ht]
   have hb : H5 (c :: r)=c :: H5 r:=P0 (by omega) (by omega)
   rw[hb] at hm ⊢
   rw[R3,if_pos hw,e1]
   exact W2 N r (by omega) (fun b hb=>hno b (by simp [hb])) (n + 1) m k out (by omega) (by simp only [List.length_cons] at hm; omega)
  ·have hin : ¬wsp.contains c=true:=by
    intro q
    apply hw
    have : c=32∨c=9∨c=13:=by simpa [wsp] using q
    rcases this with rfl | rfl | rfl <;> rfl
   have ht : M8 (c :: r)=c :: r:=by
    unfold M8
    rw[List.dropWhile_cons,if_neg hin]
   by_cases h35 : c.toNat=35∧(r.getD 0 0).toNat=35
   ·rw[Fg h35.1 h35.2,R3,J8,ht,if_pos (.inr (by rw[Us]; simp only [h35.1,h35.2,decide_true,Bool.and_self]))]
   ·obtain ⟨e1,e2⟩:=Wg (c:=c) (r:=r) k h35
    have hne : 0 < (c :: r).length:=by simp
    have hnx:=Ix hne
    have hb : ∃ t,H5 (c :: r)=c :: t:=by
     by_cases h34 : c.toNat=34
     ·exact ⟨_,U2 h34⟩
     ·exact ⟨_,P0 h34 h35⟩
    obtain ⟨t,hb⟩:=hb
    have hb1 : 1≤(H5 (c :: r)).length:=by rw[hb]; simp
    rw[J8,ht,if_neg (by
     rintro (q | q)
     ·cases q
     ·rw[Us] at q; simp at q; exact h35 q)]
    have e3 : R3 (m + 1) (H5 (c :: r)) k out=if (K6 (H5 (c :: r)) k).2.2≠0 then ([],(K6 (H5 (c :: r)) k).2.2) else R3 m ((H5 (c :: r)).drop (K6 (H5 (c :: r)) k).2.1) k (out++[(K6 (H5 (c :: r)) k).1]):=by
     rw[hb,R3,if_neg hw]
    rw[e3,e1]
    split
    ·rfl
    ·rename_i hz
     have hz:=Decidable.not_not.1 hz
     obtain ⟨q1,q2,q3⟩:=e2 hz
     have hge:=hnx.2 hz
     rw[q1,q2,q3]
     refine W2 N _ (by rw[List.length_drop]; simp only [List.length_cons]; omega) (fun b hb=>hno b (List.mem_of_mem_drop hb)) n m k _ (by rw[List.length_drop]; simp only [List.length_cons]; omega) ?_
     rw[← q3,List.length_drop]
     omega
def fin : List (List UInt8)→List (List UInt8)
 | []=>[]
 | [x]=>if x=[] then [] else [x]
 | x :: y :: r=>x :: fin (y :: r)
theorem Hv : ∀ (s line : List UInt8) (out : List (List UInt8)),∀ x r,spl s=x :: r→lnsA s line out=out++fin ((line++x) :: r)
 | [],line,out,x,r,h=>by
  simp only [spl,List.cons.injEq] at h
  obtain ⟨rfl,rfl⟩:=h
  rw[lnsA,fin,List.append_nil]
  split <;> simp
 | b :: l,line,out,x,r,h=>by
  rw[lnsA]
  rw[spl] at h
  split at h
  ·rename_i hb
   rw[if_pos hb]
   simp only [List.cons.injEq] at h
   obtain ⟨rfl,rfl⟩:=h
   cases hs : spl l with
   | nil=>exact absurd hs (Mq l)
   | cons y r =>
    rw[Hv l [] (out++[line]) y r hs,fin]
    simp
  ·rename_i hb
   rw[if_neg hb]
   split at h
   ·rename_i hs; exact absurd hs (Mq l)
   ·rename_i y t hs
    simp only [List.cons.injEq] at h
    obtain ⟨rfl,rfl⟩:=h
    rw[Hv l (line++[b]) out y t hs]
    simp
theorem uAz (s : List UInt8) : lnsR s=fin (spl s):=by
 cases hs : spl s with
 | nil=>exact absurd hs (Mq s)
 | cons x r =>
  unfold lnsR
  rw[Hv s [] [] x r hs]
  simp
theorem Dr : ∀ (s : List UInt8),∀ x ∈ spl s,∀ b ∈ x,b.toNat≠10
 | [],x,hx,b,hb=>by simp [spl] at hx; subst hx; simp at hb
 | c :: l,x,hx,b,hb=>by
  have ih:=Dr l
  rw[spl] at hx
  split at hx
  ·rcases List.mem_cons.1 hx with q | q
   ·subst q; simp at hb
   ·exact ih x q b hb
  ·rename_i hc
   split at hx
   ·simp at hx; subst hx; simp at hb; subst hb; exact hc
   ·rename_i y t hs
    rw[hs] at ih
    rcases List.mem_cons.1 hx with q | q
    ·subst q
     rcases List.mem_cons.1 hb with z | z
     ·subst z; exact hc
     ·exact ih y (by simp) b z
    ·exact ih x (by simp [q]) b hb
theorem Qf : ∀ (L : List (List UInt8)),(∀ x ∈ L,∀ b ∈ x,b.toNat≠10) → ∀ (k : Nat) (out : List Tk),Dq (fin L) k out=U9 L k out
 | [],_,k,out=>rfl
 | [x],h,k,out=>by
  have hl:=W2 x.length x (Nat.le_refl _) (h x (by simp)) (x.length + 1) ((H5 x).length + 1) (k : Int) out (by omega) (by omega)
  rw[fin]
  split
  ·rename_i hx
   subst hx
   rw[U9,show (J8 (([] : List UInt8).length + 1) [] (k : Int) out)=(out,0) by rw[J8,if_pos (.inl J)]]
   rfl
  ·rw[U9,Dq,hl]
   rfl
 | x :: y :: r,h,k,out=>by
  have hl:=W2 x.length x (Nat.le_refl _) (h x (by simp)) (x.length + 1) ((H5 x).length + 1) (k : Int) out (by omega) (by omega)
  rw[fin,U9,Dq,hl]
  split
  ·rfl
  ·exact Qf (y :: r) (fun z hz=>h z (List.mem_cons_of_mem _ hz)) (k + 1) _
theorem Xx (s : List UInt8) : tokR s=tokP s:=by
 unfold tokR tokP
 rw[uAz,Qf _ (Dr s)]
theorem Lz : ∀ (l : List UInt8),nmP l=l.length→l.all (fun b=>M6 (b.toNat : Int))=true
 | [],_=>rfl
 | b :: l,h=>by
  rw[nmP] at h
  split at h
  ·rename_i hq
   rw[List.all_cons,hq.1,Lz l (by simpa using h)]; rfl
  ·simp at h
theorem Fk {b : UInt8} (h : M6 (b.toNat : Int)=true) : b.toNat≠10:=by
 intro q
 rw[q] at h
 revert h; decide
theorem Ui : ∀ (s : List UInt8),(∀ b ∈ s,b.toNat≠10)→spl s=[s]
 | [],_=>rfl
 | c :: l,h=>by
  rw[spl,if_neg (h c (by simp)),Ui l fun b hb=>h b (by simp [hb])]
theorem My {c : UInt8} (h : I1 (c.toNat : Int)=true) : wsp.contains c=false:=by
 rw[Bool.eq_false_iff]
 intro q
 have : c=32∨c=9∨c=13:=by simpa [wsp] using q
 rcases this with rfl | rfl | rfl <;> revert h <;> decide
theorem Kk (n : Nat) (k : Int) (out : List Tk) : J8 n [] k out=(out,0):=by
 cases n with
 | zero=>rfl
 | succ n=>rw[J8,if_pos (.inl J)]
theorem La : ∀ (n : Nat) (l : List UInt8) (k : Int) (out : List Tk),(J8 n l k out).2=0 → ∃ e,(J8 n l k out).1=out++e
 | 0,l,k,out,_=>⟨[],by simp [J8]⟩
 | n + 1,l,k,out,h=>by
  rw[J8] at h ⊢
  split
  ·exact ⟨[],by simp⟩
  ·rename_i h1
   rw[if_neg h1] at h
   split at h
   ·rename_i h2; exact absurd h h2
   ·rename_i h2
    rw[if_neg h2]
    obtain ⟨e,he⟩:=La n _ k _ h
    exact ⟨[(O9 (M8 l)).1.onl k]++e,by rw[he,List.append_assoc]⟩
def E4 (s : List UInt8) : Bool:=(((decide (s≠[])) && I1 ((s.getD 0 0).toNat : Int)) && decide (nlE s=s.length)) && decide (s.length≤24)
def rnmE (s : List UInt8) : Bool:=(((decide ((tokR s).2.2=0) && decide ((tokR s).1.length=1)) && decide (((tokR s).1.getD 0 tk0).kind=1)) && decide (((tokR s).1.getD 0 tk0).text=s)) && R2 s
theorem Kp {s : List UInt8} (hl : I1 ((s.getD 0 0).toNat : Int)=true) (hne : s≠[]) (hno : ∀ b ∈ s,b.toNat≠10) (h24 : nlE s≤24) (hs : s.length≤65536) :
  ∃ n,tokP s=if (J8 n (s.drop (nlE s)) 1 [⟨1,s.take (nlE s),0,[],1⟩]).2≠0 then ([],1,(J8 n (s.drop (nlE s)) 1 [⟨1,s.take (nlE s),0,[],1⟩]).2) else ((J8 n (s.drop (nlE s)) 1 [⟨1,s.take (nlE s),0,[],1⟩]).1,0,0):=by
 obtain ⟨c,r,rfl⟩ : ∃ c r,s=c :: r:=by
  cases s with
  | nil=>exact absurd J hne
  | cons c r=>exact ⟨c,r,rfl⟩
 rw[List.getD_cons_zero] at hl
 have ht : M8 (c :: r)=c :: r:=by
  unfold M8
  rw[List.dropWhile_cons,My hl]; rfl
 have hnx : O9 (c :: r)=(⟨1,(c :: r).take (nlE (c :: r)),0,[],0⟩,nlE (c :: r),0):=by
  rw[O9,List.getD_cons_zero,if_pos hl,if_neg (by omega)]
 have h35 : c.toNat≠35:=by
  intro q
  rw[q] at hl
  revert hl; decide
 have hq1 : ¬(c :: r=[]∨[35,35].isPrefixOf (c :: r)=true):=by
  rintro (q | q)
  ·cases q
  ·rw[Us] at q
   simp only [Bool.and_eq_true,decide_eq_true_eq] at q
   exact h35 q.1
 have hL : J8 ((c :: r).length + 1) (c :: r) ((1 : Nat) : Int) []=J8 (c :: r).length ((c :: r).drop (nlE (c :: r))) 1 [⟨1,(c :: r).take (nlE (c :: r)),0,[],1⟩]:=by
  rw[J8,ht,if_neg hq1,hnx,if_neg (by simp)]; rfl
 refine ⟨(c :: r).length,?_⟩
 unfold tokP
 rw[if_neg (by omega),Ui _ hno,U9,hL]; rfl
theorem uAx (s : List UInt8) (hs : s.length≤65536) : E4 s=rnmE s:=by
 unfold rnmE
 rw[Xx,Bool.eq_iff_iff]
 constructor
 ·intro h
  simp only [E4,Bool.and_eq_true,decide_eq_true_eq] at h
  obtain ⟨⟨⟨h1,h2⟩,h3⟩,h4⟩:=h
  have hp:=List.length_pos_iff.2 h1
  have hall : s.all (fun b=>M6 (b.toNat : Int))=true:=by
   obtain ⟨c,r,rfl⟩ : ∃ c r,s=c :: r:=by
    cases s with
    | nil=>exact absurd J h1
    | cons c r=>exact ⟨c,r,rfl⟩
   rw[List.getD_cons_zero] at h2
   have := Lz r (by unfold nlE at h3; simp at h3; omega)
   rw[List.all_cons,this,Bool.and_true]
   simp [M6,h2]
  have hno : ∀ b ∈ s,b.toNat≠10 := fun b hb=>Fk (by have := List.all_eq_true.1 hall b hb; exact this)
  obtain ⟨n,hn⟩:=Kp h2 h1 hno (by omega) hs
  rw[h3,List.drop_length,List.take_length,Kk] at hn
  rw[if_neg (by simp)] at hn
  rw[hn]
  simp [R2,hall,h4,h2]
  exact ⟨by omega,by simpa using h2⟩
 ·intro h
  simp only [Bool.and_eq_true,decide_eq_true_eq] at h
  obtain ⟨⟨⟨⟨h1,h2⟩,h3⟩,h4⟩,h5⟩:=h
  simp only [R2,Bool.and_eq_true,decide_eq_true_eq] at h5
  obtain ⟨⟨⟨g1,g2⟩,g3⟩,g4⟩:=h5
  have hne : s≠[]:=fun q=>by subst q; simp at g1
  have hno : ∀ b ∈ s,b.toNat≠10 := fun b hb=>Fk (by have := List.all_eq_true.1 g4 b hb; exact this)
  have hle:=Yd (s:=s) (by omega)
  obtain ⟨n,hn⟩:=Kp g3 hne hno (by omega) hs
  have hfull : nlE s=s.length:=by
   by_cases hz : (J8 n (s.drop (nlE s)) 1 [⟨1,s.take (nlE s),0,[],1⟩]).2=0
   ·obtain ⟨e,he⟩:=La n _ 1 _ hz
    rw[if_neg (by rw[hz]; simp)] at hn
    rw[hn,he] at h4
    have h4 : s.take (nlE s)=s:=h4
    have := congrArg List.length h4
    rw[List.length_take] at this
    omega
   ·rw[if_pos hz] at hn
    rw[hn] at h1
    exact absurd h1 hz
  simp only [E4,Bool.and_eq_true,decide_eq_true_eq]
  exact ⟨⟨⟨hne,g3⟩,hfull⟩,g2⟩
def M1 (a b : Int) : Int:=if a < b then -1 else if b < a then 1 else 0
theorem Cc (a b : Int) : Ctr sys 121 [xi a,xi b] [] (xi (M1 a b)) none []:=by
 refine D1 Tryz.func121 J J J J J J ?_;refine A8 (A6 ?_);refine A5 J J J (A9 J gU) ?_;refine B0 ?_;refine A8 ?_;refine A8 (A6 ?_);refine A5 J J J (A7 J gU) ?_;refine A5 J J J (A7 J gU) ?_;refine A5 J J J (B7 J J gU gU J) ?_;refine B0 ?_;refine B9 J (fun hc=>?_) (fun hc=>?_)
 ·refine A8 (A6 ?_)
  refine A5 J J J (A9 J gU) ?_;refine B0 ?_;refine C1 ?_
  repeat(first|refine tR ?_|refine bR ?_)
  refine C5 J ?_ O
  simp at hc; show xi _=xi _; simp [M1,hc]
 ·refine C0 ?_
  refine A8 ?_;refine A8 (A6 ?_);refine A5 J J J (A7 J gU) ?_;refine A5 J J J (A7 J gU) ?_;refine A5 J J J (B7 J J gU gU J) ?_;refine B0 ?_;refine B5 (s:=⟨[(10,_,_)],[],[],[]⟩) (B4 (⟨U J,O⟩) O O) ?_;refine B9 J (fun hc1=>?_) (fun hc1=>?_)
  ·refine A8 (A6 ?_)
   refine A5 J J J (A9 J gU) ?_;refine B0 ?_;refine C1 ?_
   repeat(first|refine tR ?_|refine bR ?_)
   refine C5 J ?_ O
   simp at hc hc1; show xi _=xi _; simp [M1,hc1]; omega
  ·refine C0 ?_
   refine A8 (A6 ?_);refine A5 J J J (A9 J gU) ?_;refine B0 ?_;refine C1 ?_
   repeat(first|refine tR ?_|refine bR ?_)
   refine C5 J ?_ O
   simp at hc hc1; show xi _=xi _; simp [M1]; omega
def uCe (t : T) (k : Nat) : St:={ t:=[(1,true, .v (.ptr (.l 1) 0)),(3,true,xi (1 + T.sizes (t.kids.take k))),(4,true,xi k)],bx:=[(.l 1,t.cells)],ow:=[] }
theorem Ci : ∀ (n : Nat) (t : T),t.size≤n→n≤2000000→Ctr sys 118 [.v (.agg t.cells)] [] (xi t.size) none []:=by
 intro n
 induction n with
 | zero=>intro t h _; have := t.size_pos; omega
 | succ n ih =>
  intro t ht hn
  refine D1 Tryz.func118 J J J J J J ?_;refine A8 (A6 ?_);refine C3 J (D8 J J J J) ?_;refine A5 J J J (A9 J gU) ?_;refine B0 ?_;refine A8 (A6 ?_);refine A5 J J J (A9 J gU) ?_;refine B0 ?_;refine A8 ?_;refine A8 (A6 ?_);refine A5 J J J (A9 J gU) ?_;refine B0 ?_;refine C4 ?_;refine P3 (uCe t) (fun k=>k≤t.kids.length) (fun k=>t.kids.length - k) 0 (Nat.zero_le _) ?_ ?_
  ·refine B4 ⟨⟨_,rfl,rfl⟩,⟨_,rfl,rfl⟩,⟨_,rfl,rfl⟩,O⟩ ⟨⟨_,rfl,rfl⟩,O⟩ O
  ·intro k hk
   refine A8 ?_;refine A8 (A6 ?_);refine A5 J J J (A7 J gU) ?_;refine A5 J J J (B1 J gU J J) ?_;refine A5 J J J (B2 J gU J J J J) ?_;refine D9 J J J J J gU J J ?_ (fun hh=>by simp at hh); intro hlen;refine A5 J J J (B7 J J gU gU J) ?_;refine B0 ?_;refine B5 (s:=⟨[(1,_,_),(3,_,_),(4,_,_),(9,_,_)],[(.l 1,_)],[],[]⟩) (B4 (⟨U J,U J,U J,U J,O⟩) (⟨U J,O⟩) O) ?_;refine B9 J (fun hc=>?_) (fun hc=>?_)
   ·rw[T.rows_len] at hlen hc
    have hlt : k < t.kids.length:=by simpa using hc
    obtain ⟨x,hx⟩ : ∃ x,t.kids[k]? = some x:=⟨_,List.getElem?_eq_getElem hlt⟩
    have h1:=T.sizes_take _ _ _ hx
    have h2:=T.sizes_take_le t.kids (k + 1)
    have h3:=t.size_eq
    have h4:=x.size_pos
    refine C0 ?_;refine A8 ?_;refine C4 ?_;refine A6 ?_;refine A5 J J J (A7 J gU) ?_;refine A5 J J J (B1 J gU J J) ?_;refine A5 J J J (B2 J gU J J J J) ?_;refine A5 J J J (A7 J gU) ?_;refine A5 J J J (C2 J J gU gU J J J (fun _=>T.rows_get hx)) ?_;refine A5 J J J (D4 J gU J J J J) ?_;refine C8 J J J J J J gU gU (ih x (by omega) (by omega)) J ?_;refine A5 J J J (D0 J J gU gU J (IntWalk.i64_in _ (by omega))) ?_;refine A5 J J J (A9 J gU) ?_;refine B0 ?_;refine B5 (s:=⟨[(1,_,_),(3,_,_),(4,_,_)],[(.l 1,_)],[],[]⟩) (B4 (⟨U J,U J,U J,O⟩) (⟨U J,O⟩) O) ?_;refine A6 ?_;refine A5 J J J (A7 J gU) ?_;refine A5 J J J (D0 J J gU gU J (IntWalk.i64_in _ (by omega))) ?_;refine A5 J J J (A9 J gU) ?_;refine B0 ?_;refine ⟨k + 1,by omega,by omega,?_⟩;refine B4 ⟨⟨_,rfl,rfl⟩,⟨_,rfl,?_⟩,⟨_,rfl,rfl⟩,O⟩ ⟨⟨_,rfl,rfl⟩,O⟩ O
    rw[h1]; simp; omega
   ·refine E2 ?_
    repeat(first|refine D5 ?_|refine D6 ?_|refine D2 J ?_)
    refine A8 (A6 ?_);refine A5 J J J (A7 J gU) ?_;refine A5 J J J (A9 J gU) ?_;refine B0 ?_;refine C1 ?_
    repeat(first|refine tR ?_|refine bR ?_)
    refine C5 J ?_ O
    rw[T.rows_len] at hc
    have : k=t.kids.length:=by simp at hc; omega
    subst this
    rw[List.take_length,t.size_eq]
    show xi _=xi _
    simp
theorem Lf (n : Int) : Ctr sys 171 [xu n] [] (xb (M6 n)) none []:=by
 refine D1 Tryz.func171 J J J J J J ?_;refine A8 (A6 ?_);refine A5 J J J (A9 J gU) ?_;refine B0 ?_;refine A8 (A6 ?_);refine A5 J J J (A7 J gU) ?_;refine A5 J J J (B7 J J gU gU J) ?_;refine A5 J J J (A7 J gU) ?_;refine A5 J J J (A7 J gU) ?_;refine A5 J J J (B7 J J (fun hh=>hh) gU J) ?_;refine A5 J J J (E0 J J gU (fun _ hi=>gP J hi)) ?_;refine A5 J J J (A7 J gU) ?_;refine A5 J J J (A7 J gU) ?_;refine A5 J J J (B7 J J (fun hh=>hh) gU J) ?_;refine A5 J J J (A7 J (fun hh=>hh)) ?_;refine A5 J J J (A7 J gU) ?_;refine A5 J J J (B7 J J (fun hh=>hh) gU J) ?_;refine A5 J J J (E0 J J (fun hh=>hh) (fun hh hi=>gP hh hi)) ?_;refine A5 J J J (E5 J J gU (fun _ hi=>gP J hi)) ?_;refine A5 J J J (A7 J gU) ?_;refine A5 J J J (A7 J gU) ?_;refine A5 J J J (B7 J J (fun hh=>hh) gU J) ?_;refine A5 J J J (A7 J (fun hh=>hh)) ?_;refine A5 J J J (A7 J gU) ?_;refine A5 J J J (B7 J J (fun hh=>hh) gU J) ?_;refine A5 J J J (E0 J J (fun hh=>hh) (fun hh hi=>gP hh hi)) ?_;refine A5 J J J (E5 J J gU (fun _ hi=>gP J hi)) ?_
 refine A5 J J J (A7 J gU) ?_;refine A5 J J J (A7 J gU) ?_;refine A5 J J J (B7 J J (fun hh=>hh) gU J) ?_;refine A5 J J J (E5 J J gU (fun _ hi=>gP J hi)) ?_;refine A5 J J J (A7 J gU) ?_;refine A5 J J J (A7 J gU) ?_;refine A5 J J J (B7 J J (fun hh=>hh) gU J) ?_;refine A5 J J J (E5 J J gU (fun _ hi=>gP J hi)) ?_;refine A5 J J J (A9 J gU) ?_;refine B0 ?_;refine C1 ?_
 repeat(first|refine tR ?_|refine bR ?_)
 refine C5 J ?_ O
 rfl
def N0 (t : T) : Int :=
 if (t.kind=1∨t.kind=2)∧0≤t.sort∧t.sort≤5∧t.kids.length=0∨t.kind=3∧t.sort=0 then
  if R2 t.name=true then (if 8 < t.kids.length then 3 else 0) else 2
 else 1
namespace T
mutual
def nodesE : T→Int
 | mk k n s ks=>if N0 (mk k n s ks)≠0 then N0 (mk k n s ks) else nodesEs ks
def nodesEs : List T→Int
 | []=>0
 | t :: ts=>if nodesE t≠0 then nodesE t else nodesEs ts
end
theorem nodesE_eq (t : T) : t.nodesE=if N0 t≠0 then N0 t else nodesEs t.kids:=by cases t; rw[nodesE]; rfl
theorem nodesEs_hit : ∀ (ts : List T) (k : Nat) (x : T),ts[k]? = some x→nodesEs (ts.take k)=0→x.nodesE≠0→nodesEs ts=x.nodesE
 | [],k,x,h,_,_=>by simp at h
 | t :: ts,0,x,h,_,hx=>by simp at h; subst h; rw[nodesEs,if_pos hx]
 | t :: ts,k + 1,x,h,h0,hx=>by
  rw[List.take_succ_cons,nodesEs] at h0
  rw[nodesEs]
  by_cases ht : t.nodesE=0
  ·rw[if_neg (by simpa using ht)] at h0
   rw[if_neg (by simpa using ht)]
   exact nodesEs_hit ts k x (by simpa using h) h0 hx
  ·rw[if_pos ht] at h0; exact absurd h0 ht
theorem nodesEs_step : ∀ (ts : List T) (k : Nat) (x : T),ts[k]? = some x→nodesEs (ts.take k)=0→x.nodesE=0→nodesEs (ts.take (k + 1))=0
 | [],k,x,h,_,_=>by simp at h
 | t :: ts,0,x,h,_,hx=>by simp at h; subst h; simp [nodesEs,hx]
 | t :: ts,k + 1,x,h,h0,hx=>by
  rw[List.take_succ_cons,nodesEs] at h0
  rw[List.take_succ_cons,nodesEs]
  by_cases ht : t.nodesE=0
  ·rw[if_neg (by simpa using ht)] at h0
   rw[if_neg (by simpa using ht)]
   exact nodesEs_step ts k x (by simpa using h) h0 hx
  ·rw[if_pos ht] at h0; exact absurd h0 ht
mutual
def depth : T→Nat
 | mk _ _ _ ks=>depths ks + 1
def depths : List T→Nat
 | []=>0
 | t :: ts=>max (depth t) (depths ts)
end
theorem depth_eq (t : T) : t.depth=depths t.kids + 1:=by cases t; rw[depth]; rfl
theorem depths_take : ∀ (ts : List T) (k : Nat) (x : T),ts[k]? = some x→depths (ts.take (k + 1))=max (depths (ts.take k)) x.depth
 | [],k,x,h=>by simp at h
 | t :: ts,0,x,h=>by simp at h; subst h; simp [depths]
 | t :: ts,k + 1,x,h=>by
  have := depths_take ts k x (by simpa using h)
  simp only [List.take_succ_cons,depths]
  omega
mutual
theorem depth_le : ∀ t : T,t.depth≤t.size
 | mk k n s ks=>by have := Lh ks; rw[depth,size]; omega
theorem Lh : ∀ ts : List T,depths ts≤sizes ts
 | []=>by simp [depths]
 | t :: ts=>by have h1:=depth_le t; have h2:=Lh ts; rw[depths,sizes]; omega
end
theorem depths_take_le : ∀ (ts : List T) (k : Nat),depths (ts.take k)≤depths ts
 | [],k=>by simp
 | t :: ts,0=>by simp [depths]
 | t :: ts,k + 1=>by have := depths_take_le ts k; simp only [List.take_succ_cons,depths]; omega
structure Chk where
 e : Int
 n : Int
 d : Int
mutual
def chk : T→Int→Int→Int→Chk
 | mk k nm s ks,lv,n,d=>if N0 (mk k nm s ks)≠0 then ⟨N0 (mk k nm s ks),n + 1,max d lv⟩ else chks ks (lv + 1) (n + 1) (max d lv)
def chks : List T→Int→Int→Int→Chk
 | [],_,n,d=>⟨0,n,d⟩
 | t :: ts,lv,n,d=>if (chk t lv n d).e≠0 then chk t lv n d else chks ts lv (chk t lv n d).n (chk t lv n d).d
end
theorem chk_eq (t : T) (lv n d : Int) : t.chk lv n d=if N0 t≠0 then ⟨N0 t,n + 1,max d lv⟩ else chks t.kids (lv + 1) (n + 1) (max d lv):=by cases t; rw[chk]; rfl
mutual
theorem chk_e : ∀ (t : T) (lv n d : Int),(t.chk lv n d).e=t.nodesE
 | mk k nm s ks,lv,n,d=>by
  rw[chk,nodesE]
  split
  ·rfl
  ·exact chks_e ks _ _ _
theorem chks_e : ∀ (ts : List T) (lv n d : Int),(chks ts lv n d).e=nodesEs ts
 | [],_,_,_=>by rw[chks,nodesEs]
 | t :: ts,lv,n,d=>by
  rw[chks,nodesEs]
  rw[chk_e t lv n d]
  split
  ·exact chk_e t lv n d
  ·exact chks_e ts _ _ _
end
mutual
theorem chk_n : ∀ (t : T) (lv n d : Int),n≤(t.chk lv n d).n∧(t.chk lv n d).n≤n + t.size∧(t.nodesE=0→(t.chk lv n d).n=n + t.size)
 | mk k nm s ks,lv,n,d=>by
  rw[chk,nodesE,size]
  have h:=chks_n ks (lv + 1) (n + 1) (max d lv)
  split
  ·dsimp only; exact ⟨by omega,by omega,fun hh=>absurd hh (by assumption)⟩
  ·exact ⟨by omega,by omega,fun hh=>by have := h.2.2 hh; omega⟩
theorem chks_n : ∀ (ts : List T) (lv n d : Int),n≤(chks ts lv n d).n∧(chks ts lv n d).n≤n + sizes ts∧(nodesEs ts=0→(chks ts lv n d).n=n + sizes ts)
 | [],_,n,_=>by rw[chks,sizes]; dsimp only; omega
 | t :: ts,lv,n,d=>by
  rw[chks,nodesEs,sizes,chk_e]
  have h:=chk_n t lv n d
  have h2:=chks_n ts lv (t.chk lv n d).n (t.chk lv n d).d
  split
  ·exact ⟨by omega,by omega,fun hh=>absurd hh (by assumption)⟩
  ·rename_i hz
   have hz' : t.nodesE=0:=by simpa using hz
   have := h.2.2 hz'
   exact ⟨by omega,by omega,fun hh=>by have := h2.2.2 hh; omega⟩
end
mutual
theorem chk_d : ∀ (t : T) (lv n d : Int),t.nodesE=0→(t.chk lv n d).d=max d (lv + t.depth - 1)
 | mk k nm s ks,lv,n,d,h=>by
  rw[nodesE] at h
  rw[chk,depth]
  split
  ·rename_i hz; rw[if_pos hz] at h; exact absurd h hz
  ·rename_i hz
   rw[if_neg hz] at h
   rw[Yl ks (lv + 1) (n + 1) (max d lv) h]
   split <;> omega
theorem Yl : ∀ (ts : List T) (lv n d : Int),nodesEs ts=0→(chks ts lv n d).d=if depths ts=0 then d else max d (lv + depths ts - 1)
 | [],_,n,d,_=>by rw[chks,depths]; simp
 | t :: ts,lv,n,d,h=>by
  rw[nodesEs] at h
  rw[chks,depths,chk_e]
  split
  ·rename_i hz; rw[if_pos hz] at h; exact absurd h hz
  ·rename_i hz
   rw[if_neg hz] at h
   rw[Yl ts lv _ _ h,chk_d t lv n d (by simpa using hz)]
   have hd : 1≤t.depth:=by rw[depth_eq]; omega
   split <;> split <;> omega
end
theorem Bp : ∀ (a b : List T) (lv n d : Int),chks (a++b) lv n d=if (chks a lv n d).e≠0 then chks a lv n d else chks b lv (chks a lv n d).n (chks a lv n d).d
 | [],b,lv,n,d=>by rw[List.nil_append]; simp [chks]
 | t :: a,b,lv,n,d=>by
  rw[List.cons_append,chks,chks]
  by_cases h : (t.chk lv n d).e≠0
  ·rw[if_pos h,if_pos h,if_pos h]
  ·rw[if_neg h,if_neg h,Bp a b]
theorem Xt {ts : List T} {k : Nat} {x : T} (h : ts[k]? = some x) : ts.take (k + 1)=ts.take k++[x]:=by
 rw[List.take_add_one,h]; rfl
theorem chks_step {ts : List T} {k : Nat} {x : T} {lv n d : Int} (h : ts[k]? = some x) (h0 : (chks (ts.take k) lv n d).e=0) (hx : x.nodesE=0) :
  chks (ts.take (k + 1)) lv n d=x.chk lv (chks (ts.take k) lv n d).n (chks (ts.take k) lv n d).d:=by
 rw[Xt h,Bp,if_neg (by simpa using h0),chks,chk_e,if_neg (by simpa using hx),chks]
 have := chk_e x lv (chks (ts.take k) lv n d).n (chks (ts.take k) lv n d).d
 rw[hx] at this
 cases hc : x.chk lv (chks (ts.take k) lv n d).n (chks (ts.take k) lv n d).d
 rw[hc] at this
 simp at this
 simp [this]
theorem chks_hit {ts : List T} {k : Nat} {x : T} {lv n d : Int} (h : ts[k]? = some x) (h0 : (chks (ts.take k) lv n d).e=0) (hx : x.nodesE≠0) :
  chks ts lv n d=x.chk lv (chks (ts.take k) lv n d).n (chks (ts.take k) lv n d).d:=by
 have hs : ts=ts.take k++(x :: ts.drop (k + 1)):=by
  have hlt:=(List.getElem?_eq_some_iff.1 h)
  obtain ⟨hl,he⟩:=hlt
  rw[← he,List.getElem_cons_drop,List.take_append_drop]
 conv=>lhs; rw[hs]
 rw[Bp,if_neg (by simpa using h0),chks,chk_e,if_pos hx]
end T
def U6 (t : T) : Int:=if t.nodesE≠0 then t.nodesE else if 400 < t.size∨40 < t.depth then 3 else 0
end Go.Proofs.YteidahabkfgfjaaGreat
namespace Go.Proofs.YteidahabkfgfjaaGreat
open Go Go.Abs
abbrev xm (t : T) : X:=.v (.agg t.cells)
abbrev xl (ts : List T) : X:=.v (.c (.sl 4 (T.rows ts)))
theorem Cg (v : Int) (h : M6 v=false∨(48≤v∧v≤57)∨v=95∨v=35) : I1 v=false:=by
 rcases h with h | h | h | h
 ·cases hl : I1 v with
  | false=>rfl
  | true=>simp [M6,hl] at h
 all_goals simp [I1]; omega
theorem Sk (v : Int) (h : M6 v=true) (h1 : ¬ (48≤v∧v≤57)) (h2 : ¬ v=95) (h3 : ¬ v=35) : I1 v=true:=by
 cases hl : I1 v with
 | true=>rfl
 | false=>simp [M6,hl,K4] at h; omega
def Zy (l : List UInt8) (k : Nat) : St:={ t:=[(0,true,xs l),(38,true,xi l.length),(39,true,xi k)],bx:=[],ow:=[] }
theorem Mg (l : List UInt8) : Ctr sys 168 [xs l] [] (xb (R2 l)) none []:=by
 refine D1 Tryz.func168 J J J J J J ?_;refine A8 (A6 ?_);refine A5 J J J (A9 J gU) ?_;refine B0 ?_;refine A8 ?_;refine A8 (A6 ?_);refine A5 J J J (A7 J gU) ?_;refine A5 J J J (G0 J J gU gU J) ?_;refine A5 J J J (A7 J gU) ?_;refine A5 J J J (A7 J gU) ?_;refine A5 J J J (O4 J (fun hh=>hh) (Tryz.underlying9)) ?_;refine A5 J J J (B7 J J (fun hh=>hh) gU J) ?_;refine A5 J J J (E5 J J gU (fun _ hi=>gP J hi)) ?_;refine A5 J J J (A7 J gU) ?_;refine A5 J J J (A7 J gU) ?_;refine A5 J J J (E6 J J (fun hh=>hh) gU Tryz.underlying9 J (by intro hh; simp at hh; exact List.length_pos_iff.2 hh.1)) ?_;refine C8 J J J J J J gU (fun hh=>gA ((fun hh=>hh) hh) (rfl)) (Lf _) J ?_;refine A5 J J J (F8 J (fun hh=>hh)) ?_;refine A5 J J J (E5 J J gU (fun _ hi=>gP J hi)) ?_;refine A5 J J J (A7 J gU) ?_;refine A5 J J J (A7 J gU) ?_;refine A5 J J J (E6 J J (fun hh=>hh) gU Tryz.underlying9 J (by intro hh; simp at hh; exact List.length_pos_iff.2 hh.1.1)) ?_;refine A5 J J J (B7 J J (fun hh=>hh) gU J) ?_;refine A5 J J J (A7 J (fun hh=>hh)) ?_
 refine A5 J J J (A7 J gU) ?_;refine A5 J J J (E6 J J (fun hh=>hh) gU Tryz.underlying9 J (by intro hh; simp at hh; exact List.length_pos_iff.2 hh.1.1.1)) ?_;refine A5 J J J (B7 J J (fun hh=>hh) gU J) ?_;refine A5 J J J (E0 J J (fun hh=>hh) (fun hh hi=>gP hh hi)) ?_;refine A5 J J J (E5 J J gU (fun _ hi=>gP J hi)) ?_;refine A5 J J J (A7 J gU) ?_;refine A5 J J J (A7 J gU) ?_;refine A5 J J J (E6 J J (fun hh=>hh) gU Tryz.underlying9 J (by intro hh; simp at hh; exact List.length_pos_iff.2 hh.1.1.1)) ?_;refine A5 J J J (B7 J J (fun hh=>hh) gU J) ?_;refine A5 J J J (E5 J J gU (fun _ hi=>gP J hi)) ?_;refine A5 J J J (A7 J gU) ?_;refine A5 J J J (A7 J gU) ?_;refine A5 J J J (E6 J J (fun hh=>hh) gU Tryz.underlying9 J (by intro hh; simp at hh; exact List.length_pos_iff.2 hh.1.1.1.1)) ?_;refine A5 J J J (B7 J J (fun hh=>hh) gU J) ?_;refine A5 J J J (E5 J J gU (fun _ hi=>gP J hi)) ?_;refine B0 ?_;refine B5 (s:=⟨[(0,_,_),(36,_,_)],[],[],[]⟩) (B4 (⟨U J,U J,O⟩) O O) ?_;refine B9 J (fun hc=>?_) (fun hc=>?_)
 ·refine A8 (A6 ?_)
  refine A5 J J J (A9 J gU) ?_;refine B0 ?_;refine C1 ?_
  repeat(first|refine tR ?_|refine bR ?_)
  refine C5 J ?_ O;refine M0 ?_
  simp only [Bool.or_eq_true,Bool.not_eq_true',decide_eq_true_eq,Bool.and_eq_true,beq_iff_eq] at hc
  rcases hc with ((((hc | hc) | hc) | hc) | hc) | hc
  ·subst hc; rfl
  ·have : ¬ l.length≤24:=by omega
   simp [R2,this]
  ·simp only [R2,Cg _ (.inl hc),Bool.and_false,Bool.false_and]
  ·simp only [R2,Cg _ (.inr (.inl hc)),Bool.and_false,Bool.false_and]
  ·simp only [R2,Cg _ (.inr (.inr (.inl hc))),Bool.and_false,Bool.false_and]
  ·simp only [R2,Cg _ (.inr (.inr (.inr hc))),Bool.and_false,Bool.false_and]
 ·simp only [Bool.or_eq_false_iff,Bool.not_eq_false',decide_eq_false_iff_not,beq_eq_false_iff_ne] at hc
  obtain ⟨⟨⟨⟨⟨hc1,hc2⟩,hc3⟩,hc4⟩,hc5⟩,hc6⟩:=hc
  have hlet:=Sk _ hc3 (by rintro ⟨q1,q2⟩; rw[decide_eq_true q1,decide_eq_true q2] at hc4; simp at hc4) hc5 hc6
  refine C0 ?_;refine A8 ?_;refine A8 (A6 ?_);refine A5 J J J (A7 J gU) ?_;refine L4 J J J J J gU (Tryz.underlying9) ?_ (fun hh=>by simp at hh); intro hlen;refine A5 J J J (A7 J gU) ?_;refine B0 ?_;refine C4 ?_;refine P3 (Zy l) (fun k=>k≤l.length ∧ ∀ j,j < k→M6 ((l.getD j 0).toNat : Int)=true) (fun k=>l.length - k) 0 ⟨Nat.zero_le _,fun j h=>by omega⟩ ?_ ?_
  ·refine B4 ⟨⟨_,rfl,rfl⟩,⟨_,rfl,rfl⟩,⟨_,rfl,rfl⟩,O⟩ O O
  ·rintro k ⟨hk,hall⟩
   refine A8 (A6 ?_);refine A5 J J J (B7 J J gU gU J) ?_;refine B0 ?_;refine A8 ?_;refine B9 J (fun hc2=>?_) (fun hc2=>?_)
   ·have hlt : k < l.length:=by simpa using hc2
    refine C0 ?_;refine A8 ?_;refine C4 ?_;refine A8 (A6 ?_);refine A5 J J J (A7 J gU) ?_;refine A5 J J J (A9 J gU) ?_;refine B0 ?_;refine A8 (A6 ?_);refine A5 J J J (A7 J gU) ?_;refine A5 J J J (A7 J gU) ?_;refine A5 J J J (E6 J J gU gU Tryz.underlying9 J (fun _=>hlt)) ?_;refine C8 J J J J J J gU gU (Lf _) J ?_;refine A5 J J J (F8 J gU) ?_;refine B0 ?_;refine B5 (s:=⟨[(0,_,_),(38,_,_),(39,_,_),(46,_,_)],[],[],[]⟩) (B4 (⟨U J,U J,U J,U J,O⟩) O O) ?_;refine B9 J (fun hc3=>?_) (fun hc3=>?_)
    ·refine A8 (A6 ?_)
     refine A5 J J J (A9 J gU) ?_;refine B0 ?_;refine C1 ?_
     repeat(first|refine tR ?_|refine bR ?_)
     refine C5 J ?_ O;refine M0 ?_
     have : (l.all fun b=>M6 (b.toNat : Int))=false:=Om hlt (by simpa using hc3)
     simp [R2,this]
    ·refine C0 ?_
     refine A6 ?_;refine A5 J J J (D0 J J gU gU J (IntWalk.i64_in _ (by omega))) ?_;refine A5 J J J (A7 J gU) ?_;refine B0 ?_;refine ⟨k + 1,⟨by omega,?_⟩,by omega,?_⟩
     ·intro j hj
      rcases Nat.lt_or_ge j k with h | h
      ·exact hall j h
      ·have : j=k:=by omega
       subst this
       simpa using hc3
     ·refine B4 ⟨⟨_,rfl,rfl⟩,⟨_,rfl,rfl⟩,⟨_,rfl,rfl⟩,O⟩ O O
   ·refine E2 ?_
    repeat(first|refine D5 ?_|refine D6 ?_|refine D2 J ?_)
    refine A8 (A6 ?_);refine A5 J J J (A9 J gU) ?_;refine B0 ?_;refine C1 ?_
    repeat(first|refine tR ?_|refine bR ?_)
    refine C5 J ?_ O;refine M0 ?_
    have hk' : k=l.length:=by simp at hc2; omega
    subst hk'
    have := uA5 (p := fun b=>M6 (b.toNat : Int)) hall
    have hne : l.length≠0 := by intro h; have := List.eq_nil_of_length_eq_zero h; simp [this] at hc1
    have h24 : l.length≤24:=by omega
    simp only [R2,this,hlet]
    rw[decide_eq_true hne,decide_eq_true h24]
    rfl
theorem Wh (t : T) : Ctr sys 148 [xm t] [] (xi (N0 t)) none []:=by
 refine D1 Tryz.func148 J J J J J J ?_;refine A8 (A6 ?_);refine C3 J (D8 J J J J) ?_;refine A5 J J J (A9 J gU) ?_;refine B0 ?_;refine A8 (A6 ?_);refine A5 J J J (B1 J gU J J) ?_;refine A5 J J J (B2 J gU J J J J) ?_;refine A5 J J J (B7 J J gU gU J) ?_;refine A5 J J J (A7 J gU) ?_;refine A5 J J J (B1 J gU J J) ?_;refine A5 J J J (B2 J (fun hh=>hh) J J J J) ?_;refine A5 J J J (B7 J J (fun hh=>hh) gU J) ?_;refine A5 J J J (E5 J J gU (fun _ hi=>gP J hi)) ?_;refine A5 J J J (A9 J gU) ?_;refine B0 ?_;refine B5 (s:=⟨[(1,_,_),(3,_,_)],[(.l 1,_)],[],[]⟩) (B4 (⟨U J,U J,O⟩) (⟨U J,O⟩) O) ?_;refine A8 ?_;refine A8 (A6 ?_);refine A5 J J J (A7 J gU) ?_;refine A5 J J J (F8 J gU) ?_;refine A5 J J J (A7 J gU) ?_;refine A5 J J J (B1 J gU J J) ?_;refine A5 J J J (B2 J (fun hh=>hh) J J J J) ?_;refine A5 J J J (B7 J J (fun hh=>hh) gU J) ?_;refine A5 J J J (E0 J J gU (fun _ hi=>gP J hi)) ?_;refine A5 J J J (A7 J gU) ?_
 refine A5 J J J (B1 J gU J J) ?_;refine A5 J J J (B2 J (fun hh=>hh) J J J J) ?_;refine A5 J J J (B7 J J (fun hh=>hh) gU J) ?_;refine A5 J J J (E5 J J gU (fun _ hi=>gP J hi)) ?_;refine A5 J J J (A7 J gU) ?_;refine A5 J J J (B1 J gU J J) ?_;refine A5 J J J (B2 J (fun hh=>hh) J J J J) ?_;refine A5 J J J (B7 J J (fun hh=>hh) gU J) ?_;refine A5 J J J (E5 J J gU (fun _ hi=>gP J hi)) ?_;refine A5 J J J (A7 J gU) ?_;refine A5 J J J (A7 J gU) ?_;refine A5 J J J (F8 J (fun hh=>hh)) ?_;refine A5 J J J (A7 J (fun hh=>hh)) ?_;refine A5 J J J (B1 J gU J J) ?_;refine A5 J J J (B2 J (fun hh=>hh) J J J J) ?_;refine A5 J J J (B7 J J (fun hh=>hh) gU J) ?_;refine A5 J J J (E0 J J (fun hh=>hh) (fun hh hi=>gP hh hi)) ?_;refine A5 J J J (E5 J J gU (fun _ hi=>gP J hi)) ?_;refine A5 J J J (A7 J gU) ?_;refine A5 J J J (A7 J gU) ?_;refine A5 J J J (A7 J (fun hh=>hh)) ?_;refine A5 J J J (B1 J gU J J) ?_;refine A5 J J J (B2 J (fun hh=>hh) J J J J) ?_
 refine A5 J J J (G7 J (fun hh=>hh) J J) ?_;refine A5 J J J (B7 J J (fun hh=>hh) gU J) ?_;refine A5 J J J (E0 J J (fun hh=>hh) (fun hh hi=>gP hh hi)) ?_;refine A5 J J J (E5 J J gU (fun _ hi=>gP J hi)) ?_;refine B0 ?_;refine B5 (s:=⟨[(1,_,_),(46,_,_)],[(.l 1,_)],[],[]⟩) (B4 (⟨U J,U J,O⟩) (⟨U J,O⟩) O) ?_;refine B9 J (fun hc=>?_) (fun hc=>?_)
 ·refine A8 (A6 ?_)
  refine A5 J J J (A9 J gU) ?_;refine B0 ?_;refine C1 ?_
  repeat(first|refine tR ?_|refine bR ?_)
  refine C5 J ?_ O;refine H2 ?_
  rw[N0,if_neg]
  simp only [Bool.or_eq_true,Bool.and_eq_true,Bool.not_eq_true',Bool.or_eq_false_iff,decide_eq_true_eq,bne_iff_ne,ne_eq,beq_iff_eq,beq_eq_false_iff_ne,T.rows_len] at hc
  rintro (⟨h1,h2,h3,h4⟩ | ⟨h1,h2⟩) <;> omega
 ·have hok : (t.kind=1∨t.kind=2)∧0≤t.sort∧t.sort≤5∧t.kids.length=0∨t.kind=3∧t.sort=0:=by
   simp only [Bool.or_eq_false_iff,Bool.and_eq_false_iff,Bool.not_eq_false',Bool.or_eq_true,decide_eq_false_iff_not,bne_eq_false_iff_eq,beq_iff_eq,beq_eq_false_iff_ne,ne_eq,T.rows_len] at hc
   omega
  refine C0 ?_;refine A8 ?_;refine A8 (A6 ?_);refine A5 J J J (B1 J gU J J) ?_;refine A5 J J J (B2 J gU J J J J) ?_;refine C8 J J J J J J gU gU (Fq _) J ?_;refine A5 J J J (F8 J gU) ?_;refine B0 ?_;refine B9 J (fun hc2=>?_) (fun hc2=>?_)
  ·refine A8 (A6 ?_)
   refine A5 J J J (A9 J gU) ?_;refine B0 ?_;refine C1 ?_
   repeat(first|refine tR ?_|refine bR ?_)
   refine C5 J ?_ O;refine H2 ?_
   simp only [Bool.not_eq_true'] at hc2
   rw[N0,if_pos hok,if_neg (by rw[hc2]; simp)]
  ·simp only [Bool.not_eq_false'] at hc2
   refine C0 ?_;refine A8 ?_;refine A8 (A6 ?_);refine A5 J J J (B1 J gU J J) ?_;refine A5 J J J (B2 J gU J J J J) ?_;refine D9 J J J J J gU J J ?_ (fun hh=>by simp at hh); intro hlen;refine A5 J J J (B7 J J gU gU J) ?_;refine B0 ?_;refine B5 (s:=⟨[(54,_,_)],[],[],[]⟩) (B4 (⟨U J,O⟩) O O) ?_;refine B9 J (fun hc3=>?_) (fun hc3=>?_)
   ·refine A8 (A6 ?_)
    refine A5 J J J (A9 J gU) ?_;refine B0 ?_;refine C1 ?_
    repeat(first|refine tR ?_|refine bR ?_)
    refine C5 J ?_ O;refine H2 ?_
    simp only [T.rows_len,decide_eq_true_eq] at hc3
    rw[N0,if_pos hok,if_pos hc2,if_pos (by omega)]
   ·refine C0 ?_
    refine A8 (A6 ?_);refine A5 J J J (A9 J gU) ?_;refine B0 ?_;refine C1 ?_
    repeat(first|refine tR ?_|refine bR ?_)
    refine C5 J ?_ O;refine H2 ?_
    simp only [T.rows_len,decide_eq_false_iff_not] at hc3
    rw[N0,if_pos hok,if_pos hc2,if_neg (by omega)]
def uB1 (t : T) (k : Nat) : St:={ t:=[(1,true, .v (.ptr (.l 1) 0)),(4,true,xi k)],bx:=[(.l 1,t.cells)],ow:=[] }
theorem Rx : ∀ (n : Nat) (t : T),t.size≤n→n≤2000000→Ctr sys 122 [xm t] [] (xi t.nodesE) none []:=by
 intro n
 induction n with
 | zero=>intro t h _; have := t.size_pos; omega
 | succ n ih =>
  intro t ht hn
  refine D1 Tryz.func122 J J J J J J ?_;refine A8 (A6 ?_);refine C3 J (D8 J J J J) ?_;refine A5 J J J (A9 J gU) ?_;refine B0 ?_;refine A8 ?_;refine A8 (A6 ?_);refine A5 J J J (B8 J gU J J J J J) ?_;refine C8 J J J J J J gU gU (Wh t) J ?_;refine A5 J J J (A9 J gU) ?_;refine B0 ?_;refine B5 (s:=⟨[(1,_,_),(3,_,_)],[(.l 1,_)],[],[]⟩) (B4 (⟨U J,U J,O⟩) (⟨U J,O⟩) O) ?_;refine A8 (A6 ?_);refine A5 J J J (A7 J gU) ?_;refine A5 J J J (B7 J J gU gU J) ?_;refine B0 ?_;refine B9 J (fun hc=>?_) (fun hc=>?_)
  ·refine A8 (A6 ?_)
   refine A5 J J J (A7 J gU) ?_;refine A5 J J J (A9 J gU) ?_;refine B0 ?_;refine C1 ?_
   repeat(first|refine tR ?_|refine bR ?_)
   refine C5 J ?_ O;refine H2 ?_
   rw[T.nodesE_eq,if_pos (by simpa using hc)]
  ·refine C0 ?_
   refine A8 ?_;refine A8 (A6 ?_);refine A5 J J J (A9 J gU) ?_;refine B0 ?_;refine C4 ?_
   have hz : N0 t=0:=by simpa using hc
   refine P3 (uB1 t) (fun k=>k≤t.kids.length∧T.nodesEs (t.kids.take k)=0) (fun k=>t.kids.length - k) 0 ⟨Nat.zero_le _,by simp [T.nodesEs]⟩ ?_ ?_
   ·refine B4 ⟨⟨_,rfl,rfl⟩,⟨_,rfl,rfl⟩,O⟩ ⟨⟨_,rfl,rfl⟩,O⟩ O
   ·rintro k ⟨hk,h0⟩
    refine A8 ?_;refine A8 (A6 ?_);refine A5 J J J (A7 J gU) ?_;refine A5 J J J (B1 J gU J J) ?_;refine A5 J J J (B2 J gU J J J J) ?_;refine D9 J J J J J gU J J ?_ (fun hh=>by simp at hh); intro hlen;refine A5 J J J (B7 J J gU gU J) ?_;refine B0 ?_;refine B5 (s:=⟨[(1,_,_),(4,_,_),(15,_,_)],[(.l 1,_)],[],[]⟩) (B4 (⟨U J,U J,U J,O⟩) (⟨U J,O⟩) O) ?_;refine B9 J (fun hc2=>?_) (fun hc2=>?_)
    ·rw[T.rows_len] at hlen hc2
     have hlt : k < t.kids.length:=by simpa using hc2
     obtain ⟨x,hx⟩ : ∃ x,t.kids[k]? = some x:=⟨_,List.getElem?_eq_getElem hlt⟩
     have h3:=T.size_kid hx
     refine C0 ?_;refine A8 ?_;refine C4 ?_;refine A8 (A6 ?_);refine A5 J J J (B1 J gU J J) ?_;refine A5 J J J (B2 J gU J J J J) ?_;refine A5 J J J (A7 J gU) ?_;refine A5 J J J (C2 J J gU gU J J J (fun _=>T.rows_get hx)) ?_;refine A5 J J J (D4 J gU J J J J) ?_;refine C8 J J J J J J gU gU (ih x (by omega) (by omega)) J ?_;refine A5 J J J (A9 J gU) ?_;refine B0 ?_;refine B5 (s:=⟨[(1,_,_),(4,_,_),(5,_,_)],[(.l 1,_)],[],[]⟩) (B4 (⟨U J,U J,U J,O⟩) (⟨U J,O⟩) O) ?_;refine A8 (A6 ?_);refine A5 J J J (A7 J gU) ?_;refine A5 J J J (B7 J J gU gU J) ?_;refine B0 ?_;refine B9 J (fun hc3=>?_) (fun hc3=>?_)
     ·refine A8 (A6 ?_)
      refine A5 J J J (A7 J gU) ?_;refine A5 J J J (A9 J gU) ?_;refine B0 ?_;refine C1 ?_
      repeat(first|refine tR ?_|refine bR ?_)
      refine C5 J ?_ O;refine H2 ?_
      rw[T.nodesE_eq t,if_neg (by simpa using hz),T.nodesEs_hit _ _ _ hx h0 (by simpa using hc3)]
     ·refine C0 ?_
      refine A6 ?_;refine A5 J J J (A7 J gU) ?_;refine A5 J J J (D0 J J gU gU J (IntWalk.i64_in _ (by omega))) ?_;refine A5 J J J (A9 J gU) ?_;refine B0 ?_;refine ⟨k + 1,⟨by omega,T.nodesEs_step _ _ _ hx h0 (by simpa using hc3)⟩,by omega,?_⟩;refine B4 ⟨⟨_,rfl,rfl⟩,⟨_,rfl,rfl⟩,O⟩ ⟨⟨_,rfl,rfl⟩,O⟩ O
    ·refine E2 ?_
     repeat(first|refine D5 ?_|refine D6 ?_|refine D2 J ?_)
     refine A8 (A6 ?_);refine A5 J J J (A9 J gU) ?_;refine B0 ?_;refine C1 ?_
     repeat(first|refine tR ?_|refine bR ?_)
     refine C5 J ?_ O
     rw[T.rows_len] at hc2
     have : k=t.kids.length:=by simp at hc2; omega
     subst this
     rw[List.take_length] at h0
     refine H2 ?_
     rw[T.nodesE_eq t,if_neg (by simpa using hz),h0]
def uBV (t : T) (k : Nat) : St:={ t:=[(1,true, .v (.ptr (.l 1) 0)),(3,true,xi (T.depths (t.kids.take k))),(4,true,xi k)],bx:=[(.l 1,t.cells)],ow:=[] }
theorem Sa : ∀ (n : Nat) (t : T),t.size≤n→n≤2000000→Ctr sys 123 [xm t] [] (xi t.depth) none []:=by
 intro n
 induction n with
 | zero=>intro t h _; have := t.size_pos; omega
 | succ n ih =>
  intro t ht hn
  refine D1 Tryz.func123 J J J J J J ?_;refine A8 (A6 ?_);refine C3 J (D8 J J J J) ?_;refine A5 J J J (A9 J gU) ?_;refine B0 ?_;refine A8 (A6 ?_);refine A5 J J J (A9 J gU) ?_;refine B0 ?_;refine A8 ?_;refine A8 (A6 ?_);refine A5 J J J (A9 J gU) ?_;refine B0 ?_;refine C4 ?_;refine P3 (uBV t) (fun k=>k≤t.kids.length) (fun k=>t.kids.length - k) 0 (Nat.zero_le _) ?_ ?_
  ·refine B4 ⟨⟨_,rfl,rfl⟩,⟨_,rfl,rfl⟩,⟨_,rfl,rfl⟩,O⟩ ⟨⟨_,rfl,rfl⟩,O⟩ O
  ·intro k hk
   have hd1:=T.depths_take_le t.kids k
   have hd2:=t.depth_le
   have hd3:=t.depth_eq
   refine A8 ?_;refine A8 (A6 ?_);refine A5 J J J (A7 J gU) ?_;refine A5 J J J (B1 J gU J J) ?_;refine A5 J J J (B2 J gU J J J J) ?_;refine D9 J J J J J gU J J ?_ (fun hh=>by simp at hh); intro hlen;refine A5 J J J (B7 J J gU gU J) ?_;refine B0 ?_;refine B5 (s:=⟨[(1,_,_),(3,_,_),(4,_,_),(9,_,_)],[(.l 1,_)],[],[]⟩) (B4 (⟨U J,U J,U J,U J,O⟩) (⟨U J,O⟩) O) ?_;refine B9 J (fun hc=>?_) (fun hc=>?_)
   ·rw[T.rows_len] at hlen hc
    have hlt : k < t.kids.length:=by simpa using hc
    obtain ⟨x,hx⟩ : ∃ x,t.kids[k]? = some x:=⟨_,List.getElem?_eq_getElem hlt⟩
    have h1:=T.depths_take _ _ _ hx
    have h3:=T.size_kid hx
    refine C0 ?_;refine A8 ?_;refine C4 ?_;refine A6 ?_;refine A5 J J J (A7 J gU) ?_;refine A5 J J J (B1 J gU J J) ?_;refine A5 J J J (B2 J gU J J J J) ?_;refine A5 J J J (A7 J gU) ?_;refine A5 J J J (C2 J J gU gU J J J (fun _=>T.rows_get hx)) ?_;refine A5 J J J (D4 J gU J J J J) ?_;refine C8 J J J J J J gU gU (ih x (by omega) (by omega)) J ?_;refine A5 J J J (Po J J gU gU) ?_;refine A5 J J J (A9 J gU) ?_;refine B0 ?_;refine B5 (s:=⟨[(1,_,_),(3,_,_),(4,_,_)],[(.l 1,_)],[],[]⟩) (B4 (⟨U J,U J,U J,O⟩) (⟨U J,O⟩) O) ?_;refine A6 ?_;refine A5 J J J (A7 J gU) ?_;refine A5 J J J (D0 J J gU gU J (IntWalk.i64_in _ (by omega))) ?_;refine A5 J J J (A9 J gU) ?_;refine B0 ?_;refine ⟨k + 1,by omega,by omega,?_⟩;refine B4 ⟨⟨_,rfl,rfl⟩,⟨_,rfl,?_⟩,⟨_,rfl,rfl⟩,O⟩ ⟨⟨_,rfl,rfl⟩,O⟩ O
    rw[h1]; simp; omega
   ·refine E2 ?_
    repeat(first|refine D5 ?_|refine D6 ?_|refine D2 J ?_)
    refine A8 (A6 ?_);refine A5 J J J (A7 J gU) ?_;refine A5 J J J (D0 J J gU gU J (IntWalk.i64_in _ (by omega))) ?_;refine A5 J J J (A9 J gU) ?_;refine B0 ?_;refine C1 ?_
    repeat(first|refine tR ?_|refine bR ?_)
    refine C5 J ?_ O
    rw[T.rows_len] at hc
    have : k=t.kids.length:=by simp at hc; omega
    subst this
    refine H2 ?_
    rw[List.take_length,t.depth_eq]
    simp
theorem Sy (t : T) (h : t.size≤2000000) : Ctr sys 96 [xm t] [] (xi (U6 t)) none []:=by
 refine D1 Tryz.func96 J J J J J J ?_;refine A8 (A6 ?_);refine C3 J (D8 J J J J) ?_;refine A5 J J J (A9 J gU) ?_;refine B0 ?_;refine A8 ?_;refine A8 (A6 ?_);refine A5 J J J (B8 J gU J J J J J) ?_;refine C8 J J J J J J gU gU (Rx _ t (Nat.le_refl _) h) J ?_;refine A5 J J J (A9 J gU) ?_;refine B0 ?_;refine B5 (s:=⟨[(1,_,_),(3,_,_)],[(.l 1,_)],[],[]⟩) (B4 (⟨U J,U J,O⟩) (⟨U J,O⟩) O) ?_;refine A8 (A6 ?_);refine A5 J J J (A7 J gU) ?_;refine A5 J J J (B7 J J gU gU J) ?_;refine B0 ?_;refine B9 J (fun hc=>?_) (fun hc=>?_)
 ·refine A8 (A6 ?_)
  refine A5 J J J (A7 J gU) ?_;refine A5 J J J (A9 J gU) ?_;refine B0 ?_;refine C1 ?_
  repeat(first|refine tR ?_|refine bR ?_)
  refine C5 J ?_ O;refine H2 ?_
  rw[U6,if_pos (by simpa using hc)]
 ·refine C0 ?_
  refine A8 ?_;refine A8 (A6 ?_);refine A5 J J J (B8 J gU J J J J J) ?_;refine C8 J J J J J J gU gU (Ci _ t (Nat.le_refl _) h) J ?_;refine A5 J J J (B7 J J gU gU J) ?_;refine A5 J J J (A7 J gU) ?_;refine A5 J J J (B8 J gU J J J J J) ?_;refine C8 J J J J J J gU (fun hh=>gA ((fun hh=>hh) hh) (rfl)) (Sa _ t (Nat.le_refl _) h) J ?_;refine A5 J J J (B7 J J (fun hh=>hh) gU J) ?_;refine A5 J J J (E5 J J gU (fun _ hi=>gP J hi)) ?_;refine B0 ?_;refine B5 (s:=⟨[(16,_,_)],[],[],[]⟩) (B4 (⟨U J,O⟩) O O) ?_
  have hz : t.nodesE=0:=by simpa using hc
  refine B9 J (fun hc2=>?_) (fun hc2=>?_)
  ·refine A8 (A6 ?_)
   refine A5 J J J (A9 J gU) ?_;refine B0 ?_;refine C1 ?_
   repeat(first|refine tR ?_|refine bR ?_)
   refine C5 J ?_ O;refine H2 ?_
   simp only [Bool.or_eq_true,decide_eq_true_eq] at hc2
   rw[U6,if_neg (by simpa using hz),if_pos (by omega)]
  ·refine C0 ?_
   refine A8 (A6 ?_);refine A5 J J J (A9 J gU) ?_;refine B0 ?_;refine C1 ?_
   repeat(first|refine tR ?_|refine bR ?_)
   refine C5 J ?_ O;refine H2 ?_
   simp only [Bool.or_eq_false_iff,decide_eq_false_iff_not] at hc2
   rw[U6,if_neg (by simpa using hz),if_neg (by omega)]
def uB0 (t : T) (lv n d : Int) : St:={ t:=[(1,true,xi lv),(2,true, .v (.ptr (.o 0) 0)),(3,true, .v (.ptr (.o 1) 0)),(4,true, .v (.ptr (.l 4) 0))],bx:=[(.l 4,t.cells),(.o 0,[.i .i64 (n + 1)]),(.o 1,[.i .i64 (max d lv)])],ow:=[] }
def uB2 (t : T) (lv n d : Int) (k : Nat) : St:={ t:=[(1,true,xi lv),(2,true, .v (.ptr (.o 0) 0)),(3,true, .v (.ptr (.o 1) 0)),(57,true,xl t.kids),(58,true,xi t.kids.length),(59,true,xi k)],bx:=[(.o 0,[.i .i64 (T.chks (t.kids.take k) (lv + 1) (n + 1) (max d lv)).n]),(.o 1,[.i .i64 (T.chks (t.kids.take k) (lv + 1) (n + 1) (max d lv)).d])],ow:=[] }
theorem Sg : ∀ (b : Nat) (t : T) (lv n d : Int),t.size≤b→b≤2000000→0≤n→n + t.size≤2000000→0≤lv→lv + t.size≤2000000 →
  Ctr sys 158 [xm t,xi lv, .v (.ptr (.o 0) 0), .v (.ptr (.o 1) 0)] [[.i .i64 n],[.i .i64 d]] (xi t.nodesE) none [[.i .i64 (t.chk lv n d).n],[.i .i64 (t.chk lv n d).d]]:=by
 intro b
 induction b with
 | zero=>intro t _ _ _ h; have := t.size_pos; omega
 | succ b ih =>
  intro t lv n d ht hb hn hn2 hl hl2
  have hsz:=t.size_pos
  have hbad : N0 t≠0→t.nodesE=N0 t∧t.chk lv n d=⟨N0 t,n + 1,max d lv⟩:=fun h=>⟨by rw[T.nodesE_eq,if_pos h],by rw[T.chk_eq,if_pos h]⟩
  refine D1 Tryz.func158 J J J J J J ?_;refine A8 (A6 ?_);refine C3 J (D8 J J J J) ?_;refine A5 J J J (A9 J gU) ?_;refine B0 ?_;refine A8 (A6 ?_);refine A5 J J J (A7 J gU) ?_;refine A5 J J J (O6 J gU) ?_;refine A5 J J J (B2 J gU J J J J) ?_;refine A5 J J J (D0 J J gU gU J (IntWalk.i64_in _ (by omega))) ?_;refine A5 J J J (O6 J gU) ?_;refine C3 J (C7 J J J J J J J) ?_;refine B0 ?_;refine B5 (s:=⟨[(1,_,_),(2,_,_),(3,_,_),(4,_,_)],[(.l 4,_),(.o 0,_),(.o 1,_)],[],[]⟩) (B4 (⟨U J,U J,U J,U J,O⟩) (⟨U J,U J,U J,O⟩) O) ?_;refine A8 (A6 ?_);refine A5 J J J (A7 J gU) ?_;refine A5 J J J (A7 J gU) ?_;refine A5 J J J (O6 J gU) ?_;refine A5 J J J (B2 J gU J J J J) ?_;refine A5 J J J (A7 J gU) ?_;refine A5 J J J (Po J J gU gU) ?_;refine A5 J J J (O6 J gU) ?_;refine C3 J (C7 J J J J J J J) ?_;refine B0 ?_;refine B5 (s:=⟨[(1,_,_),(2,_,_),(3,_,_),(4,_,_)],[(.l 4,_),(.o 0,_),(.o 1,_)],[],[]⟩) (B4 (⟨U J,U J,U J,U J,O⟩) (⟨U J,U J,U J,O⟩) O) ?_
  refine Ul (uB0 t lv n d) ((t.kind=1∨t.kind=2)∧0≤t.sort∧t.sort≤5∧t.kids.length=0∨t.kind=3∧t.sort=0) ?_ (fun hj=>?_)
  ·have h1 : ∀ h : ¬ ((t.kind=1∨t.kind=2)∧0≤t.sort∧t.sort≤5∧t.kids.length=0∨t.kind=3∧t.sort=0),t.nodesE=1∧t.chk lv n d=⟨1,n + 1,max d lv⟩:=by
    intro h
    have hq : N0 t=1:=by rw[N0,if_neg h]
    have := hbad (by rw[hq]; omega)
    rw[hq] at this; exact this
   refine A8 (A6 ?_);refine A5 J J J (B1 J gU J J) ?_;refine A5 J J J (B2 J gU J J J J) ?_;refine B0 ?_;refine C4 ?_;refine A8 ?_;refine A8 (A6 ?_);refine A5 J J J (B7 J J gU gU J) ?_;refine A5 J J J (A9 J gU) ?_;refine B0 ?_;refine B9 J (fun hc=>?_) (fun hc=>?_)
   ·refine C0 ?_
    refine B9 J (fun hc2=>?_) (fun hc2=>?_)
    ·refine A8 (A6 ?_)
     refine A5 J J J (B1 J gU J J) ?_;refine A5 J J J (B2 J gU J J J J) ?_;refine A5 J J J (B7 J J gU gU J) ?_;refine A5 J J J (A7 J gU) ?_;refine A5 J J J (B1 J gU J J) ?_;refine A5 J J J (B2 J (fun hh=>hh) J J J J) ?_;refine A5 J J J (B7 J J (fun hh=>hh) gU J) ?_;refine A5 J J J (E5 J J gU (fun _ hi=>gP J hi)) ?_;refine A5 J J J (A7 J gU) ?_;refine A5 J J J (B1 J gU J J) ?_;refine A5 J J J (B2 J (fun hh=>hh) J J J J) ?_;refine A5 J J J (G7 J (fun hh=>hh) J J) ?_;refine A5 J J J (B7 J J (fun hh=>hh) gU J) ?_;refine A5 J J J (E5 J J gU (fun _ hi=>gP J hi)) ?_;refine B0 ?_;refine B5 (s:=⟨[(1,_,_),(2,_,_),(3,_,_),(4,_,_),(42,_,_)],[(.l 4,_),(.o 0,_),(.o 1,_)],[],[]⟩) (B4 (⟨U J,U J,U J,U J,U J,O⟩) (⟨U J,U J,U J,O⟩) O) ?_;refine B9 J (fun hc3=>?_) (fun hc3=>?_)
     ·refine A8 (A6 ?_)
      refine A5 J J J (A9 J gU) ?_;refine B0 ?_;refine C1 ?_
      repeat(first|refine tR ?_|refine bR ?_)
      refine C5 J ?_ (⟨⟨_,rfl,?_⟩,⟨⟨_,rfl,?_⟩,O⟩⟩)
      all_goals (
       have hno:=h1 (by
        simp only [Bool.or_eq_true,decide_eq_true_eq,decide_eq_false_iff_not,beq_iff_eq,bne_iff_ne,ne_eq,beq_eq_false_iff_ne,T.rows_len] at hc hc3
        rintro (⟨q1,q2,q3,q4⟩ | ⟨q1,q2⟩) <;> omega)
       first|exact H2 hno.1.symm|(rw[hno.2]; done)|(rw[hno.2]; rfl))
     ·refine C0 ?_
      refine ⟨.inl ?_,?_⟩
      ·simp only [Bool.or_eq_false_iff,decide_eq_false_iff_not,beq_iff_eq,T.rows_len] at hc hc3
       omega
      ·refine B4 ⟨⟨_,rfl,rfl⟩,⟨_,rfl,rfl⟩,⟨_,rfl,rfl⟩,⟨_,rfl,rfl⟩,O⟩ ⟨⟨_,rfl,rfl⟩,⟨_,rfl,rfl⟩,⟨_,rfl,rfl⟩,O⟩ O
    ·rw[hc] at hc2; simp at hc2
   ·refine A6 ?_
    refine A5 J J J (B7 J J gU gU J) ?_;refine A5 J J J (A9 J gU) ?_;refine B0 ?_;refine B5 (s:=⟨[(1,_,_),(2,_,_),(3,_,_),(4,_,_),(25,_,_),(26,_,_)],[(.l 4,_),(.o 0,_),(.o 1,_)],[],[]⟩) (B4 (⟨U J,U J,U J,U J,U J,U J,O⟩) (⟨U J,U J,U J,O⟩) O) ?_;refine B9 J (fun hc2=>?_) (fun hc2=>?_)
    ·refine A8 (A6 ?_)
     refine A5 J J J (B1 J gU J J) ?_;refine A5 J J J (B2 J gU J J J J) ?_;refine A5 J J J (B7 J J gU gU J) ?_;refine A5 J J J (A7 J gU) ?_;refine A5 J J J (B1 J gU J J) ?_;refine A5 J J J (B2 J (fun hh=>hh) J J J J) ?_;refine A5 J J J (B7 J J (fun hh=>hh) gU J) ?_;refine A5 J J J (E5 J J gU (fun _ hi=>gP J hi)) ?_;refine A5 J J J (A7 J gU) ?_;refine A5 J J J (B1 J gU J J) ?_;refine A5 J J J (B2 J (fun hh=>hh) J J J J) ?_;refine A5 J J J (G7 J (fun hh=>hh) J J) ?_;refine A5 J J J (B7 J J (fun hh=>hh) gU J) ?_;refine A5 J J J (E5 J J gU (fun _ hi=>gP J hi)) ?_;refine B0 ?_;refine B5 (s:=⟨[(1,_,_),(2,_,_),(3,_,_),(4,_,_),(42,_,_)],[(.l 4,_),(.o 0,_),(.o 1,_)],[],[]⟩) (B4 (⟨U J,U J,U J,U J,U J,O⟩) (⟨U J,U J,U J,O⟩) O) ?_;refine B9 J (fun hc3=>?_) (fun hc3=>?_)
     ·refine A8 (A6 ?_)
      refine A5 J J J (A9 J gU) ?_;refine B0 ?_;refine C1 ?_
      repeat(first|refine tR ?_|refine bR ?_)
      refine C5 J ?_ (⟨⟨_,rfl,?_⟩,⟨⟨_,rfl,?_⟩,O⟩⟩)
      all_goals (
       have hno:=h1 (by
        simp only [Bool.or_eq_true,decide_eq_true_eq,decide_eq_false_iff_not,beq_iff_eq,bne_iff_ne,ne_eq,beq_eq_false_iff_ne,T.rows_len] at hc hc2 hc3
        rintro (⟨q1,q2,q3,q4⟩ | ⟨q1,q2⟩) <;> omega)
       first|exact H2 hno.1.symm|(rw[hno.2]; done)|(rw[hno.2]; rfl))
     ·refine C0 ?_
      refine ⟨.inl ?_,?_⟩
      ·simp only [Bool.or_eq_false_iff,decide_eq_false_iff_not,beq_iff_eq,T.rows_len] at hc2 hc3
       omega
      ·refine B4 ⟨⟨_,rfl,rfl⟩,⟨_,rfl,rfl⟩,⟨_,rfl,rfl⟩,⟨_,rfl,rfl⟩,O⟩ ⟨⟨_,rfl,rfl⟩,⟨_,rfl,rfl⟩,⟨_,rfl,rfl⟩,O⟩ O
    ·refine A8 (A6 ?_)
     refine A5 J J J (B7 J J gU gU J) ?_;refine A5 J J J (A9 J gU) ?_;refine B0 ?_;refine B9 J (fun hc3=>?_) (fun hc3=>?_)
     ·refine A8 (A6 ?_)
      refine A5 J J J (B1 J gU J J) ?_;refine A5 J J J (B2 J gU J J J J) ?_;refine A5 J J J (B7 J J gU gU J) ?_;refine B0 ?_;refine B5 (s:=⟨[(1,_,_),(2,_,_),(3,_,_),(4,_,_),(47,_,_)],[(.l 4,_),(.o 0,_),(.o 1,_)],[],[]⟩) (B4 (⟨U J,U J,U J,U J,U J,O⟩) (⟨U J,U J,U J,O⟩) O) ?_;refine B9 J (fun hc4=>?_) (fun hc4=>?_)
      ·refine A8 (A6 ?_)
       refine A5 J J J (A9 J gU) ?_;refine B0 ?_;refine C1 ?_
       repeat(first|refine tR ?_|refine bR ?_)
       refine C5 J ?_ (⟨⟨_,rfl,?_⟩,⟨⟨_,rfl,?_⟩,O⟩⟩)
       all_goals (
        have hno:=h1 (by
         simp only [Bool.or_eq_true,decide_eq_true_eq,decide_eq_false_iff_not,beq_iff_eq,bne_iff_ne,ne_eq,beq_eq_false_iff_ne,T.rows_len] at hc hc2 hc3 hc4
         rintro (⟨q1,q2,q3,q4⟩ | ⟨q1,q2⟩) <;> omega)
        first|exact H2 hno.1.symm|(rw[hno.2]; done)|(rw[hno.2]; rfl))
      ·refine C0 ?_
       refine ⟨.inr ?_,?_⟩
       ·simp only [bne_eq_false_iff_eq,beq_iff_eq] at hc3 hc4
        exact ⟨hc3,hc4⟩
       ·refine B4 ⟨⟨_,rfl,rfl⟩,⟨_,rfl,rfl⟩,⟨_,rfl,rfl⟩,⟨_,rfl,rfl⟩,O⟩ ⟨⟨_,rfl,rfl⟩,⟨_,rfl,rfl⟩,⟨_,rfl,rfl⟩,O⟩ O
     ·refine A8 (A6 ?_)
      refine A5 J J J (A9 J gU) ?_;refine B0 ?_;refine C1 ?_
      repeat(first|refine tR ?_|refine bR ?_)
      refine C5 J ?_ (⟨⟨_,rfl,?_⟩,⟨⟨_,rfl,?_⟩,O⟩⟩)
      all_goals (
       have hno:=h1 (by
        simp only [Bool.or_eq_true,decide_eq_true_eq,decide_eq_false_iff_not,beq_iff_eq,bne_iff_ne,ne_eq,beq_eq_false_iff_ne,T.rows_len] at hc hc2 hc3
        rintro (⟨q1,q2,q3,q4⟩ | ⟨q1,q2⟩) <;> omega)
       first|exact H2 hno.1.symm|(rw[hno.2]; done)|(rw[hno.2]; rfl))
  ·refine A8 ?_
   refine A8 (A6 ?_);refine A5 J J J (B1 J gU J J) ?_;refine A5 J J J (B2 J gU J J J J) ?_;refine C8 J J J J J J gU gU (Mg _) J ?_;refine A5 J J J (F8 J gU) ?_;refine B0 ?_;refine B9 J (fun hc=>?_) (fun hc=>?_)
   ·refine A8 (A6 ?_)
    refine A5 J J J (A9 J gU) ?_;refine B0 ?_;refine C1 ?_
    repeat(first|refine tR ?_|refine bR ?_)
    refine C5 J ?_ (⟨⟨_,rfl,?_⟩,⟨⟨_,rfl,?_⟩,O⟩⟩)
    all_goals (
     have hq : N0 t=2:=by
      simp only [Bool.not_eq_true'] at hc
      rw[N0,if_pos hj,if_neg (by rw[hc]; simp)]
     have hno:=hbad (by rw[hq]; omega)
     rw[hq] at hno
     first|exact H2 hno.1.symm|(rw[hno.2]; done)|(rw[hno.2]; rfl))
   ·simp only [Bool.not_eq_false'] at hc
    refine C0 ?_;refine A8 ?_;refine A8 (A6 ?_);refine A5 J J J (B1 J gU J J) ?_;refine A5 J J J (B2 J gU J J J J) ?_;refine D9 J J J J J gU J J ?_ (fun hh=>by simp at hh); intro hlen;refine A5 J J J (B7 J J gU gU J) ?_;refine B0 ?_;refine B5 (s:=⟨[(1,_,_),(2,_,_),(3,_,_),(4,_,_),(55,_,_)],[(.l 4,_),(.o 0,_),(.o 1,_)],[],[]⟩) (B4 (⟨U J,U J,U J,U J,U J,O⟩) (⟨U J,U J,U J,O⟩) O) ?_;refine B9 J (fun hc2=>?_) (fun hc2=>?_)
    ·refine A8 (A6 ?_)
     refine A5 J J J (A9 J gU) ?_;refine B0 ?_;refine C1 ?_
     repeat(first|refine tR ?_|refine bR ?_)
     refine C5 J ?_ (⟨⟨_,rfl,?_⟩,⟨⟨_,rfl,?_⟩,O⟩⟩)
     all_goals (
      have hq : N0 t=3:=by
       simp only [T.rows_len,decide_eq_true_eq] at hc2
       rw[N0,if_pos hj,if_pos hc,if_pos (by omega)]
      have hno:=hbad (by rw[hq]; omega)
      rw[hq] at hno
      first|exact H2 hno.1.symm|(rw[hno.2]; done)|(rw[hno.2]; rfl))
    ·have hz : N0 t=0:=by
      simp only [T.rows_len,decide_eq_false_iff_not] at hc2
      rw[N0,if_pos hj,if_pos hc,if_neg (by omega)]
     have hchk : t.chk lv n d=T.chks t.kids (lv + 1) (n + 1) (max d lv):=by rw[T.chk_eq,if_neg (by simpa using hz)]
     have hE : t.nodesE=T.nodesEs t.kids:=by rw[T.nodesE_eq,if_neg (by simpa using hz)]
     have hsE:=t.size_eq
     refine C0 ?_;refine A8 ?_;refine A8 (A6 ?_);refine A5 J J J (B1 J gU J J) ?_;refine A5 J J J (B2 J gU J J J J) ?_;refine D9 J J J J J gU J J ?_ (fun hh=>by simp at hh); intro hlen;refine A5 J J J (A7 J gU) ?_;refine B0 ?_;refine C4 ?_
     have hlk : t.kids.length≤9223372036854775807:=by rw[T.rows_len] at hlen; exact hlen
     refine P3 (uB2 t lv n d) (fun k=>k≤t.kids.length∧(T.chks (t.kids.take k) (lv + 1) (n + 1) (max d lv)).e=0) (fun k=>t.kids.length - k) 0 ⟨Nat.zero_le _,by simp [T.chks]⟩ ?_ ?_
     ·refine B4 ⟨⟨_,rfl,rfl⟩,⟨_,rfl,rfl⟩,⟨_,rfl,rfl⟩,⟨_,rfl,rfl⟩,⟨_,rfl,by rw[T.rows_len]⟩,⟨_,rfl,rfl⟩,O⟩ ⟨⟨_,rfl,by simp [T.chks]⟩,⟨_,rfl,by simp [T.chks]⟩,O⟩ O
     ·rintro k ⟨hk,h0⟩
      have hr:=T.chks_n (t.kids.take k) (lv + 1) (n + 1) (max d lv)
      have hrE:=T.chks_e (t.kids.take k) (lv + 1) (n + 1) (max d lv)
      refine A8 (A6 ?_);refine A5 J J J (B7 J J gU gU J) ?_;refine B0 ?_;refine A8 ?_;refine B9 J (fun hc3=>?_) (fun hc3=>?_)
      ·have hlt : k < t.kids.length:=by simpa using hc3
       obtain ⟨x,hx⟩ : ∃ x,t.kids[k]? = some x:=⟨_,List.getElem?_eq_getElem hlt⟩
       have q1:=T.sizes_take _ _ _ hx
       have q2:=T.sizes_take_le t.kids (k + 1)
       have q4:=x.size_pos
       refine C0 ?_;refine A8 ?_;refine C4 ?_;refine A8 (A6 ?_);refine A5 J J J (C2 J J gU gU J J J (fun _=>T.rows_get hx)) ?_;refine A5 J J J (D4 J gU J J J J) ?_;refine C3 J (E1 J J J) ?_;refine C3 J (C7 J J J J J J J) ?_;refine B0 ?_;refine A8 (A6 ?_);refine A5 J J J (B8 J gU J J J J J) ?_;refine A5 J J J (A7 J gU) ?_;refine A5 J J J (D0 J J gU gU J (IntWalk.i64_in _ (by omega))) ?_;refine A5 J J J (A7 J gU) ?_;refine A5 J J J (A7 J gU) ?_;refine Ii [⟨.o 0,0,[.i .i64 (T.chks (t.kids.take k) (lv + 1) (n + 1) (max d lv)).n],[.i .i64 (x.chk (lv + 1) (T.chks (t.kids.take k) (lv + 1) (n + 1) (max d lv)).n (T.chks (t.kids.take k) (lv + 1) (n + 1) (max d lv)).d).n]⟩,⟨.o 1,0,[.i .i64 (T.chks (t.kids.take k) (lv + 1) (n + 1) (max d lv)).d],[.i .i64 (x.chk (lv + 1) (T.chks (t.kids.take k) (lv + 1) (n + 1) (max d lv)).n (T.chks (t.kids.take k) (lv + 1) (n + 1) (max d lv)).d).d]⟩] J J J J (by rfl) (by rfl) (by intro p hp; simp only [List.mem_cons,List.not_mem_nil,or_false] at hp; first|(subst hp; rfl)|(rcases hp with hp|hp <;> subst hp <;> rfl)) (by rfl) (ih x (lv + 1) (T.chks (t.kids.take k) (lv + 1) (n + 1) (max d lv)).n (T.chks (t.kids.take k) (lv + 1) (n + 1) (max d lv)).d (by omega) (by omega) (by omega) (by omega) (by omega) (by omega)) J J J ?_
       refine A5 J J J (A9 J gU) ?_;refine B0 ?_;refine B5 (s:=⟨[(1,_,_),(2,_,_),(3,_,_),(11,_,_),(57,_,_),(58,_,_),(59,_,_)],[(.o 0,_),(.o 1,_)],[],[]⟩) (B4 (⟨U J,U J,U J,U J,U J,U J,U J,O⟩) (⟨U J,U J,O⟩) O) ?_;refine A8 (A6 ?_);refine A5 J J J (A7 J gU) ?_;refine A5 J J J (B7 J J gU gU J) ?_;refine B0 ?_;refine B9 J (fun hc4=>?_) (fun hc4=>?_)
       ·refine A8 (A6 ?_)
        refine A5 J J J (A7 J gU) ?_;refine A5 J J J (A9 J gU) ?_;refine B0 ?_;refine C1 ?_
        repeat(first|refine tR ?_|refine bR ?_)
        refine C5 J ?_ (⟨⟨_,rfl,?_⟩,⟨⟨_,rfl,?_⟩,O⟩⟩)
        ·have := T.chks_hit (lv := lv + 1) (n := n + 1) (d := max d lv) hx h0 (by simpa using hc4)
         refine H2 ?_
         rw[hE,← T.chks_e t.kids (lv + 1) (n + 1) (max d lv),this,T.chk_e]
        ·have := T.chks_hit (lv := lv + 1) (n := n + 1) (d := max d lv) hx h0 (by simpa using hc4)
         rw[hchk,this]; rfl
        ·have := T.chks_hit (lv := lv + 1) (n := n + 1) (d := max d lv) hx h0 (by simpa using hc4)
         rw[hchk,this]; rfl
       ·have hx0 : x.nodesE=0:=by simpa using hc4
        have hst:=T.chks_step (lv:=lv + 1) (n:=n + 1) (d:=max d lv) hx h0 hx0
        refine C0 ?_;refine A6 ?_;refine A5 J J J (D0 J J gU gU J (IntWalk.i64_in _ (by omega))) ?_;refine A5 J J J (A7 J gU) ?_;refine B0 ?_;refine ⟨k + 1,⟨by omega,by rw[hst,T.chk_e,hx0]⟩,by omega,?_⟩;refine B4 ⟨⟨_,rfl,rfl⟩,⟨_,rfl,rfl⟩,⟨_,rfl,rfl⟩,⟨_,rfl,rfl⟩,⟨_,rfl,rfl⟩,⟨_,rfl,rfl⟩,O⟩ ⟨⟨_,rfl,by rw[hst]; rfl⟩,⟨_,rfl,by rw[hst]; rfl⟩,O⟩ O
      ·have hk' : k=t.kids.length:=by simp at hc3; omega
       subst hk'
       rw[List.take_length] at h0
       refine E2 ?_
       repeat(first|refine D5 ?_|refine D6 ?_|refine D2 J ?_)
       refine A8 (A6 ?_);refine A5 J J J (A9 J gU) ?_;refine B0 ?_;refine C1 ?_
       repeat(first|refine tR ?_|refine bR ?_)
       refine C5 J ?_ (⟨⟨_,rfl,?_⟩,⟨⟨_,rfl,?_⟩,O⟩⟩)
       ·refine H2 ?_
        rw[hE,← T.chks_e t.kids (lv + 1) (n + 1) (max d lv),h0]
       ·rw[hchk,List.take_length]
       ·rw[hchk,List.take_length]
theorem Pj (t : T) (h : t.size≤900000) : Ctr sys 139 [xm t] [] (xi (U6 t)) none []:=by
 have q1:=T.chk_n t 1 0 0
 have q2:=T.chk_d t 1 0 0
 have q3:=t.depth_eq
 refine D1 Tryz.func139 J J J J J J ?_;refine A8 (A6 ?_);refine C3 J (D8 J J J J) ?_;refine A5 J J J (A9 J gU) ?_;refine B0 ?_;refine A8 (A6 ?_);refine C3 J (E1 J J J) ?_;refine C3 J (E1 J J J) ?_;refine C3 J (C7 J J J J J J J) ?_;refine C3 J (C7 J J J J J J J) ?_;refine B0 ?_;refine A8 ?_;refine A8 (A6 ?_);refine A5 J J J (B8 J gU J J J J J) ?_;refine Ii [⟨.l 3,0,[.i .i64 0],[.i .i64 (t.chk 1 0 0).n]⟩,⟨.l 4,0,[.i .i64 0],[.i .i64 (t.chk 1 0 0).d]⟩] J J J J (by rfl) (by rfl) (by intro p hp; simp only [List.mem_cons,List.not_mem_nil,or_false] at hp; first|(subst hp; rfl)|(rcases hp with hp|hp <;> subst hp <;> rfl)) (by rfl) (Sg _ t 1 0 0 (Nat.le_refl _) (by omega) (by omega) (by omega) (by omega) (by omega)) J J J ?_;refine A5 J J J (A9 J gU) ?_;refine B0 ?_;refine B5 (s:=⟨[(3,_,_),(4,_,_),(5,_,_)],[(.l 3,_),(.l 4,_)],[],[]⟩) (B4 (⟨U J,U J,U J,O⟩) (⟨U J,U J,O⟩) O) ?_;refine A8 (A6 ?_);refine A5 J J J (A7 J gU) ?_;refine A5 J J J (B7 J J gU gU J) ?_;refine B0 ?_;refine B9 J (fun hc=>?_) (fun hc=>?_)
 ·refine A8 (A6 ?_)
  refine A5 J J J (A7 J gU) ?_;refine A5 J J J (A9 J gU) ?_;refine B0 ?_;refine C1 ?_
  repeat(first|refine tR ?_|refine bR ?_)
  refine C5 J ?_ O;refine H2 ?_
  rw[U6,if_pos (by simpa using hc)]
 ·have hz : t.nodesE=0:=by simpa using hc
  have q4:=q1.2.2 hz
  have q5:=q2 hz
  refine C0 ?_;refine A8 ?_;refine A8 (A6 ?_);refine A5 J J J (B2 J gU J J J J) ?_;refine A5 J J J (B7 J J gU gU J) ?_;refine A5 J J J (A7 J gU) ?_;refine A5 J J J (B2 J gU J J J J) ?_;refine A5 J J J (B7 J J (fun hh=>hh) gU J) ?_;refine A5 J J J (E5 J J gU (fun _ hi=>gP J hi)) ?_;refine B0 ?_;refine B5 (s:=⟨[(16,_,_)],[],[],[]⟩) (B4 (⟨U J,O⟩) O O) ?_;refine B9 J (fun hc2=>?_) (fun hc2=>?_)
  ·refine A8 (A6 ?_)
   refine A5 J J J (A9 J gU) ?_;refine B0 ?_;refine C1 ?_
   repeat(first|refine tR ?_|refine bR ?_)
   refine C5 J ?_ O;refine H2 ?_
   simp only [Bool.or_eq_true,decide_eq_true_eq] at hc2
   rw[U6,if_neg (by simpa using hz),if_pos (by omega)]
  ·refine C0 ?_
   refine A8 (A6 ?_);refine A5 J J J (A9 J gU) ?_;refine B0 ?_;refine C1 ?_
   repeat(first|refine tR ?_|refine bR ?_)
   refine C5 J ?_ O;refine H2 ?_
   simp only [Bool.or_eq_false_iff,decide_eq_false_iff_not] at hc2
   rw[U6,if_neg (by simpa using hz),if_neg (by omega)]
def errs {α : Type} (f : α→Int) : List α→Int
 | []=>0
 | x :: r=>if f x≠0 then f x else errs f r
theorem errs_zero {α : Type} {f : α→Int} : ∀ {l : List α},errs f l=0 ↔ ∀ x ∈ l,f x=0
 | []=>by simp [errs]
 | x :: r=>by
  rw[errs]
  split
  ·rename_i h; simp [h]
  ·rename_i h; rw[errs_zero (l:=r)]; simp at h ⊢; exact fun _=>h
theorem Dm {α : Type} {f g : α→Int} : ∀ {l : List α},(∀ x ∈ l,f x=g x)→errs f l=errs g l
 | [],_=>rfl
 | x :: r,h=>by rw[errs,errs,h x (by simp),Dm fun y hy=>h y (by simp [hy])]
abbrev NmB:=List UInt8→Bool
mutual
def rawE (nm : NmB) : T→Int
 | .mk k n s ks=>if k=1∨s≠0 then 10 else if nm n=false then 2 else Cp nm ks
def Cp (nm : NmB) : List T→Int
 | []=>0
 | t :: ts=>if rawE nm t≠0 then rawE nm t else Cp nm ts
end
theorem Vg (nm : NmB) (t : T) : rawE nm t=if t.kind=1∨t.sort≠0 then 10 else if nm t.name=false then 2 else Cp nm t.kids:=by cases t; rw[rawE]; rfl
theorem De (nm : NmB) : ∀ ts : List T,Cp nm ts=errs (rawE nm) ts
 | []=>by rw[Cp]; rfl
 | t :: ts=>by rw[Cp,De nm ts]; rfl
def Z9 (nm : NmB) (t : T) : Int:=if U6 t≠0 then U6 t else rawE nm t
def msgE (nm : NmB) (t : T) : Int:=if Z9 nm t≠0 then Z9 nm t else if 40 < t.size then 3 else 0
def N9 (nm : NmB) (g : Gl) : Int:=if g.kind < 1∨5 < g.kind then 10 else if nm g.role=false∨(I8 g.kind=true∧nm g.wth=false) then 2 else if I8 g.kind=false∧g.wth≠[] then 1
 else if (I8 g.kind=true∧(g.data.length < 1∨4 < g.data.length))∨(I8 g.kind=false∧g.data.length≠1) then 6 else errs (msgE nm) g.data
def frE (nm : NmB) (f : Fs) : Int:=if nm f.role=false∨nm f.name=false then 2 else if f.sort < 2∨4 < f.sort then 10 else 0
def cntE (n : Nar) : Int:=if n.roles.length < 2 then 8 else if 4 < n.roles.length∨12 < n.fresh.length∨8 < n.tags.length then 3 else if n.steps.length=0 then 8 else if 8 < n.steps.length∨8 < n.goals.length then 3 else 0
def Z6 (nm : NmB) (n : Nar) : Int:=if nm n.name=false then 2 else if cntE n≠0 then cntE n else if n.roles.all nm=false then 2 else if errs (frE nm) n.fresh≠0 then errs (frE nm) n.fresh else if n.tags.all nm=false then 2 else 0
def spE (nm : NmB) (s : Sp) : Int:=if nm s.frm=false∨nm s.dst=false then 2 else msgE nm s.msg
def narE (nm : NmB) (n : Nar) : Int:=if Z6 nm n≠0 then Z6 nm n else if errs (spE nm) n.steps≠0 then errs (spE nm) n.steps else errs (N9 nm) n.goals
def Ee (t : T) : Bool:=decide (t.kind=3) && decide (t.name=Fx) && decide (t.kids.length=2)
def untA : Nat→T→List T
 | 0,t=>[t]
 | n + 1,t=>if Ee t=true then t.kids.getD 0 default :: untA n (t.kids.getD 1 default) else [t]
def untE (t : T) : List T:=untA t.size t
def Y0 : Nat→T→List UInt8
 | 0,_=>[]
 | n + 1,t=>if t.kind=2 then t.name else if Ee t=true then [60]++Lib.join ((untE t).map (Y0 n)) [44,32]++[62] else t.name++[40]++Lib.join (t.kids.map (Y0 n)) [44,32]++[41]
def U8 (t : T) : List UInt8:=Y0 t.size t
def Ak (l : List T) : List UInt8:=Lib.join (l.map U8) [44,32]
theorem uBz {t : T} (h : Ee t=true) : ∃ a b,t.kids=[a,b]:=by
 simp only [Ee,Bool.and_eq_true,decide_eq_true_eq] at h
 obtain ⟨_,h⟩:=h
 match hk : t.kids,h with
 | [a,b],_=>exact ⟨a,b,rfl⟩
theorem S1 {t : T} (h : Ee t=true) : t.size=1 + (t.kids.getD 0 default).size + (t.kids.getD 1 default).size:=by
 obtain ⟨a,b,hk⟩:=uBz h
 rw[T.size_eq,hk]
 simp [T.sizes]; omega
theorem Ux : ∀ (n : Nat) (t x : T),x ∈ untA n t→x.size≤t.size
 | 0,t,x,h=>by simp [untA] at h; subst h; omega
 | n + 1,t,x,h=>by
  rw[untA] at h
  split at h
  ·rename_i hp
   have hs:=S1 hp
   rcases List.mem_cons.1 h with q | q
   ·subst q; omega
   ·have := Ux n _ x q; omega
  ·simp at h; subst h; omega
theorem Ky : ∀ (n : Nat) (t : T),T.sizes (untA n t)≤t.size
 | 0,t=>by simp [untA,T.sizes]
 | n + 1,t=>by
  rw[untA]
  split
  ·rename_i hp
   have hs:=S1 hp
   have := Ky n (t.kids.getD 1 default)
   rw[T.sizes]; omega
  ·simp [T.sizes]
theorem Uf : ∀ (n : Nat) (t : T),1≤(untA n t).length∧(untA n t).length≤t.size
 | 0,t=>by have := t.size_pos; simp [untA]; omega
 | n + 1,t=>by
  rw[untA]
  split
  ·rename_i hp
   have hs:=S1 hp
   have := Uf n (t.kids.getD 1 default)
   have := (t.kids.getD 0 default).size_pos
   rw[List.length_cons]; omega
  ·have := t.size_pos; simp; omega
theorem Ox : ∀ (n m : Nat) (t : T),t.size≤n→t.size≤m→untA n t=untA m t
 | 0,_,t,h,_=>by have := t.size_pos; omega
 | _,0,t,_,h=>by have := t.size_pos; omega
 | n + 1,m + 1,t,hn,hm=>by
  rw[untA,untA]
  split
  ·rename_i hp
   have hs:=S1 hp
   have := (t.kids.getD 0 default).size_pos
   rw[Ox n m _ (by omega) (by omega)]
  ·rfl
theorem Ub (t : T) : untE t=if Ee t=true then t.kids.getD 0 default :: untE (t.kids.getD 1 default) else [t]:=by
 obtain ⟨m,hm⟩ : ∃ m,t.size=m + 1 := ⟨t.size - 1,by have := t.size_pos; omega⟩
 unfold untE
 rw[hm,untA]
 split
 ·rename_i hp
  have hs:=S1 hp
  rw[Ox m _ _ (by omega) (Nat.le_refl _)]
 ·rfl
theorem Ta {t x : T} (hp : Ee t=true) (hx : x ∈ untE t) : x.size < t.size:=by
 have hs:=S1 hp
 have h0:=(t.kids.getD 0 default).size_pos
 rw[Ub,if_pos hp] at hx
 rcases List.mem_cons.1 hx with q | q
 ·subst q; have := (t.kids.getD 1 default).size_pos; omega
 ·have := Ux _ _ _ q; omega
theorem Mb {t : T} (hp : Ee t=true) : T.sizes (untE t) < t.size:=by
 have hs:=S1 hp
 rw[Ub,if_pos hp,T.sizes]
 have := Ky (t.kids.getD 1 default).size (t.kids.getD 1 default)
 unfold untE; omega
theorem Pb {x : T} : ∀ {l : List T},x ∈ l→x.size≤T.sizes l
 | [],h=>by simp at h
 | y :: l,h=>by
  rw[T.sizes]
  rcases List.mem_cons.1 h with q | q
  ·subst q; omega
  ·have := Pb q; omega
theorem M5 {t x : T} (h : x ∈ t.kids) : x.size < t.size:=by
 have := Pb h; have := t.size_eq; omega
theorem Ar : ∀ (n m : Nat) (t : T),t.size≤n→t.size≤m→Y0 n t=Y0 m t
 | 0,_,t,h,_=>by have := t.size_pos; omega
 | _,0,t,_,h=>by have := t.size_pos; omega
 | n + 1,m + 1,t,hn,hm=>by
  rw[Y0,Y0]
  split
  ·rfl
  split
  ·rename_i hp
   have e : (untE t).map (Y0 n)=(untE t).map (Y0 m):=List.map_congr_left fun x hx=>by
    have := Ta hp hx
    exact Ar n m x (by omega) (by omega)
   rw[e]
  ·have e : t.kids.map (Y0 n)=t.kids.map (Y0 m):=List.map_congr_left fun x hx=>by
    have := M5 hx
    exact Ar n m x (by omega) (by omega)
   rw[e]
theorem Yk (t : T) : U8 t=if t.kind=2 then t.name else if Ee t=true then [60]++Ak (untE t)++[62] else t.name++[40]++Ak t.kids++[41]:=by
 obtain ⟨m,hm⟩ : ∃ m,t.size=m + 1 := ⟨t.size - 1,by have := t.size_pos; omega⟩
 unfold Ak
 conv=>lhs; unfold U8
 rw[hm,Y0]
 split
 ·rfl
 split
 ·rename_i hp
  have e : (untE t).map (Y0 m)=(untE t).map U8:=List.map_congr_left fun x hx=>by
   have := Ta hp hx
   exact Ar m x.size x (by omega) (by omega)
  rw[e]
 ·have e : t.kids.map (Y0 m)=t.kids.map U8:=List.map_congr_left fun x hx=>by
   have := M5 hx
   exact Ar m x.size x (by omega) (by omega)
  rw[e]
mutual
def okB : T→Bool
 | .mk k n _ ks=>(decide (k=2) || decide (k=3)) && decide (n.length≤24) && okBs ks
def okBs : List T→Bool
 | []=>true
 | t :: ts=>okB t && okBs ts
end
theorem uAi (t : T) : okB t=((decide (t.kind=2) || decide (t.kind=3)) && decide (t.name.length≤24) && okBs t.kids):=by cases t; rw[okB]; rfl
theorem Qy : ∀ {l : List T},okBs l=true → ∀ x ∈ l,okB x=true
 | [],_,x,h=>by simp at h
 | y :: l,h,x,hx=>by
  rw[okBs,Bool.and_eq_true] at h
  rcases List.mem_cons.1 hx with q | q
  ·subst q; exact h.1
  ·exact Qy h.2 x q
theorem Up {t : T} (h : okB t=true) : ∀ x ∈ t.kids,okB x=true:=by
 rw[uAi,Bool.and_eq_true] at h
 exact Qy h.2
theorem Yz {t : T} (h : okB t=true) : (t.kind=2∨t.kind=3)∧t.name.length≤24:=by
 rw[uAi] at h
 simp only [Bool.and_eq_true,Bool.or_eq_true,decide_eq_true_eq] at h
 exact h.1
theorem Ue : ∀ (n : Nat) {t : T},okB t=true → ∀ x ∈ untA n t,okB x=true
 | 0,t,h,x,hx=>by simp [untA] at hx; subst hx; exact h
 | n + 1,t,h,x,hx=>by
  rw[untA] at hx
  split at hx
  ·rename_i hp
   obtain ⟨a,b,hk⟩:=uBz hp
   have hkk:=Up h
   rw[hk] at hx hkk
   rcases List.mem_cons.1 hx with q | q
   ·subst q; exact hkk _ (by simp)
   ·exact Ue n (hkk b (by simp)) x q
  ·simp at hx; subst hx; exact h
theorem uBl {t : T} (h : N0 t=0) : (t.kind=1∨t.kind=2∨t.kind=3)∧t.name.length≤24:=by
 unfold N0 at h
 split at h
 ·split at h
  ·rename_i hq hn
   simp only [R2,Bool.and_eq_true,decide_eq_true_eq] at hn
   exact ⟨by omega,hn.1.1.2⟩
  ·simp at h
 ·simp at h
mutual
theorem uBx (nm : NmB) : ∀ (t : T),t.nodesE=0→rawE nm t=0→okB t=true
 | .mk k n s ks,h1,h2=>by
  rw[T.nodesE] at h1
  rw[rawE] at h2
  rw[okB]
  split at h1
  ·rename_i hz; exact absurd h1 hz
  ·rename_i hz
   have hz:=Decidable.not_not.1 hz
   split at h2
   ·simp at h2
   ·rename_i hk
    split at h2
    ·simp at h2
    ·rw[uAB nm ks h1 h2]
     have hq:=uBl hz
     have q1 : k=1∨k=2∨k=3:=hq.1
     have q2 : n.length≤24:=hq.2
     simp only [Bool.and_true,Bool.and_eq_true,Bool.or_eq_true,decide_eq_true_eq]
     exact ⟨by omega,q2⟩
theorem uAB (nm : NmB) : ∀ (ts : List T),T.nodesEs ts=0→Cp nm ts=0→okBs ts=true
 | [],_,_=>rfl
 | t :: ts,h1,h2=>by
  rw[T.nodesEs] at h1
  rw[Cp] at h2
  rw[okBs]
  split at h1
  ·rename_i hz; exact absurd h1 hz
  ·rename_i hz
   split at h2
   ·rename_i hy; exact absurd h2 hy
   ·rename_i hy
    rw[uBx nm t (Decidable.not_not.1 hz) (Decidable.not_not.1 hy),uAB nm ts h1 h2]; rfl
end
theorem uBP {nm : NmB} {t : T} (h : Z9 nm t=0) : okB t=true∧t.size≤400:=by
 unfold Z9 at h
 split at h
 ·rename_i hz; exact absurd h hz
 ·rename_i hz
  have hz:=Decidable.not_not.1 hz
  unfold U6 at hz
  split at hz
  ·rename_i hy; exact absurd hz hy
  ·rename_i hy
   split at hz
   ·simp at hz
   ·exact ⟨uBx nm t (Decidable.not_not.1 hy) h,by omega⟩
def Bc (L : List (List UInt8)) : Nat:=(L.map fun x=>x.length + 2).sum
theorem Lb : ∀ (L : List (List UInt8)),(Lib.joinTail [44,32] L).length=Bc L
 | []=>rfl
 | x :: L=>by
  have e : Lib.joinTail [44,32] (x :: L)=[44,32]++(x++Lib.joinTail [44,32] L):=by simp [Lib.joinTail]
  rw[e]
  have := Lb L
  simp only [List.length_append,List.length_cons,List.length_nil,Bc,List.map_cons,List.sum_cons] at this ⊢
  omega
theorem Ca : ∀ (L : List (List UInt8)),(Lib.join L [44,32]).length≤Bc L∧(L≠[]→(Lib.join L [44,32]).length + 2=Bc L)
 | []=>by simp [Lib.join_nil]
 | x :: L=>by
  have := Lb L
  rw[Lib.join_cons,List.length_append]
  simp only [Bc,List.map_cons,List.sum_cons] at this ⊢
  exact ⟨by omega,fun _=>by omega⟩
theorem X6 : ∀ (l : List T),(∀ x ∈ l,(U8 x).length + 2≤28 * x.size)→Bc (l.map U8)≤28 * T.sizes l
 | [],_=>by simp [Bc,T.sizes]
 | x :: l,h=>by
  have h1:=h x (by simp)
  have h2:=X6 l fun y hy=>h y (by simp [hy])
  simp only [Bc,List.map_cons,List.sum_cons,T.sizes] at h2 ⊢
  omega
theorem text_len : ∀ (n : Nat) (t : T),t.size≤n→okB t=true→(U8 t).length + 2≤28 * t.size
 | 0,t,h,_=>by have := t.size_pos; omega
 | n + 1,t,h,ho=>by
  have hp:=t.size_pos
  have hn:=(Yz ho).2
  rw[Yk]
  split
  ·omega
  split
  ·rename_i hq
   have h1 := X6 (untE t) fun x hx=>text_len n x (by have := Ta hq hx; omega) (Ue _ ho x hx)
   have h2:=Mb hq
   have h3 := (Ca ((untE t).map U8)).2 (by have := (Uf t.size t).1; intro q; rw[← List.length_map (f := U8)] at this; show False; unfold untE at q; rw[q] at this; simp at this)
   unfold Ak
   simp only [List.length_append,List.length_cons,List.length_nil]
   omega
  ·have h1 := X6 t.kids fun x hx=>text_len n x (by have := M5 hx; omega) (Up ho x hx)
   have h2:=t.size_eq
   have h3:=Ca (t.kids.map U8)
   unfold Ak
   simp only [List.length_append,List.length_cons,List.length_nil]
   by_cases hk : t.kids.map U8=[]
   ·rw[hk,Lib.join_nil]; simp; omega
   ·have := h3.2 hk; omega
theorem Tu {t : T} (h : okB t=true) : (U8 t).length + 2≤28 * t.size:=text_len t.size t (Nat.le_refl _) h
theorem Zl {l : List T} (h : ∀ x ∈ l,okB x=true) : (Ak l).length≤28 * T.sizes l:=by
 have h1:=X6 l fun x hx=>Tu (h x hx)
 have h2:=(Ca (l.map U8)).1
 unfold Ak; omega
def hFresh : List UInt8:=[32,32,102,114,101,115,104,32]
def hProt : List UInt8:=[112,114,111,116,111,99,111,108,32]
def hRole : List UInt8:=[32,32,114,111,108,101,32]
def hTag : List UInt8:=[32,32,116,97,103,32]
def hMsg : List UInt8:=[32,32,109,101,115,115,97,103,101,32]
def hGoal : List UInt8:=[32,32,103,111,97,108,32]
def arrow : List UInt8:=[32,45,62,32]
def wSk : List UInt8:=[115,107]
def wPk : List UInt8:=[112,107]
def wEnc : List UInt8:=[101,110,99]
def Ic : List UInt8:=[97,101,110,99]
def Hc : List UInt8:=[115,105,103,110]
def Ob : List UInt8:=[104,97,115,104]
def wShk : List UInt8:=[115,104,107]
def nmsL (n : Nar) : List (List UInt8 × Int):=n.roles.map (fun r=>(r,1))++(n.fresh.map (fun f=>(f.name,f.sort))++n.tags.map fun g=>(g,5))
def H0 (n : Nar) : List (List UInt8):=(nmsL n).map (·.1)
def kid (t : T) (k : Nat) : T:=t.kids.getD k default
def isT (t : T) (w : List UInt8) (k : Int) : Bool:=decide (t.kind=3) && decide (t.name=w) && decide ((t.kids.length : Int)=k)
def Bk (R : List (List UInt8)) (t : T) : Bool:=decide (t.kind=2) && R.contains t.name
def Aa (R : List (List UInt8)) (t : T) : Bool:=isT t wSk 1 && Bk R (kid t 0)
def pubT (R : List (List UInt8)) (t : T) : Bool:=isT t wPk 1 && Aa R (kid t 0)
def shkT (R : List (List UInt8)) (t : T) : Bool:=isT t wShk 2 && Bk R (kid t 0) && Bk R (kid t 1) && !((kid t 0).name == (kid t 1).name)
def J1 (R : List (List UInt8)) (t : T) : Option Nat :=
 if isT t Fx 2=true∨isT t wEnc 2=true then some 2 else if isT t Ob 1=true then some 1
 else if (isT t Ic 2=true∧pubT R (kid t 1)=true)∨(isT t Hc 2=true∧Aa R (kid t 1)=true) then some 1
 else if pubT R t=true∨shkT R t=true then some 0 else none
def Hm (R K : List (List UInt8)) : Nat→T→Int
 | 0,_=>0
 | n + 1,t=>if t.kind≠3 then (if K.contains t.name=true then 0 else 13) else
  match J1 R t with
  | none=>10
  | some k=>errs (Hm R K n) (t.kids.take k)
def O1 (R K : List (List UInt8)) (t : T) : Int:=Hm R K t.size t
theorem Qp {α : Type} {l : List α} {k : Nat} {x : α} (h : x ∈ l.take k) : x ∈ l:=List.mem_of_mem_take h
theorem Hh (R K : List (List UInt8)) : ∀ (n m : Nat) (t : T),t.size≤n→t.size≤m→Hm R K n t=Hm R K m t
 | 0,_,t,h,_=>by have := t.size_pos; omega
 | _,0,t,_,h=>by have := t.size_pos; omega
 | n + 1,m + 1,t,hn,hm=>by
  rw[Hm,Hm]
  split
  ·rfl
  ·split
   ·rfl
   ·rename_i k _
    exact Dm fun x hx=>by
     have := M5 (Qp hx)
     exact Hh R K n m x (by omega) (by omega)
theorem R6 (R K : List (List UInt8)) (t : T) : O1 R K t=if t.kind≠3 then (if K.contains t.name=true then 0 else 13) else match J1 R t with
  | none=>10
  | some k=>errs (O1 R K) (t.kids.take k):=by
 obtain ⟨m,hm⟩ : ∃ m,t.size=m + 1 := ⟨t.size - 1,by have := t.size_pos; omega⟩
 conv=>lhs; unfold O1
 rw[hm,Hm]
 split
 ·rfl
 ·split
  ·rfl
  ·exact Dm fun x hx=>by
    have := M5 (Qp hx)
    exact Hh R K m x.size x (by omega) (by omega)
def dclL (n : Nar) : List (List UInt8 × Option (List UInt8)):=n.roles.map (fun r=>(r,none))++(n.fresh.map (fun f=>(f.name,some f.role))++n.tags.map fun g=>(g,none))
def dclE (R seen : List (List UInt8)) (x : List UInt8 × Option (List UInt8)) : Int :=
 if x.1.contains 35=true then 2 else if x.2.isSome=true∧(x.1=[101]∨x.1=[103]) then 1 else if seen.contains x.1=true then 5 else match x.2 with
  | some r=>if R.contains r=true then 0 else 13
  | none=>0
def decA (R : List (List UInt8)) : List (List UInt8)→List (List UInt8 × Option (List UInt8))→Int
 | _,[]=>0
 | seen,x :: r=>if dclE R seen x≠0 then dclE R seen x else decA R (seen++[x.1]) r
def decE (n : Nar) : Int:=decA n.roles [] (dclL n)
def twoE (R : List (List UInt8)) (a b : List UInt8) : Int:=if R.contains a=false∨R.contains b=false then 13 else if a=b then 1 else 0
def T9 (n : Nar) (s : Sp) : Int:=if twoE n.roles s.frm s.dst≠0 then twoE n.roles s.frm s.dst else O1 n.roles (H0 n) s.msg
def P6 (n : Nar) (g : Gl) : Int:=if n.roles.contains g.role=false then 13 else if I8 g.kind=true∧twoE n.roles g.role g.wth≠0 then twoE n.roles g.role g.wth else errs (O1 n.roles (H0 n)) g.data
def lnE {α : Type} (f ln : α→Int) : List α→Int × Int
 | []=>(0,0)
 | x :: r=>if f x≠0 then (ln x,f x) else lnE f ln r
def useE (n : Nar) : Int × Int:=if (lnE (T9 n) Sp.line n.steps).2≠0 then lnE (T9 n) Sp.line n.steps else lnE (P6 n) Gl.line n.goals
def chkE (nm : NmB) (n : Nar) : Int × Int:=if narE nm n≠0 then (0,narE nm n) else if decE n≠0 then (0,decE n) else useE n
theorem lnE_zero {α : Type} {f ln : α→Int} : ∀ {l : List α},(lnE f ln l).2=0 ↔ ∀ x ∈ l,f x=0
 | []=>by simp [lnE]
 | x :: r=>by
  rw[lnE]
  split
  ·rename_i h; simp [h]
  ·rename_i h; rw[lnE_zero (l:=r)]; simp at h ⊢; exact fun _=>h
theorem Tm {α : Type} {f ln : α→Int} : ∀ {l : List α},(lnE f ln l).2=0→lnE f ln l=(0,0)
 | [],_=>rfl
 | x :: r,h=>by
  rw[lnE] at h ⊢
  split at h
  ·rename_i q; exact absurd h q
  ·rename_i q; rw[if_neg q]; exact Tm h
theorem Gr {α : Type} {f ln : α→Int} {d : α} {l : List α} {k : Nat} (hk : k < l.length) (h : ∀ j,j < k→f (l.getD j d)=0) (hx : f (l.getD k d)≠0) : lnE f ln l=(ln (l.getD k d),f (l.getD k d)):=by
 induction l generalizing k with
 | nil=>simp at hk
 | cons x r ih =>
  cases k with
  | zero=>rw[lnE,if_pos (by simpa using hx)]; rfl
  | succ k =>
   have h0:=h 0 (by omega)
   rw[lnE,if_neg (by simpa using h0),ih (k:=k) (by simpa using hk) (fun j hj=>by simpa using h (j + 1) (by omega)) (by simpa using hx)]
   rfl
theorem Dp {α : Type} {f ln : α→Int} {d : α} {l : List α} (h : ∀ j,j < l.length→f (l.getD j d)=0) : lnE f ln l=(0,0):=by
 refine Tm (lnE_zero.2 fun x hx=>?_)
 obtain ⟨j,hj,rfl⟩:=List.mem_iff_getElem.1 hx
 have := h j hj
 rwa [List.getD_eq_getElem?_getD,List.getElem?_eq_getElem hj] at this
def iv (k : Int) : Value:=.int .i64 k
def mapL (l : List (List UInt8 × Int)) : List (List UInt8 × Value):=l.foldl (fun es x=>mput es x.1 (iv x.2)) []
theorem Oi (k : List UInt8) (v : Value) (j : List UInt8) : ∀ es : List (List UInt8 × Value),mget (mput es k v) j=if k=j then some v else mget es j
 | []=>by simp [mput,mget]
 | (a,u) :: r=>by
  rw[mput]
  split
  ·rename_i h; subst h
   rw[mget,mget]
   split <;> rfl
  ·rename_i h
   rw[mget,mget,Oi k v j r]
   by_cases h1 : a=j
   ·subst h1
    rw[if_pos J,if_pos J,if_neg (fun q=>h q.symm)]
   ·rw[if_neg h1,if_neg h1]
theorem Cb (l : List (List UInt8 × Int)) (x : List UInt8 × Int) : mapL (l++[x])=mput (mapL l) x.1 (iv x.2):=by simp [mapL]
theorem Yr {α : Type} {P : List α→Prop} (h0 : P []) (h1 : ∀ l x,P l→P (l++[x])) (l : List α) : P l:=by
 suffices h : ∀ m : List α,P m.reverse by simpa using h l.reverse
 intro m
 induction m with
 | nil=>exact h0
 | cons x m ih=>rw[List.reverse_cons]; exact h1 _ _ ih
theorem Nq (l : List (List UInt8 × Int)) (k : List UInt8) : mget (mapL l) k=((l.reverse.find? fun x=>decide (x.1=k)).map fun x=>iv x.2):=by
 refine Yr (P:=fun l=>mget (mapL l) k=((l.reverse.find? fun x=>decide (x.1=k)).map fun x=>iv x.2)) J (fun l x ih=>?_) l
 rw[Cb,Oi,ih,List.reverse_append]
 simp only [List.reverse_cons,List.reverse_nil,List.nil_append,List.singleton_append,List.find?_cons]
 by_cases h : x.1=k
 ·simp [h]
 ·simp [h]
theorem Ce (l : List (List UInt8 × Int)) (k : List UInt8) : (mget (mapL l) k).isSome=(l.map (·.1)).contains k:=by
 rw[Nq,Option.isSome_map,Bool.eq_iff_iff]
 simp only [List.find?_isSome,List.mem_reverse,decide_eq_true_eq,List.contains_iff_mem,List.mem_map]
theorem T.len_sizes : ∀ l : List T,l.length≤T.sizes l
 | []=>by simp [T.sizes]
 | t :: l=>by have h1:=T.len_sizes l; have h2:=t.size_pos; simp only [T.sizes,List.length_cons]; omega
theorem Qe (ts : List T) (k : Nat) (x : T) (h : ts[k]? = some x) : x.size≤T.sizes ts:=by
 have h1:=T.sizes_take ts k x h
 have h2:=T.sizes_take_le ts (k + 1)
 omega
theorem Sr : ∀ (n : Nat) (t : T),t.size≤n→n≤2000000→Ctr sys 113 [xm t] [] (xi t.size) none []:=by
 intro n
 induction n with
 | zero=>intro t h; have := t.size_pos; omega
 | succ n ih =>
  intro t ht hn
  have hse:=t.size_eq
  have hrl:=T.rows_len t.kids
  have hls:=T.len_sizes t.kids
  refine D1 Tryz.func113 J J J J J J ?_;refine A8 (A6 ?_);refine C3 J (D8 J J J J) ?_;refine A5 J J J (A9 J gU) ?_;refine B0 ?_;refine A8 (A6 ?_);refine A5 J J J (A9 J gU) ?_;refine B0 ?_;refine A8 ?_;refine A8 (A6 ?_);refine A5 J J J (B1 J gU J J) ?_;refine A5 J J J (B2 J gU J J J J) ?_;refine D9 J J J J J gU J J ?_ (fun hh=>by simp at hh); intro hlen;refine A5 J J J (A7 J gU) ?_;refine B0 ?_;refine B5 (s:=⟨[(3,_,_),(7,_,_),(8,_,_),(9,_,_)],[],[],[]⟩) (B4 (⟨U J,U J,U J,U J,O⟩) O O) ?_;refine C4 ?_;refine F3 (ι:=Nat) { t:=[(7,_,_),(8,_,_)],bx:=[],ow:=[] } (fun k=>[(9,true,xi (k : Int)),(3,true,xi (1 + T.sizes (t.kids.take k) : Nat))]) (fun k=>[]) (fun k=>k≤t.kids.length) (fun k=>t.kids.length - k) (0) (by simp) (B4 (⟨U J,U J,U J,U J,O⟩) O O) ?_
  intro k hok
  dsimp only [List.cons_append,List.nil_append]
  refine A8 (A6 ?_);refine A5 J J J (B7 J J gU gU J) ?_;refine B0 ?_;refine A8 ?_;refine B9 J (fun hc=>?_) (fun hc=>?_)
  ·try simp only [nn,T.rows_len,B3] at hc
   have hlt : k < t.kids.length:=by omega
   have h1:=T.sizes_take _ _ _ (T.getD_some hlt)
   have h2:=T.getD_size hlt
   refine C0 ?_;refine A8 ?_;refine C4 ?_;refine A8 (A6 ?_);refine A5 J J J (C2 J J gU gU J J J (fun hh=>T.rows_at (by first|omega|(simp at hh; omega)))) ?_;refine A5 J J J (D4 J gU J J J J) ?_;refine C3 J (E1 J J J) ?_;refine C3 J (C7 J J J J J J J) ?_;refine B0 ?_;refine A6 ?_;refine A5 J J J (A7 J gU) ?_;refine A5 J J J (B8 J gU J J J J J) ?_;refine C8 J J J J J J gU gU (ih (t.kids.getD k default) (by omega) (by omega)) J ?_;refine A5 J J J (D0 J J gU gU J (IntWalk.i64_in _ (by omega))) ?_;refine A5 J J J (A9 J gU) ?_;refine B0 ?_;refine B5 (s:=⟨[(3,_,_),(7,_,_),(8,_,_),(9,_,_)],[],[],[]⟩) (B4 (⟨U J,U J,U J,U J,O⟩) O O) ?_;refine A6 ?_;refine A5 J J J (D0 J J gU gU J (IntWalk.i64_in _ (by omega))) ?_;refine A5 J J J (A7 J gU) ?_;refine B0 ?_;refine ⟨k + 1,?_,?_,B4 (⟨⟨_,rfl,?_⟩,⟨⟨_,rfl,?_⟩,⟨U J,U J,O⟩⟩⟩) O O⟩
   all_goals first|rfl|omega|exact tx (H2 (by rw[h1]; push_cast; omega))
  ·try simp only [nn,T.rows_len,B3] at hc
   have : k=t.kids.length:=by omega
   subst this
   rw[List.take_length]
   refine E2 ?_
   repeat(first|refine D5 ?_|refine D6 ?_|refine D2 J ?_)
   refine A8 (A6 ?_);refine A5 J J J (A7 J gU) ?_;refine A5 J J J (A9 J gU) ?_;refine B0 ?_;refine C1 ?_
   repeat(first|refine tR ?_|refine bR ?_)
   refine C5 J ?_ O;exact H2 (by omega)
end Go.Proofs.YteidahabkfgfjaaGreat
namespace Go.Proofs.YteidahabkfgfjaaGreat
open Go Go.Proofs Go.Shelf
def Rz : Go.Shelf.Ren:=⟨fun | 99=>157 | 206=>167 | n=>n,fun | 9=>9 | 4=>4 | 3=>3 | n=>n,fun | n=>n⟩
theorem uBW : Go.Proofs.Lays.n99 Tryz.prog Rz:={
 mixed:=by kernel_rfl
 f99:=Tryz.func157.trans (congrArg some (by kernel_rfl))
 f206:=Tryz.func167.trans (congrArg some (by kernel_rfl))
 t3:=Tryz.underlying3
 a3:=Tryz.isAgg3
 z3:=Tryz.sizeOf3
 v3:=Tryz.zeroValue3
 t4:=Tryz.underlying4
 a4:=Tryz.isAgg4
 z4:=Tryz.sizeOf4
 v4:=Tryz.zeroValue4
 t9:=Tryz.underlying9
 a9:=Tryz.isAgg9
 z9:=Tryz.sizeOf9
 v9:=Tryz.zeroValue9 }
def Nr : Go.Shelf.Ren:=⟨fun | 144=>76 | 143=>115 | 219=>141 | 217=>159 | 225=>160 | 224=>161 | 267=>162 | 266=>169 | 314=>170 | n=>n,fun | 9=>9 | 4=>4 | 3=>3 | 5=>5 | 46=>162 | 146=>169 | 51=>168 | n=>n,fun | 1=>0 | n=>n⟩
theorem uBd : Go.Proofs.Lays.n144 Tryz.prog Nr:={
 mixed:=by kernel_rfl
 f143:=Tryz.func115.trans (congrArg some (by kernel_rfl))
 f144:=Tryz.func76.trans (congrArg some (by kernel_rfl))
 f217:=Tryz.func159.trans (congrArg some (by kernel_rfl))
 f219:=Tryz.func141.trans (congrArg some (by kernel_rfl))
 f224:=Tryz.func161.trans (congrArg some (by kernel_rfl))
 f225:=Tryz.func160.trans (congrArg some (by kernel_rfl))
 f266:=Tryz.func169.trans (congrArg some (by kernel_rfl))
 f267:=Tryz.func162.trans (congrArg some (by kernel_rfl))
 f314:=Tryz.func170.trans (congrArg some (by kernel_rfl))
 t3:=Tryz.underlying3
 a3:=Tryz.isAgg3
 z3:=Tryz.sizeOf3
 v3:=Tryz.zeroValue3
 t4:=Tryz.underlying4
 a4:=Tryz.isAgg4
 z4:=Tryz.sizeOf4
 v4:=Tryz.zeroValue4
 t5:=Tryz.underlying5
 a5:=Tryz.isAgg5
 z5:=Tryz.sizeOf5
 v5:=Tryz.zeroValue5
 t9:=Tryz.underlying9
 a9:=Tryz.isAgg9
 z9:=Tryz.sizeOf9
 v9:=Tryz.zeroValue9
 t46:=Tryz.underlying162
 a46:=Tryz.isAgg162
 z46:=Tryz.sizeOf162
 v46:=Tryz.zeroValue162
 t51:=Tryz.underlying168
 a51:=Tryz.isAgg168
 z51:=Tryz.sizeOf168
 v51:=Tryz.zeroValue168
 t146:=Tryz.underlying169
 a146:=Tryz.isAgg169
 z146:=Tryz.sizeOf169
 v146:=Tryz.zeroValue169
 g1:=by kernel_rfl }
end Go.Proofs.YteidahabkfgfjaaGreat
namespace Go.Proofs.YteidahabkfgfjaaGreat
open Go Go.Abs
open Go.RowKit (Below)
theorem Hu (s p : List UInt8) : Ctr sys 157 [xs s,xs p] [] (xb (p.isPrefixOf s)) none []:=by
 refine Ni [.string ⟨s.toArray⟩, .string ⟨p.toArray⟩] ⟨_,Tryz.func157,by kernel_rfl,by kernel_rfl⟩ (fun w G vs h=>?_) (fun w=>Any.strings_HasPrefix uBW ⟨s.toArray⟩ ⟨p.toArray⟩ w) (fun w G=>CRep.b _)
 match vs,h with
 | [u,v],⟨h1,h2,_⟩=>rw[XRep.str h1,XRep.str h2]
end Go.Proofs.YteidahabkfgfjaaGreat
namespace Go.Proofs.YteidahabkfgfjaaGreat
open Go Go.Proofs Go.RowKit
open Go.Abs (Dw BdSys)
end Go.Proofs.YteidahabkfgfjaaGreat
namespace Go.Proofs.YteidahabkfgfjaaGreat
open Go Go.Abs
theorem Ed (n : Int) : Ctr sys 137 [xu n] [] (xb (I1 n)) none []:=by
 refine D1 Tryz.func137 J J J J J J ?_;refine A8 (A6 ?_);refine A5 J J J (A9 J gU) ?_;refine B0 ?_;refine A8 (A6 ?_);refine A5 J J J (A7 J gU) ?_;refine A5 J J J (B7 J J gU gU J) ?_;refine A5 J J J (A7 J gU) ?_;refine A5 J J J (A7 J gU) ?_;refine A5 J J J (B7 J J (fun hh=>hh) gU J) ?_;refine A5 J J J (E0 J J gU (fun _ hi=>gP J hi)) ?_;refine A5 J J J (A7 J gU) ?_;refine A5 J J J (A7 J gU) ?_;refine A5 J J J (B7 J J (fun hh=>hh) gU J) ?_;refine A5 J J J (A7 J (fun hh=>hh)) ?_;refine A5 J J J (A7 J gU) ?_;refine A5 J J J (B7 J J (fun hh=>hh) gU J) ?_;refine A5 J J J (E0 J J (fun hh=>hh) (fun hh hi=>gP hh hi)) ?_;refine A5 J J J (E5 J J gU (fun _ hi=>gP J hi)) ?_;refine A5 J J J (A9 J gU) ?_;refine B0 ?_;refine C1 ?_
 repeat(first|refine tR ?_|refine bR ?_)
 refine C5 J ?_ O
 rfl
theorem Ps (n : Int) : Ctr sys 156 [xu n] [] (xb (K4 n)) none []:=by
 refine D1 Tryz.func156 J J J J J J ?_;refine A8 (A6 ?_);refine A5 J J J (A9 J gU) ?_;refine B0 ?_;refine A8 (A6 ?_);refine A5 J J J (A7 J gU) ?_;refine A5 J J J (B7 J J gU gU J) ?_;refine A5 J J J (A7 J gU) ?_;refine A5 J J J (A7 J gU) ?_;refine A5 J J J (B7 J J (fun hh=>hh) gU J) ?_;refine A5 J J J (E0 J J gU (fun _ hi=>gP J hi)) ?_;refine A5 J J J (A9 J gU) ?_;refine B0 ?_;refine C1 ?_
 repeat(first|refine tR ?_|refine bR ?_)
 refine C5 J ?_ O
 rfl
theorem pre2 (b : UInt8) (l : List UInt8) : ([35,35] : List UInt8).isPrefixOf (b :: l)=(decide (b.toNat=35) && decide ((l.getD 0 0).toNat=35)):=by
 have hb : ∀ x : UInt8,((35 : UInt8) == x)=decide (x.toNat=35):=by
  intro x
  rw[Bool.eq_iff_iff]
  simp only [beq_iff_eq,decide_eq_true_eq]
  exact ⟨fun h=>by subst h; rfl,fun h=>UInt8.toNat_inj.1 (by rw[h]; rfl)⟩
 cases l with
 | nil=>simp [List.isPrefixOf,hb]
 | cons c r=>simp [List.isPrefixOf,hb]
theorem Gk (s : List UInt8) (hs : s.length≤9223372036854775807) : Ctr sys 138 [xs s] [] (xi (nlE s : Nat)) none []:=by
 refine D1 Tryz.func138 J J J J J J ?_;refine A8 (A6 ?_);refine A5 J J J (A9 J gU) ?_;refine B0 ?_;refine A8 (A6 ?_);refine A5 J J J (A9 J gU) ?_;refine B0 ?_;refine A8 ?_;refine C4 ?_;refine F3 (ι:=Nat) { t:=[(0,_,_)],bx:=[],ow:=[] } (fun k=>[(3,true,xi (k : Int))]) (fun k=>[]) (fun k=>1≤k∧(k≤s.length∨k=1)∧nmP (s.drop k) + k=nlE s) (fun k=>s.length - k) (1) (⟨by omega,by omega,by unfold nlE; omega⟩) (B4 (⟨U J,U J,O⟩) O O) ?_
 intro k hok
 dsimp only [List.cons_append,List.nil_append]
 obtain ⟨hk1,hk,hi⟩:=hok
 refine A8 ?_;refine A8 (A6 ?_);refine A5 J J J (A7 J gU) ?_;refine A5 J J J (A7 J gU) ?_;refine L4 J J J J J gU (Tryz.underlying9) ?_ (fun hh=>by simp at hh); intro hlen;refine A5 J J J (B7 J J gU gU J) ?_;refine A5 J J J (A7 J gU) ?_;refine A5 J J J (A7 J gU) ?_;refine A5 J J J (A7 J gU) ?_;refine A5 J J J (E6 (j:=k) J J (fun hh=>hh) (fun hh=>hh) Tryz.underlying9 (by first|omega|(simp at hh ⊢; omega)) (fun hh=>by first|omega|(simp at hh ⊢; omega))) ?_;refine C8 J J J J J J gU (fun hh=>gA ((fun hh=>hh) hh) (rfl)) (Ed _) J ?_;refine A5 J J J (A7 J (fun hh=>hh)) ?_;refine A5 J J J (A7 J gU) ?_;refine A5 J J J (A7 J gU) ?_;refine H3 (s:=⟨[(0,_,_),(3,_,_),(8,_,_),(13,_,_),(14,_,_),(15,_,_)],[],[],[]⟩) (B4 (⟨U J,U J,U J,U J,U J,U J,O⟩) O O) ?_;refine A5 J J J (E6 (j:=k) J J (fun hh=>hh) (fun hh=>hh) Tryz.underlying9 (by first|omega|(simp at hh ⊢; omega)) (fun hh=>by first|omega|(simp at hh ⊢; omega))) ?_;refine C8 J J J J J J gU (fun hh=>gA ((fun hh=>hh) hh) (rfl)) (Ps _) J ?_;refine A5 J J J (E5 J J (fun hh=>hh) (fun hh hi=>gP hh hi)) ?_
 refine A5 J J J (A7 J (fun hh=>hh)) ?_;refine A5 J J J (A7 J gU) ?_;refine A5 J J J (A7 J gU) ?_;refine A5 J J J (E6 (j:=k) J J (fun hh=>hh) (fun hh=>hh) Tryz.underlying9 (by first|omega|(simp at hh ⊢; omega)) (fun hh=>by first|omega|(simp at hh ⊢; omega))) ?_;refine A5 J J J (B7 J J (fun hh=>hh) gU J) ?_;refine A5 J J J (E5 J J (fun hh=>hh) (fun hh hi=>gP hh hi)) ?_;refine A5 J J J (A7 J (fun hh=>hh)) ?_;refine A5 J J J (A7 J gU) ?_;refine A5 J J J (A7 J gU) ?_;refine H3 (s:=⟨[(0,_,_),(3,_,_),(8,_,_),(25,_,_),(26,_,_),(27,_,_)],[],[],[]⟩) (B4 (⟨U J,U J,U J,U J,U J,U J,O⟩) O O) ?_;refine A5 J J J (E6 (j:=k) J J (fun hh=>hh) (fun hh=>hh) Tryz.underlying9 (by first|omega|(simp at hh ⊢; omega)) (fun hh=>by first|omega|(simp at hh ⊢; omega))) ?_;refine A5 J J J (B7 J J (fun hh=>hh) gU J) ?_;refine A5 J J J (E5 J J (fun hh=>hh) (fun hh hi=>gP hh hi)) ?_;refine A5 J J J (E0 J J gU (fun _ hi=>gP J hi)) ?_;refine B0 ?_;refine B9 J (fun hc=>?_) (fun hc=>?_)
 ·try simp only [nn] at hc
  rw[H9 (by omega),nmP] at hi
  refine C0 ?_;refine C4 ?_;refine A8 ?_;refine A8 (A6 ?_);refine A5 J J J (A7 J gU) ?_;refine A5 J J J (A7 J gU) ?_;refine A5 J J J (K7 (l:=k) J gU Tryz.underlying9 (fun _=>⟨_,_,_,rfl,gU,by first|omega|(simp at hh ⊢; omega)⟩) (fun _=>rfl) (fun hh=>by first|omega|(simp at hh ⊢; omega)) (fun hh=>by first|omega|(simp at hh ⊢; omega))) ?_;refine C8 J J J J J J gU gU (Hu _ _) J ?_;refine B0 ?_;refine B5 (s:=⟨[(0,_,_),(3,_,_),(35,_,_)],[],[],[]⟩) (B4 (⟨U J,U J,U J,O⟩) O O) ?_;refine B9 J (fun hc2=>?_) (fun hc2=>?_)
  ·try simp only [nn] at hc2
   rw[List.take_length,H9 (by omega),pre2] at hc2
   refine E2 ?_
   repeat(first|refine D5 ?_|refine D6 ?_|refine D2 J ?_)
   refine A8 (A6 ?_);refine A5 J J J (A7 J gU) ?_;refine A5 J J J (A9 J gU) ?_;refine B0 ?_;refine C1 ?_
   repeat(first|refine tR ?_|refine bR ?_)
   refine C5 J ?_ O
   (have hn:=hi; rw[if_neg (by intro q; simp only [Bool.and_eq_true,decide_eq_true_eq] at hc2; exact q.2 hc2)] at hn; exact H2 (by omega))
  ·try simp only [nn] at hc2
   rw[List.take_length,H9 (by omega),pre2] at hc2
   have hn:=hi
   rw[if_pos ⟨by simp only [M6]; grind,by simpa using hc2⟩] at hn
   refine C0 ?_;refine A6 ?_;refine A5 J J J (A7 J gU) ?_;refine A5 J J J (D0 J J gU gU J (IntWalk.i64_in _ (by omega))) ?_;refine A5 J J J (A9 J gU) ?_;refine B0 ?_;refine ⟨k + 1,?_,?_,B4 (⟨⟨_,rfl,?_⟩,⟨U J,O⟩⟩) O O⟩
   all_goals (first|rfl|omega|exact ⟨by omega,by omega,by omega⟩)
 ·try simp only [nn] at hc
  refine E2 ?_
  repeat(first|refine D5 ?_|refine D6 ?_|refine D2 J ?_)
  refine A8 (A6 ?_);refine A5 J J J (A7 J gU) ?_;refine A5 J J J (A9 J gU) ?_;refine B0 ?_;refine C1 ?_
  repeat(first|refine tR ?_|refine bR ?_)
  refine C5 J ?_ O
  (have hn : nmP (s.drop k)=0:=by { by_cases hlt : k < s.length; { rw[H9 hlt,nmP,if_neg (by simp only [M6]; grind)] }; { rw[List.drop_of_length_le (by omega)]; rfl } }; exact H2 (by omega))
theorem Gp {c : UInt8} (h : hexB c=true) : 0≤hexV c∧hexV c≤15:=by
 simp [hexB] at h
 unfold hexV
 split <;> omega
theorem uBS {x : Int} {n : Nat} (h : x=n) (hn : n < 256) : x=((UInt8.ofNat n).toNat : Int):=by
 rw[h,UInt8.toNat_ofNat']; omega
theorem Yv {n i : Nat} {l out : List UInt8} (h : l=[]) : litA n l i out=([],0):=by subst h; cases n <;> rfl
theorem uBm {s : List UInt8} {k : Nat} (h : k < s.length) : escE (s.drop k)=if (s.getD k 0).toNat=110 then (10,1) else if (s.getD k 0).toNat=116 then (9,1) else if (s.getD k 0).toNat=34∨(s.getD k 0).toNat=92 then (s.getD k 0,1)
  else if (s.getD k 0).toNat=120∧k + 2 < s.length∧hexB (s.getD (k + 1) 0)=true∧hexB (s.getD (k + 2) 0)=true then (UInt8.ofNat (16 * hexV (s.getD (k + 1) 0) + hexV (s.getD (k + 2) 0)).toNat,3) else (0,0):=by
 have e : (2≤s.length - (k + 1))=(k + 2 < s.length):=propext (by omega)
 rw[H9 h,escE,Lc,Lc,List.length_drop]
 simp only [e,Nat.add_zero]
theorem Ww {s out : List UInt8} {n k : Nat} (h : k < s.length) : litA (n + 1) (s.drop k) k out=if (s.getD k 0).toNat=34 then (out,k + 1)
  else if (s.getD k 0).toNat=92 then (if (escE (s.drop (k + 1))).2=0 then ([],0) else litA n (s.drop (k + 1 + (escE (s.drop (k + 1))).2)) (k + 1 + (escE (s.drop (k + 1))).2) (out++[(escE (s.drop (k + 1))).1]))
  else if (s.getD k 0).toNat < 32∨126 < (s.getD k 0).toNat then ([],0) else litA n (s.drop (k + 1)) (k + 1) (out++[s.getD k 0]):=by
 rw[H9 h,litA,List.drop_drop]
theorem Vn {n : Int} (h : K4 n=true) : 48≤n∧n≤57:=by simpa [K4] using h
theorem W8 (c : UInt8) (n : Int) (h : n=(c.toNat : Int)) : Ctr sys 129 [xu n] [] (xi (clsE c)) none []:=by
 subst h
 have hu:=c.toNat_lt
 have h18 : syms.length=18:=rfl
 refine D1 Tryz.func129 J J J J J J ?_;refine A8 (A6 ?_);refine A5 J J J (A9 J gU) ?_;refine B0 ?_;refine A8 ?_;refine C4 ?_;refine A8 (A6 ?_);refine A5 J J J (A7 J gU) ?_;refine A5 J J J (B7 J J gU gU J) ?_;refine A5 J J J (A7 J gU) ?_;refine A5 J J J (A7 J gU) ?_;refine A5 J J J (B7 J J (fun hh=>hh) gU J) ?_;refine A5 J J J (E5 J J gU (fun _ hi=>gP J hi)) ?_;refine A5 J J J (A7 J gU) ?_;refine A5 J J J (A7 J gU) ?_;refine A5 J J J (B7 J J (fun hh=>hh) gU J) ?_;refine A5 J J J (E5 J J gU (fun _ hi=>gP J hi)) ?_;refine A5 J J J (A7 J gU) ?_;refine H3 (s:=⟨[(0,_,_),(16,_,_)],[],[],[]⟩) (B4 (⟨U J,U J,O⟩) O O) ?_;refine A5 J J J (A7 J gU) ?_;refine A5 J J J (B7 J J (fun hh=>hh) gU J) ?_;refine A5 J J J (E5 J J gU (fun _ hi=>gP J hi)) ?_;refine A5 J J J (A9 J gU) ?_;refine B0 ?_;refine B9 J (fun hc=>?_) (fun hc=>?_)
 ·try simp only [nn] at hc
  refine A8 (A6 ?_);refine A5 J J J (A9 J gU) ?_;refine B0 ?_;refine C1 ?_
  repeat(first|refine tR ?_|refine bR ?_)
  refine C5 J ?_ O;exact H2 (by rw[clsE,if_pos (by simp [P2]; omega)])
 ·try simp only [nn] at hc
  have hw : ¬P2 c=true:=by simp [P2]; omega
  refine A8 (A6 ?_);refine A5 J J J (A7 J gU) ?_;refine A5 J J J (B7 J J gU gU J) ?_;refine A5 J J J (A7 J gU) ?_;refine A5 J J J (A7 J gU) ?_;refine A5 J J J (B7 J J (fun hh=>hh) gU J) ?_;refine A5 J J J (E0 J J gU (fun _ hi=>gP J hi)) ?_;refine A5 J J J (A7 J gU) ?_;refine A5 J J J (A7 J gU) ?_;refine H3 (s:=⟨[(0,_,_),(27,_,_),(28,_,_)],[],[],[]⟩) (B4 (⟨U J,U J,U J,O⟩) O O) ?_;refine A5 J J J (B7 J J (fun hh=>hh) gU J) ?_;refine A5 J J J (A7 J (fun hh=>hh)) ?_;refine A5 J J J (A7 J gU) ?_;refine A5 J J J (B7 J J (fun hh=>hh) gU J) ?_;refine A5 J J J (E0 J J (fun hh=>hh) (fun hh hi=>gP hh hi)) ?_;refine A5 J J J (E5 J J gU (fun _ hi=>gP J hi)) ?_;refine A5 J J J (A9 J gU) ?_;refine B0 ?_;refine B5 (s:=⟨[(0,_,_),(20,_,_)],[],[],[]⟩) (B4 (⟨U J,U J,O⟩) O O) ?_;refine B9 J (fun hc2=>?_) (fun hc2=>?_)
  ·try simp only [nn] at hc2
   refine A8 (A6 ?_);refine A5 J J J (A9 J gU) ?_;refine B0 ?_;refine C1 ?_
   repeat(first|refine tR ?_|refine bR ?_)
   refine C5 J ?_ O;exact H2 (by rw[clsE,if_neg hw,if_pos (by simp [I1]; omega)])
  ·try simp only [nn] at hc2
   have hl : ¬I1 (c.toNat : Int)=true:=by simp [I1]; omega
   refine A8 (A6 ?_);refine A5 J J J (A7 J gU) ?_;refine A5 J J J (B7 J J gU gU J) ?_;refine A5 J J J (A7 J gU) ?_;refine A5 J J J (A7 J gU) ?_;refine A5 J J J (B7 J J (fun hh=>hh) gU J) ?_;refine A5 J J J (E0 J J gU (fun _ hi=>gP J hi)) ?_;refine A5 J J J (A9 J gU) ?_;refine B0 ?_;refine B5 (s:=⟨[(0,_,_),(35,_,_)],[],[],[]⟩) (B4 (⟨U J,U J,O⟩) O O) ?_;refine B9 J (fun hc3=>?_) (fun hc3=>?_)
   ·try simp only [nn] at hc3
    refine A8 (A6 ?_);refine A5 J J J (A9 J gU) ?_;refine B0 ?_;refine C1 ?_
    repeat(first|refine tR ?_|refine bR ?_)
    refine C5 J ?_ O;exact H2 (by rw[clsE,if_neg hw,if_neg hl,if_pos (by simp [K4]; omega)])
   ·try simp only [nn] at hc3
    have hd : ¬K4 (c.toNat : Int)=true:=by simp [K4]; omega
    refine A8 (A6 ?_);refine A5 J J J (A7 J gU) ?_;refine A5 J J J (B7 J J gU gU J) ?_;refine A5 J J J (A9 J gU) ?_;refine B0 ?_;refine B9 J (fun hc4=>?_) (fun hc4=>?_)
    ·try simp only [nn] at hc4
     refine A8 (A6 ?_);refine A5 J J J (A9 J gU) ?_;refine B0 ?_;refine C1 ?_
     repeat(first|refine tR ?_|refine bR ?_)
     refine C5 J ?_ O;exact H2 (by rw[clsE,if_neg hw,if_neg hl,if_neg hd,if_pos (by omega)])
    ·try simp only [nn] at hc4
     have hx : clsE c=if symB c=true then 4 else 0:=by rw[clsE,if_neg hw,if_neg hl,if_neg hd,if_neg (by omega)]
     rw[hx]
     refine C0 ?_;refine A8 (A6 ?_);refine A5 J J J (A9 J gU) ?_;refine B0 ?_;refine A8 ?_;refine A8 (A6 ?_);refine A5 J J J (A9 J gU) ?_;refine B0 ?_;refine B5 (s:=⟨[(0,_,_),(3,_,_),(4,_,_)],[],[],[]⟩) (B4 (⟨U J,U J,U J,O⟩) O O) ?_;refine C4 ?_;refine F3 (ι:=Nat) { t:=[(0,_,_),(3,_,_)],bx:=[],ow:=[] } (fun k=>[(4,true,xi (k : Int))]) (fun k=>[]) (fun k=>k≤18∧(syms.drop k).contains c=symB c) (fun k=>18 - k) (0) (⟨by omega,rfl⟩) (B4 (⟨U J,U J,U J,O⟩) O O) ?_
     intro k hok
     dsimp only [List.cons_append,List.nil_append]
     obtain ⟨hk,hi⟩:=hok
     refine A8 ?_;refine A8 (A6 ?_);refine A5 J J J (A7 J gU) ?_;refine A5 J J J (A7 J gU) ?_;refine L4 J J J J J gU (Tryz.underlying9) ?_ (fun hh=>by simp at hh); intro hlen;refine A5 J J J (B7 J J gU gU J) ?_;refine B0 ?_;refine B9 J (fun hc5=>?_) (fun hc5=>?_)
     ·try simp only [nn] at hc5
      have hk2 : k < syms.length:=by rw[h18]; simp at hc5; omega
      rw[H9 hk2,List.contains_cons] at hi
      refine C0 ?_;refine A8 ?_;refine C4 ?_;refine A8 (A6 ?_);refine A5 J J J (A7 J gU) ?_;refine A5 J J J (A7 J gU) ?_;refine A5 J J J (E6 (j:=k) J J gU gU Tryz.underlying9 (by first|omega|(show _ < 18; omega)|(simp at hh ⊢; omega)) (fun hh=>by first|omega|(show _ < 18; omega)|(simp at hh ⊢; omega))) ?_;refine A5 J J J (A7 J gU) ?_;refine A5 J J J (B7 J J gU gU J) ?_;refine B0 ?_;refine B5 (s:=⟨[(0,_,_),(3,_,_),(4,_,_),(55,_,_)],[],[],[]⟩) (B4 (⟨U J,U J,U J,U J,O⟩) O O) ?_;refine B9 J (fun hc6=>?_) (fun hc6=>?_)
      ·try simp only [nn] at hc6
       have he : c=syms.getD k 0:=UInt8.toNat_inj.1 (by have : ((syms.getD k 0).toNat : Int)=(c.toNat : Int):=hc6; omega)
       refine A8 (A6 ?_);refine A5 J J J (A9 J gU) ?_;refine B0 ?_;refine C1 ?_
       repeat(first|refine tR ?_|refine bR ?_)
       refine C5 J ?_ O;exact H2 (by rw[← hi,he]; simp)
      ·try simp only [nn] at hc6
       have he : (c == syms.getD k 0)=false:=by
        rw[beq_eq_false_iff_ne]
        intro q
        exact hc6 (by show ((syms.getD k 0).toNat : Int)=(c.toNat : Int); rw[q])
       rw[he,Bool.false_or] at hi
       refine C0 ?_;refine A6 ?_;refine A5 J J J (A7 J gU) ?_;refine A5 J J J (D0 J J gU gU J (IntWalk.i64_in _ (by omega))) ?_;refine A5 J J J (A9 J gU) ?_;refine B0 ?_;refine ⟨k + 1,?_,?_,B4 (⟨⟨_,rfl,?_⟩,⟨U J,U J,O⟩⟩) O O⟩
       all_goals (first|rfl|omega|exact ⟨by omega,hi⟩)
     ·try simp only [nn] at hc5
      have hk2 : k=18:=by simp at hc5; omega
      rw[List.drop_of_length_le (by rw[h18]; omega)] at hi
      refine E2 ?_
      repeat(first|refine D5 ?_|refine D6 ?_|refine D2 J ?_)
      refine A8 (A6 ?_);refine A5 J J J (A9 J gU) ?_;refine B0 ?_;refine C1 ?_
      repeat(first|refine tR ?_|refine bR ?_)
      refine C5 J ?_ O;exact H2 (by rw[← hi]; rfl)
theorem As (c : UInt8) : (clsE c=2 ↔ I1 (c.toNat : Int)=true)∧(clsE c=3 ↔ K4 (c.toNat : Int)=true)∧(clsE c=1 ↔ P2 c=true):=by
 unfold clsE
 have h1 : P2 c=true→I1 (c.toNat : Int)≠true∧K4 (c.toNat : Int)≠true:=by simp [P2,I1,K4]; omega
 have h2 : I1 (c.toNat : Int)=true→K4 (c.toNat : Int)≠true:=by simp [I1,K4]; omega
 refine ⟨?_,?_,?_⟩
 all_goals (repeat' split)
 all_goals simp_all
theorem Ok (c : UInt8) : M6 (c.toNat : Int)=true ↔ ((clsE c=2∨clsE c=3)∨c.toNat=95)∨c.toNat=35:=by
 rw[(As c).1,(As c).2.1]
 have e1 : ((c.toNat : Int)=95)=(c.toNat=95):=propext (by omega)
 have e2 : ((c.toNat : Int)=35)=(c.toNat=35):=propext (by omega)
 simp only [M6,Bool.or_eq_true,beq_iff_eq,e1,e2]
theorem Xd (s : List UInt8) (hs : s.length≤2000000) : Ctr sys 149 [xs s] [] (xs (s.take (wdN s))) none []:=by
 refine D1 Tryz.func149 J J J J J J ?_;refine A8 (A6 ?_);refine A5 J J J (A9 J gU) ?_;refine B0 ?_;refine A8 (A6 ?_);refine A5 J J J (A9 J gU) ?_;refine B0 ?_;refine A8 ?_;refine C4 ?_;refine F3 (ι:=Nat) { t:=[(0,_,_)],bx:=[],ow:=[] } (fun k=>[(3,true,xi (k : Int))]) (fun k=>[]) (fun k=>k≤s.length∧wdN (s.drop k) + k=wdN s) (fun k=>s.length - k) (0) (⟨by omega,rfl⟩) (B4 (⟨U J,U J,O⟩) O O) ?_
 intro k hok
 dsimp only [List.cons_append,List.nil_append]
 obtain ⟨hk,hi⟩:=hok
 refine A8 ?_;refine A8 (A6 ?_);refine A5 J J J (A7 J gU) ?_;refine A5 J J J (A7 J gU) ?_;refine L4 J J J J J gU (Tryz.underlying9) ?_ (fun hh=>by simp at hh); intro hlen;refine A5 J J J (B7 J J gU gU J) ?_;refine A5 J J J (A7 J gU) ?_;refine A5 J J J (A7 J gU) ?_;refine A5 J J J (A7 J gU) ?_;refine A5 J J J (E6 (j:=k) J J (fun hh=>hh) (fun hh=>hh) Tryz.underlying9 (by first|omega|(simp at hh ⊢; omega)) (fun hh=>by first|omega|(simp at hh ⊢; omega))) ?_;refine C8 J J J J J J gU (fun hh=>gA ((fun hh=>hh) hh) (rfl)) (W8 _ _ J) J ?_;refine A5 J J J (B7 J J (fun hh=>hh) gU J) ?_;refine A5 J J J (A7 J (fun hh=>hh)) ?_;refine A5 J J J (A7 J gU) ?_;refine H3 (s:=⟨[(0,_,_),(3,_,_),(8,_,_),(14,_,_),(15,_,_)],[],[],[]⟩) (B4 (⟨U J,U J,U J,U J,U J,O⟩) O O) ?_;refine A5 J J J (A7 J gU) ?_;refine A5 J J J (E6 (j:=k) J J (fun hh=>hh) (fun hh=>hh) Tryz.underlying9 (by first|omega|(simp at hh ⊢; omega)) (fun hh=>by first|omega|(simp at hh ⊢; omega))) ?_;refine C8 J J J J J J gU (fun hh=>gA ((fun hh=>hh) hh) (rfl)) (W8 _ _ J) J ?_
 refine A5 J J J (B7 J J (fun hh=>hh) gU J) ?_;refine A5 J J J (E5 J J (fun hh=>hh) (fun hh hi=>gP hh hi)) ?_;refine A5 J J J (A7 J (fun hh=>hh)) ?_;refine A5 J J J (A7 J gU) ?_;refine A5 J J J (A7 J gU) ?_;refine A5 J J J (E6 (j:=k) J J (fun hh=>hh) (fun hh=>hh) Tryz.underlying9 (by first|omega|(simp at hh ⊢; omega)) (fun hh=>by first|omega|(simp at hh ⊢; omega))) ?_;refine A5 J J J (B7 J J (fun hh=>hh) gU J) ?_;refine A5 J J J (E5 J J (fun hh=>hh) (fun hh hi=>gP hh hi)) ?_;refine A5 J J J (A7 J (fun hh=>hh)) ?_;refine H3 (s:=⟨[(0,_,_),(3,_,_),(8,_,_),(27,_,_)],[],[],[]⟩) (B4 (⟨U J,U J,U J,U J,O⟩) O O) ?_;refine A5 J J J (A7 J gU) ?_;refine A5 J J J (A7 J gU) ?_;refine A5 J J J (E6 (j:=k) J J (fun hh=>hh) (fun hh=>hh) Tryz.underlying9 (by first|omega|(simp at hh ⊢; omega)) (fun hh=>by first|omega|(simp at hh ⊢; omega))) ?_;refine A5 J J J (B7 J J (fun hh=>hh) gU J) ?_;refine A5 J J J (E5 J J (fun hh=>hh) (fun hh hi=>gP hh hi)) ?_;refine A5 J J J (E0 J J gU (fun _ hi=>gP J hi)) ?_;refine B0 ?_;refine B5 (s:=⟨[(0,_,_),(3,_,_),(33,_,_)],[],[],[]⟩) (B4 (⟨U J,U J,U J,O⟩) O O) ?_
 refine B9 J (fun hc=>?_) (fun hc=>?_)
 ·try simp only [nn] at hc
  rw[H9 (by omega),wdN,if_pos ((Ok _).2 (by omega))] at hi
  refine C0 ?_;refine C4 ?_;refine A6 ?_;refine A5 J J J (A7 J gU) ?_;refine A5 J J J (D0 J J gU gU J (IntWalk.i64_in _ (by omega))) ?_;refine A5 J J J (A9 J gU) ?_;refine B0 ?_;refine ⟨k + 1,?_,?_,B4 (⟨⟨_,rfl,?_⟩,⟨U J,O⟩⟩) O O⟩
  all_goals (first|rfl|omega)
 ·try simp only [nn] at hc
  have hn : wdN (s.drop k)=0:=by
   by_cases hlt : k < s.length
   ·rw[H9 hlt,wdN,if_neg (fun q=>by have := (Ok _).1 q; omega)]
   ·rw[List.drop_of_length_le (by omega)]; rfl
  have hn2 : wdN s=k:=by omega
  rw[hn2]
  refine E2 ?_
  repeat(first|refine D5 ?_|refine D6 ?_|refine D2 J ?_)
  refine A8 (A6 ?_);refine A5 J J J (A7 J gU) ?_;refine A5 J J J (A7 J gU) ?_;refine A5 J J J (K7 (h':=k) J gU Tryz.underlying9 (fun _=>rfl) (fun _=>⟨_,_,_,rfl,gU,by first|omega|(simp at hh ⊢; omega)⟩) (fun hh=>by first|omega|(simp at hh ⊢; omega)) (fun hh=>by first|omega|(simp at hh ⊢; omega))) ?_;refine A5 J J J (A9 J gU) ?_;refine B0 ?_;refine C1 ?_
  repeat(first|refine tR ?_|refine bR ?_)
  refine C5 J ?_ O
  rfl
theorem Xv (s : List UInt8) (hs : s.length≤2000000) : Ctr sys 128 [xs s] [] (xs (H5 s)) none []:=by
 refine D1 Tryz.func128 J J J J J J ?_;refine A8 (A6 ?_);refine A5 J J J (A9 J gU) ?_;refine B0 ?_;refine A8 (A6 ?_);refine A5 J J J (A9 J gU) ?_;refine B0 ?_;refine A8 ?_;refine A8 (A6 ?_);refine A5 J J J (A9 J gU) ?_;refine B0 ?_;refine C4 ?_;refine F3 (ι:=Nat × Bool) { t:=[(0,_,_)],bx:=[],ow:=[] } (fun p=>[(4,true,xi (p.1 : Int)),(3,true,xb p.2)]) (fun p=>[]) (fun p=>p.1≤s.length + 1∧s.take (O0 p.2 (s.drop p.1) + p.1)=H5 s) (fun p=>s.length + 1 - p.1) ((0,false)) (⟨by simp,rfl⟩) (B4 (⟨U J,U J,U J,O⟩) O O) ?_
 intro p hok
 dsimp only [List.cons_append,List.nil_append] at *
 obtain ⟨k,ins⟩:=p
 dsimp only at hok ⊢
 obtain ⟨hk,hi⟩:=hok
 refine A8 ?_;refine A8 (A6 ?_);refine A5 J J J (A7 J gU) ?_;refine A5 J J J (A7 J gU) ?_;refine L4 J J J J J gU (Tryz.underlying9) ?_ (fun hh=>by simp at hh); intro hlen;refine A5 J J J (B7 J J gU gU J) ?_;refine B0 ?_;refine B9 J (fun hc=>?_) (fun hc=>?_)
 ·try simp only [nn] at hc
  have hd : s.drop k=s.getD k 0 :: s.drop (k + 1):=H9 (by omega)
  refine C0 ?_;refine A8 ?_;refine C4 ?_;refine A8 ?_;refine A8 (A6 ?_);refine A5 J J J (A7 J gU) ?_;refine A5 J J J (A7 J gU) ?_;refine A5 J J J (A7 J gU) ?_;refine A5 J J J (A7 J gU) ?_;refine A5 J J J (E6 (j:=k) J J (fun hh=>hh) (fun hh=>hh) Tryz.underlying9 (by first|omega|(simp at hh ⊢; omega)) (fun hh=>by first|omega|(simp at hh ⊢; omega))) ?_;refine A5 J J J (B7 J J (fun hh=>hh) gU J) ?_;refine A5 J J J (E0 J J gU (fun _ hi=>gP J hi)) ?_;refine B0 ?_;refine B5 (s:=⟨[(0,_,_),(3,_,_),(4,_,_),(17,_,_)],[],[],[]⟩) (B4 (⟨U J,U J,U J,U J,O⟩) O O) ?_;refine B9 J (fun hc2=>?_) (fun hc2=>?_)
  ·try simp only [nn] at hc2
   have hq : ins=true∧(s.getD k 0).toNat=92:=⟨hc2.1,by omega⟩
   have hi2 : s.take (O0 true (s.drop (k + 2)) + (k + 2))=H5 s:=by
    rw[← hi,hd]
    by_cases hlt : k + 1 < s.length
    ·rw[H9 hlt,O0,if_pos hq,show k + 1 + 1=k + 2 from J]
     congr 1; omega
    ·rw[List.drop_of_length_le (by omega),List.drop_of_length_le (by omega),O0,O0,List.take_of_length_le (by omega),List.take_of_length_le (by omega)]
   refine A8 (A6 ?_);refine A5 J J J (A7 J gU) ?_;refine A5 J J J (D0 J J gU gU J (IntWalk.i64_in _ (by omega))) ?_;refine A5 J J J (A9 J gU) ?_;refine B0 ?_;refine E2 ?_
   repeat(first|refine D5 ?_|refine D6 ?_|refine D2 J ?_)
   refine A6 ?_;refine A5 J J J (A7 J gU) ?_;refine A5 J J J (D0 J J gU gU J (IntWalk.i64_in _ (by omega))) ?_;refine A5 J J J (A9 J gU) ?_;refine B0 ?_;refine ⟨(k + 2,true),?_,?_,B4 (⟨⟨_,rfl,?_⟩,⟨⟨_,rfl,?_⟩,⟨U J,O⟩⟩⟩) O O⟩
   all_goals (first|rfl|omega|exact ⟨by omega,hi2⟩|exact tx (M0 hq.1))
  ·try simp only [nn] at hc2
   have hq : ¬(ins=true∧(s.getD k 0).toNat=92):=by
    rintro ⟨q1,q2⟩
    rcases hc2 with z | z
    ·rw[q1] at z; simp at z
    ·omega
   have hlast : k + 1=s.length → ∀ i2 : Bool,s.take (O0 i2 (s.drop (k + 1)) + (k + 1))=H5 s:=by
    intro e i2
    rw[← hi,hd,List.drop_of_length_le (by omega),List.take_of_length_le (by omega),O0,List.take_of_length_le (by omega)]
   have hcut : k + 1 < s.length→(if (s.getD k 0).toNat=34 then !ins else ins)=false∧(s.getD k 0).toNat=35∧(s.getD (k + 1) 0).toNat=35→s.take k=H5 s:=by
    intro e q
    rw[← hi,hd,H9 e,O0,if_neg hq,if_pos q,Nat.zero_add]
   have hnext : k + 1 < s.length → ¬((if (s.getD k 0).toNat=34 then !ins else ins)=false∧(s.getD k 0).toNat=35∧(s.getD (k + 1) 0).toNat=35)→s.take (O0 (if (s.getD k 0).toNat=34 then !ins else ins) (s.drop (k + 1)) + (k + 1))=H5 s:=by
    intro e q
    rw[← hi,hd,H9 e,O0,if_neg hq,if_neg q]
    congr 1; omega
   have h35 : k + 1 < s.length→((s.take (k + 2)).drop k=[35,35] ↔ (s.getD k 0).toNat=35∧(s.getD (k + 1) 0).toNat=35):=by
    intro e
    have e1 : (s.take (k + 2)).drop k=[s.getD k 0,s.getD (k + 1) 0]:=by
     rw[H9 (by simp; omega),H9 (by simp; omega),List.drop_of_length_le (by simp; omega),Fb _ _ (by omega),Fb _ _ (by omega)]
    rw[e1]
    constructor
    ·intro q; simp only [List.cons.injEq,and_true] at q; rw[q.1,q.2]; exact ⟨rfl,rfl⟩
    ·rintro ⟨q1,q2⟩
     rw[UInt8.toNat_inj.1 (show (s.getD k 0).toNat=(35 : UInt8).toNat from q1),UInt8.toNat_inj.1 (show (s.getD (k + 1) 0).toNat=(35 : UInt8).toNat from q2)]
   refine C0 ?_;refine A8 ?_;refine A8 (A6 ?_);refine A5 J J J (A7 J gU) ?_;refine A5 J J J (A7 J gU) ?_;refine A5 J J J (E6 (j:=k) J J gU gU Tryz.underlying9 (by first|omega|(simp at hh ⊢; omega)) (fun hh=>by first|omega|(simp at hh ⊢; omega))) ?_;refine A5 J J J (B7 J J gU gU J) ?_;refine B0 ?_;refine B9 J (fun hc3=>?_) (fun hc3=>?_)
   ·try simp only [nn] at hc3
    rw[if_pos (by omega)] at hcut hnext
    refine A6 ?_;refine A5 J J J (A7 J gU) ?_;refine A5 J J J (F8 J gU) ?_;refine A5 J J J (A9 J gU) ?_;refine B0 ?_;refine B5 (s:=⟨[(0,_,_),(3,_,_),(4,_,_)],[],[],[]⟩) (B4 (⟨U J,U J,U J,O⟩) O O) ?_;refine A8 (A6 ?_);refine A5 J J J (A7 J gU) ?_;refine A5 J J J (F8 J gU) ?_;refine A5 J J J (A7 J gU) ?_;refine A5 J J J (A7 J gU) ?_;refine A5 J J J (D0 J J (fun hh=>hh) gU J (IntWalk.i64_in _ (by omega))) ?_;refine A5 J J J (A7 J gU) ?_;refine A5 J J J (O4 J (fun hh=>hh) (Tryz.underlying9)) ?_;refine A5 J J J (B7 J J (fun hh=>hh) (fun hh=>hh) J) ?_;refine A5 J J J (E0 J J gU (fun _ hi=>gP J hi)) ?_;refine A5 J J J (A7 J gU) ?_;refine A5 J J J (A7 J gU) ?_;refine A5 J J J (A7 J gU) ?_;refine H3 (s:=⟨[(0,_,_),(3,_,_),(4,_,_),(35,_,_),(36,_,_),(37,_,_)],[],[],[]⟩) (B4 (⟨U J,U J,U J,U J,U J,U J,O⟩) O O) ?_;refine A5 J J J (A7 J gU) ?_;refine A5 J J J (D0 J J (fun hh=>hh) gU J (IntWalk.i64_in _ (by omega))) ?_;refine A5 J J J (K7 (l:=k) (h':=(k + 2)) J (fun hh=>hh) Tryz.underlying9 (fun _=>⟨_,_,_,rfl,(fun hh=>hh),by first|omega|(simp at hh ⊢; omega)⟩) (fun _=>⟨_,_,_,rfl,(fun hh=>hh),by first|omega|(simp at hh ⊢; omega)⟩) (fun hh=>by first|omega|(simp at hh ⊢; omega)) (fun hh=>by first|omega|(simp at hh ⊢; omega))) ?_
    refine A5 J J J (G0 J J (fun hh=>hh) gU J) ?_;refine A5 J J J (E0 J J gU (fun _ hi=>gP J hi)) ?_;refine B0 ?_;refine B5 (s:=⟨[(0,_,_),(3,_,_),(4,_,_),(42,_,_)],[],[],[]⟩) (B4 (⟨U J,U J,U J,U J,O⟩) O O) ?_;refine B9 J (fun hc4=>?_) (fun hc4=>?_)
    ·try simp only [nn] at hc4
     exfalso
     have := (h35 (by omega)).1 hc4.2
     omega
    ·try simp only [nn] at hc4
     have hfin : s.take (O0 (!ins) (s.drop (k + 1)) + (k + 1))=H5 s:=by
      by_cases hlt : k + 1 < s.length
      ·exact hnext hlt (by omega)
      ·exact hlast (by omega) _
     refine C0 ?_;refine A6 ?_;refine A5 J J J (A7 J gU) ?_;refine A5 J J J (D0 J J gU gU J (IntWalk.i64_in _ (by omega))) ?_;refine A5 J J J (A9 J gU) ?_;refine B0 ?_;refine ⟨(k + 1,!ins),?_,?_,B4 (⟨⟨_,rfl,?_⟩,⟨⟨_,rfl,?_⟩,⟨U J,O⟩⟩⟩) O O⟩
     all_goals (first|rfl|omega|exact ⟨by omega,hfin⟩)
   ·try simp only [nn] at hc3
    rw[if_neg (by omega)] at hcut hnext
    refine C0 ?_;refine A8 (A6 ?_);refine A5 J J J (A7 J gU) ?_;refine A5 J J J (F8 J gU) ?_;refine A5 J J J (A7 J gU) ?_;refine A5 J J J (A7 J gU) ?_;refine A5 J J J (D0 J J (fun hh=>hh) gU J (IntWalk.i64_in _ (by omega))) ?_;refine A5 J J J (A7 J gU) ?_;refine A5 J J J (O4 J (fun hh=>hh) (Tryz.underlying9)) ?_;refine A5 J J J (B7 J J (fun hh=>hh) (fun hh=>hh) J) ?_;refine H3 (s:=⟨[(0,_,_),(3,_,_),(4,_,_),(28,_,_),(33,_,_)],[],[],[]⟩) (B4 (⟨U J,U J,U J,U J,U J,O⟩) O O) ?_;refine A5 J J J (E0 J J gU (fun _ hi=>gP J hi)) ?_;refine A5 J J J (A7 J gU) ?_;refine A5 J J J (A7 J gU) ?_;refine A5 J J J (A7 J gU) ?_;refine A5 J J J (A7 J gU) ?_;refine A5 J J J (D0 J J (fun hh=>hh) gU J (IntWalk.i64_in _ (by omega))) ?_;refine A5 J J J (K7 (l:=k) (h':=(k + 2)) J (fun hh=>hh) Tryz.underlying9 (fun _=>⟨_,_,_,rfl,(fun hh=>hh),by first|omega|(simp at hh ⊢; omega)⟩) (fun _=>⟨_,_,_,rfl,(fun hh=>hh),by first|omega|(simp at hh ⊢; omega)⟩) (fun hh=>by first|omega|(simp at hh ⊢; omega)) (fun hh=>by first|omega|(simp at hh ⊢; omega))) ?_
    refine A5 J J J (G0 J J (fun hh=>hh) gU J) ?_;refine A5 J J J (E0 J J gU (fun _ hi=>gP J hi)) ?_;refine B0 ?_;refine B5 (s:=⟨[(0,_,_),(3,_,_),(4,_,_),(42,_,_)],[],[],[]⟩) (B4 (⟨U J,U J,U J,U J,O⟩) O O) ?_;refine B9 J (fun hc4=>?_) (fun hc4=>?_)
    ·try simp only [nn] at hc4
     have := (h35 (by omega)).1 hc4.2
     have hfin:=hcut (by omega) ⟨hc4.1.1,this⟩
     refine A8 (A6 ?_);refine A5 J J J (A7 J gU) ?_;refine A5 J J J (A7 J gU) ?_;refine A5 J J J (K7 (h':=k) J gU Tryz.underlying9 (fun _=>rfl) (fun _=>⟨_,_,_,rfl,gU,by first|omega|(simp at hh ⊢; omega)⟩) (fun hh=>by first|omega|(simp at hh ⊢; omega)) (fun hh=>by first|omega|(simp at hh ⊢; omega))) ?_;refine A5 J J J (A9 J gU) ?_;refine B0 ?_;refine C1 ?_
     repeat(first|refine tR ?_|refine bR ?_)
     refine C5 J ?_ O
     (rw[← hfin]; rfl)
    ·try simp only [nn] at hc4
     have hfin : s.take (O0 ins (s.drop (k + 1)) + (k + 1))=H5 s:=by
      by_cases hlt : k + 1 < s.length
      ·refine hnext hlt ?_
       rintro ⟨q1,q2⟩
       have q3:=(h35 hlt).2 q2
       rcases hc4 with z | z
       ·rcases z with z | z
        ·rw[q1] at z; simp at z
        ·omega
       ·exact z q3
      ·exact hlast (by omega) _
     refine C0 ?_;refine A6 ?_;refine A5 J J J (A7 J gU) ?_;refine A5 J J J (D0 J J gU gU J (IntWalk.i64_in _ (by omega))) ?_;refine A5 J J J (A9 J gU) ?_;refine B0 ?_;refine ⟨(k + 1,ins),?_,?_,B4 (⟨⟨_,rfl,?_⟩,⟨⟨_,rfl,?_⟩,⟨U J,O⟩⟩⟩) O O⟩
     all_goals (first|rfl|omega|exact ⟨by omega,hfin⟩)
 ·try simp only [nn] at hc
  rw[List.take_of_length_le (by omega)] at hi
  refine E2 ?_
  repeat(first|refine D5 ?_|refine D6 ?_|refine D2 J ?_)
  refine A8 (A6 ?_);refine A5 J J J (A7 J gU) ?_;refine A5 J J J (A9 J gU) ?_;refine B0 ?_;refine C1 ?_
  repeat(first|refine tR ?_|refine bR ?_)
  refine C5 J ?_ O
  (rw[← hi]; rfl)
def Ea : List UInt8→Nat→UInt8→Int→Int
 | [],_,_,r=>r
 | b :: l,k,c,r=>Ea l (k + 1) c (if c.toNat=b.toNat then (k : Int) else r)
theorem uCh : ∀ n : Fin 256,Ea hexs 0 (UInt8.ofNat n.val) (-1)=if hexB (UInt8.ofNat n.val)=true then hexV (UInt8.ofNat n.val) else -1:=by decide +kernel
theorem Sj (c : UInt8) : Ea hexs 0 c (-1)=if hexB c=true then hexV c else -1:=by
 have := uCh ⟨c.toNat,c.toNat_lt⟩
 rwa [show UInt8.ofNat c.toNat=c from UInt8.ofNat_toNat] at this
def forms : List UInt8:=[110,10,116,9,34,34,92,92]
def Kj : List UInt8→UInt8→Option UInt8
 | a :: b :: l,c=>if c.toNat=a.toNat then some b else Kj l c
 | _,_=>none
theorem uA6 {a b : Int} {n m : Int} (h : a=b) (hn : n=m) : X.tup [.c (.i .u8 a), .c (.i .i64 n)]=X.tup [.c (.i .u8 b), .c (.i .i64 m)]:=by rw[h,hn]
theorem Pv (s : List UInt8) (hs : s.length≤2000000) : Ctr sys 164 [xs s] [] (.tup [.c (.i .u8 ((escE s).1.toNat : Int)), .c (.i .i64 ((escE s).2 : Int))]) none []:=by
 have h8 : forms.length=8:=rfl
 have h16 : hexs.length=16:=rfl
 refine D1 Tryz.func164 J J J J J J ?_;refine A8 (A6 ?_);refine A5 J J J (A9 J gU) ?_;refine A5 J J J (A9 J gU) ?_;refine B0 ?_;refine A8 ?_;refine A8 (A6 ?_);refine A5 J J J (A7 J gU) ?_;refine L4 J J J J J gU (Tryz.underlying9) ?_ (fun hh=>by simp at hh); intro hlen;refine A5 J J J (B7 J J gU gU J) ?_;refine B0 ?_;refine B5 (s:=⟨[(0,_,_),(12,_,_)],[],[],[]⟩) (B4 (⟨U J,U J,O⟩) O O) ?_;refine B9 J (fun hc=>?_) (fun hc=>?_)
 ·try simp only [nn] at hc
  have : s=[]:=by cases s; rfl; simp at hc; omega
  subst this
  refine A8 (A6 ?_);refine A5 J J J (A9 J gU) ?_;refine A5 J J J (A9 J gU) ?_;refine B0 ?_;refine C1 ?_
  repeat(first|refine tR ?_|refine bR ?_)
  refine C5 J ?_ O
  rfl
 ·try simp only [nn] at hc
  have he:=uBm (s:=s) (k:=0) (by omega)
  rw[List.drop_zero,Nat.zero_add,Nat.zero_add] at he
  have hu:=(s.getD 0 0).toNat_lt
  refine C0 ?_;refine A8 (A6 ?_);refine A5 J J J (A9 J gU) ?_;refine B0 ?_;refine A8 ?_;refine A8 (A6 ?_);refine A5 J J J (A9 J gU) ?_;refine B0 ?_;refine C4 ?_;refine F3 (ι:=Nat) { t:=[(0,_,_),(4,_,_)],bx:=[],ow:=[] } (fun k=>[(5,true,xi (k : Int))]) (fun k=>[]) (fun k=>k≤8∧k % 2=0∧Kj (forms.drop k) (s.getD 0 0)=Kj forms (s.getD 0 0)) (fun k=>8 - k) (0) (⟨by omega,by omega,rfl⟩) (B4 (⟨U J,U J,U J,O⟩) O O) ?_
  intro k hok
  dsimp only [List.cons_append,List.nil_append]
  obtain ⟨hk,hk2,hi⟩:=hok
  refine A8 ?_;refine A8 (A6 ?_);refine A5 J J J (A7 J gU) ?_;refine A5 J J J (A7 J gU) ?_;refine L4 J J J J J gU (Tryz.underlying9) ?_ (fun hh=>by simp at hh); intro hlen;refine A5 J J J (B7 J J gU gU J) ?_;refine B0 ?_;refine B9 J (fun hc2=>?_) (fun hc2=>?_)
  ·try simp only [nn] at hc2
   have hk3 : k < 7:=by simp at hc2; omega
   rw[H9 (by omega),H9 (by omega),Kj] at hi
   refine C0 ?_;refine A8 ?_;refine C4 ?_;refine A8 ?_;refine awp_drawn' (by kernel_rfl) ?_;refine B6 J J J J (A7 J gU) ?_;refine B6 J J J J (E6 (j:=0) J J gU gU Tryz.underlying9 (by first|omega|(show _ < 8; omega)|(simp at hh ⊢; omega)) (fun hh=>by first|omega|(show _ < 8; omega)|(simp at hh ⊢; omega))) ?_;refine B6 J J J J (A7 J gU) ?_;refine B6 J J J J (A7 J gU) ?_;refine B6 J J J J (E6 (j:=k) J J gU gU Tryz.underlying9 (by first|omega|(show _ < 8; omega)|(simp at hh ⊢; omega)) (fun hh=>by first|omega|(show _ < 8; omega)|(simp at hh ⊢; omega))) ?_;refine B6 J J J J (B7 J J gU gU J) ?_;refine F9 (by kernel_rfl) ?_;refine B5 (s:=⟨[(0,_,_),(4,_,_),(5,_,_),(24,_,_)],[],[],[]⟩) (B4 (⟨U J,U J,U J,U J,O⟩) O O) ?_;refine B9 J (fun hc3=>?_) (fun hc3=>?_)
   ·try simp only [nn] at hc3
    have hq : (s.getD 0 0).toNat=(forms.getD k 0).toNat:=by have : ((s.getD 0 0).toNat : Int)=((forms.getD k 0).toNat : Int):=hc3; omega
    rw[if_pos hq] at hi
    have hesc : escE s=(forms.getD (k + 1) 0,1):=by
     have hks : k=0∨k=2∨k=4∨k=6:=by omega
     rw[he]
     rcases hks with rfl | rfl | rfl | rfl
     ·rw[if_pos (by rw[hq]; rfl)]; rfl
     ·rw[if_neg (by rw[hq]; decide),if_pos (by rw[hq]; rfl)]; rfl
     ·rw[if_neg (by rw[hq]; decide),if_neg (by rw[hq]; decide),if_pos (by rw[hq]; decide),UInt8.toNat_inj.1 hq]; rfl
     ·rw[if_neg (by rw[hq]; decide),if_neg (by rw[hq]; decide),if_pos (by rw[hq]; decide),UInt8.toNat_inj.1 hq]; rfl
    rw[hesc]
    refine A8 (A6 ?_);refine A5 J J J (A7 J gU) ?_;refine A5 J J J (A7 J gU) ?_;refine A5 J J J (D0 J J gU gU J (IntWalk.i64_in _ (by omega))) ?_;refine A5 J J J (E6 (j:=k + 1) J J gU gU Tryz.underlying9 (by first|omega|(show _ < 8; omega)|(simp at hh ⊢; omega)) (fun hh=>by first|omega|(show _ < 8; omega)|(simp at hh ⊢; omega))) ?_;refine A5 J J J (A9 J gU) ?_;refine A5 J J J (A9 J gU) ?_;refine B0 ?_;refine C1 ?_
    repeat(first|refine tR ?_|refine bR ?_)
    refine C5 J ?_ O
    rfl
   ·try simp only [nn] at hc3
    have hq : ¬(s.getD 0 0).toNat=(forms.getD k 0).toNat:=by intro q; exact hc3 (by show ((s.getD 0 0).toNat : Int)=((forms.getD k 0).toNat : Int); rw[q])
    rw[if_neg hq] at hi
    refine C0 ?_;refine A6 ?_;refine A5 J J J (A7 J gU) ?_;refine A5 J J J (D0 J J gU gU J (IntWalk.i64_in _ (by omega))) ?_;refine A5 J J J (A9 J gU) ?_;refine B0 ?_;refine ⟨k + 2,?_,?_,B4 (⟨⟨_,rfl,?_⟩,⟨U J,U J,O⟩⟩) O O⟩
    all_goals (first|rfl|omega|exact ⟨by omega,by omega,hi⟩)
  ·try simp only [nn] at hc2
   have hk3 : k=8:=by simp at hc2; omega
   rw[List.drop_of_length_le (by omega),show Kj [] (s.getD 0 0)=none from J] at hi
   have hno : (s.getD 0 0).toNat≠110∧(s.getD 0 0).toNat≠116∧(s.getD 0 0).toNat≠34∧(s.getD 0 0).toNat≠92:=by
    have hf : ∀ c : UInt8,Kj forms c=if c.toNat=110 then some 10 else if c.toNat=116 then some 9 else if c.toNat=34 then some 34 else if c.toNat=92 then some 92 else none:=fun c=>rfl
    rw[hf] at hi
    refine ⟨fun q=>?_,fun q=>?_,fun q=>?_,fun q=>?_⟩
    ·rw[if_pos q] at hi; cases hi
    ·rw[if_neg (by omega),if_pos q] at hi; cases hi
    ·rw[if_neg (by omega),if_neg (by omega),if_pos q] at hi; cases hi
    ·rw[if_neg (by omega),if_neg (by omega),if_neg (by omega),if_pos q] at hi; cases hi
   rw[if_neg hno.1,if_neg hno.2.1,if_neg (by omega)] at he
   refine E2 ?_
   repeat(first|refine D5 ?_|refine D6 ?_|refine D2 J ?_)
   refine A8 (A6 ?_);refine A5 J J J (A9 J gU) ?_;refine B0 ?_;refine B5 (s:=⟨[(0,_,_),(6,_,_)],[],[],[]⟩) (B4 (⟨U J,U J,O⟩) O O) ?_;refine A8 ?_;refine A8 (A6 ?_);refine A5 J J J (A7 J gU) ?_;refine A5 J J J (E6 (j:=0) J J gU gU Tryz.underlying9 (by first|omega|(show _ < 16; omega)|(simp at hh ⊢; omega)) (fun hh=>by first|omega|(show _ < 16; omega)|(simp at hh ⊢; omega))) ?_;refine A5 J J J (B7 J J gU gU J) ?_;refine A5 J J J (A7 J gU) ?_;refine A5 J J J (A7 J gU) ?_;refine A5 J J J (O4 J (fun hh=>hh) (Tryz.underlying9)) ?_;refine A5 J J J (B7 J J (fun hh=>hh) gU J) ?_;refine A5 J J J (E5 J J gU (fun _ hi=>gP J hi)) ?_;refine B0 ?_;refine B5 (s:=⟨[(0,_,_),(6,_,_),(36,_,_)],[],[],[]⟩) (B4 (⟨U J,U J,U J,O⟩) O O) ?_;refine B9 J (fun hc3=>?_) (fun hc3=>?_)
   ·try simp only [nn] at hc3
    rw[if_neg (by omega)] at he
    rw[he]
    refine A8 (A6 ?_);refine A5 J J J (A9 J gU) ?_;refine A5 J J J (A9 J gU) ?_;refine B0 ?_;refine C1 ?_
    repeat(first|refine tR ?_|refine bR ?_)
    refine C5 J ?_ O
    rfl
   ·try simp only [nn] at hc3
    refine C0 ?_;refine A8 (A6 ?_);refine A5 J J J (A9 J gU) ?_;refine A5 J J J (A9 J gU) ?_;refine B0 ?_;refine A8 ?_;refine A8 (A6 ?_);refine A5 J J J (A9 J gU) ?_;refine B0 ?_;refine C4 ?_;refine F3 (ι:=Nat × Int × Int) { t:=[(0,_,_),(6,_,_)],bx:=[],ow:=[] } (fun q=>[(9,true,xi (q.1 : Int)),(7,true,xi q.2.1),(8,true,xi q.2.2)]) (fun q=>[]) (fun q=>q.1≤16 ∧ -1≤q.2.1∧q.2.1≤16 ∧ -1≤q.2.2∧q.2.2≤16∧Ea (hexs.drop q.1) q.1 (s.getD 1 0) q.2.1=Ea hexs 0 (s.getD 1 0) (-1)∧Ea (hexs.drop q.1) q.1 (s.getD 2 0) q.2.2=Ea hexs 0 (s.getD 2 0) (-1)) (fun q=>16 - q.1) ((0,-1,-1)) (⟨by simp,by simp,by simp,by simp,by simp,rfl,rfl⟩) (B4 (⟨U J,U J,U J,U J,U J,O⟩) O O) ?_
    intro q hok
    dsimp only [List.cons_append,List.nil_append] at *
    obtain ⟨j,a,b⟩:=q
    dsimp only at hok ⊢
    obtain ⟨hj,ha0,ha1,hb0,hb1,hi1,hi2⟩:=hok
    refine A8 ?_;refine A8 (A6 ?_);refine A5 J J J (A7 J gU) ?_;refine A5 J J J (A7 J gU) ?_;refine L4 J J J J J gU (Tryz.underlying9) ?_ (fun hh=>by simp at hh); intro hlen;refine A5 J J J (B7 J J gU gU J) ?_;refine B0 ?_;refine B9 J (fun hc4=>?_) (fun hc4=>?_)
    ·try simp only [nn] at hc4
     have hj2 : j < 16:=by simp at hc4; omega
     rw[H9 (by omega),Ea] at hi1 hi2
     refine C0 ?_;refine A8 ?_;refine C4 ?_;refine A8 ?_;refine A8 ?_;refine awp_drawn' (by kernel_rfl) ?_;refine B6 J J J J (A7 J gU) ?_;refine B6 J J J J (E6 (j:=1) J J gU gU Tryz.underlying9 (by first|omega|(show _ < 16; omega)|(simp at hh ⊢; omega)) (fun hh=>by first|omega|(show _ < 16; omega)|(simp at hh ⊢; omega))) ?_;refine B6 J J J J (A7 J gU) ?_;refine B6 J J J J (A7 J gU) ?_;refine B6 J J J J (E6 (j:=j) J J gU gU Tryz.underlying9 (by first|omega|(show _ < 16; omega)|(simp at hh ⊢; omega)) (fun hh=>by first|omega|(show _ < 16; omega)|(simp at hh ⊢; omega))) ?_;refine B6 J J J J (B7 J J gU gU J) ?_;refine F9 (by kernel_rfl) ?_;refine B5 (s:=⟨[(0,_,_),(6,_,_),(7,_,_),(8,_,_),(9,_,_),(48,_,_)],[],[],[]⟩) (B4 (⟨U J,U J,U J,U J,U J,U J,O⟩) O O) ?_;refine B9 J (fun hc5=>?_) (fun hc5=>?_)
     ·try simp only [nn] at hc5
      rw[if_pos (by have : ((s.getD 1 0).toNat : Int)=((hexs.getD j 0).toNat : Int):=hc5; omega)] at hi1
      refine A6 ?_;refine A5 J J J (A7 J gU) ?_;refine A5 J J J (A9 J gU) ?_;refine B0 ?_;refine A8 ?_;refine awp_drawn' (by kernel_rfl) ?_;refine B6 J J J J (A7 J gU) ?_;refine B6 J J J J (E6 (j:=2) J J gU gU Tryz.underlying9 (by first|omega|(show _ < 16; omega)|(simp at hh ⊢; omega)) (fun hh=>by first|omega|(show _ < 16; omega)|(simp at hh ⊢; omega))) ?_;refine B6 J J J J (A7 J gU) ?_;refine B6 J J J J (A7 J gU) ?_;refine B6 J J J J (E6 (j:=j) J J gU gU Tryz.underlying9 (by first|omega|(show _ < 16; omega)|(simp at hh ⊢; omega)) (fun hh=>by first|omega|(show _ < 16; omega)|(simp at hh ⊢; omega))) ?_;refine B6 J J J J (B7 J J gU gU J) ?_;refine F9 (by kernel_rfl) ?_;refine B5 (s:=⟨[(0,_,_),(6,_,_),(7,_,_),(8,_,_),(9,_,_),(55,_,_)],[],[],[]⟩) (B4 (⟨U J,U J,U J,U J,U J,U J,O⟩) O O) ?_;refine B9 J (fun hc6=>?_) (fun hc6=>?_)
      ·try simp only [nn] at hc6
       rw[if_pos (by have : ((s.getD 2 0).toNat : Int)=((hexs.getD j 0).toNat : Int):=hc6; omega)] at hi2
       refine A6 ?_;refine A5 J J J (A7 J gU) ?_;refine A5 J J J (A9 J gU) ?_;refine B0 ?_;refine A6 ?_;refine A5 J J J (A7 J gU) ?_;refine A5 J J J (D0 J J gU gU J (IntWalk.i64_in _ (by omega))) ?_;refine A5 J J J (A9 J gU) ?_;refine B0 ?_;refine ⟨(j + 1,(j : Int),(j : Int)),?_,?_,B4 (⟨⟨_,rfl,?_⟩,⟨⟨_,rfl,?_⟩,⟨⟨_,rfl,?_⟩,⟨U J,U J,O⟩⟩⟩⟩) O O⟩
       all_goals (first|rfl|omega|(refine ⟨?_,?_,?_,?_,?_,hi1,hi2⟩ <;> (dsimp only; omega)))
      ·try simp only [nn] at hc6
       rw[if_neg (by intro q; exact hc6 (by show ((s.getD 2 0).toNat : Int)=((hexs.getD j 0).toNat : Int); rw[q]))] at hi2
       refine C0 ?_;refine A6 ?_;refine A5 J J J (A7 J gU) ?_;refine A5 J J J (D0 J J gU gU J (IntWalk.i64_in _ (by omega))) ?_;refine A5 J J J (A9 J gU) ?_;refine B0 ?_;refine ⟨(j + 1,(j : Int),b),?_,?_,B4 (⟨⟨_,rfl,?_⟩,⟨⟨_,rfl,?_⟩,⟨⟨_,rfl,?_⟩,⟨U J,U J,O⟩⟩⟩⟩) O O⟩
       all_goals (first|rfl|omega|(refine ⟨?_,?_,?_,?_,?_,hi1,hi2⟩ <;> (dsimp only; omega)))
     ·try simp only [nn] at hc5
      rw[if_neg (by intro q; exact hc5 (by show ((s.getD 1 0).toNat : Int)=((hexs.getD j 0).toNat : Int); rw[q]))] at hi1
      refine C0 ?_;refine A8 ?_;refine awp_drawn' (by kernel_rfl) ?_;refine B6 J J J J (A7 J gU) ?_;refine B6 J J J J (E6 (j:=2) J J gU gU Tryz.underlying9 (by first|omega|(show _ < 16; omega)|(simp at hh ⊢; omega)) (fun hh=>by first|omega|(show _ < 16; omega)|(simp at hh ⊢; omega))) ?_;refine B6 J J J J (A7 J gU) ?_;refine B6 J J J J (A7 J gU) ?_;refine B6 J J J J (E6 (j:=j) J J gU gU Tryz.underlying9 (by first|omega|(show _ < 16; omega)|(simp at hh ⊢; omega)) (fun hh=>by first|omega|(show _ < 16; omega)|(simp at hh ⊢; omega))) ?_;refine B6 J J J J (B7 J J gU gU J) ?_;refine F9 (by kernel_rfl) ?_;refine B5 (s:=⟨[(0,_,_),(6,_,_),(7,_,_),(8,_,_),(9,_,_),(55,_,_)],[],[],[]⟩) (B4 (⟨U J,U J,U J,U J,U J,U J,O⟩) O O) ?_;refine B9 J (fun hc6=>?_) (fun hc6=>?_)
      ·try simp only [nn] at hc6
       rw[if_pos (by have : ((s.getD 2 0).toNat : Int)=((hexs.getD j 0).toNat : Int):=hc6; omega)] at hi2
       refine A6 ?_;refine A5 J J J (A7 J gU) ?_;refine A5 J J J (A9 J gU) ?_;refine B0 ?_;refine A6 ?_;refine A5 J J J (A7 J gU) ?_;refine A5 J J J (D0 J J gU gU J (IntWalk.i64_in _ (by omega))) ?_;refine A5 J J J (A9 J gU) ?_;refine B0 ?_;refine ⟨(j + 1,a,(j : Int)),?_,?_,B4 (⟨⟨_,rfl,?_⟩,⟨⟨_,rfl,?_⟩,⟨⟨_,rfl,?_⟩,⟨U J,U J,O⟩⟩⟩⟩) O O⟩
       all_goals (first|rfl|omega|(refine ⟨?_,?_,?_,?_,?_,hi1,hi2⟩ <;> (dsimp only; omega)))
      ·try simp only [nn] at hc6
       rw[if_neg (by intro q; exact hc6 (by show ((s.getD 2 0).toNat : Int)=((hexs.getD j 0).toNat : Int); rw[q]))] at hi2
       refine C0 ?_;refine A6 ?_;refine A5 J J J (A7 J gU) ?_;refine A5 J J J (D0 J J gU gU J (IntWalk.i64_in _ (by omega))) ?_;refine A5 J J J (A9 J gU) ?_;refine B0 ?_;refine ⟨(j + 1,a,b),?_,?_,B4 (⟨⟨_,rfl,?_⟩,⟨⟨_,rfl,?_⟩,⟨⟨_,rfl,?_⟩,⟨U J,U J,O⟩⟩⟩⟩) O O⟩
       all_goals (first|rfl|omega|(refine ⟨?_,?_,?_,?_,?_,hi1,hi2⟩ <;> (dsimp only; omega)))
    ·try simp only [nn] at hc4
     have hj2 : j=16:=by simp at hc4; omega
     rw[List.drop_of_length_le (by omega),Ea,Sj] at hi1 hi2
     refine E2 ?_
     repeat(first|refine D5 ?_|refine D6 ?_|refine D2 J ?_)
     refine A8 ?_;refine A8 (A6 ?_);refine A5 J J J (A7 J gU) ?_;refine A5 J J J (B7 J J gU gU J) ?_;refine A5 J J J (A7 J gU) ?_;refine A5 J J J (A7 J gU) ?_;refine A5 J J J (B7 J J (fun hh=>hh) gU J) ?_;refine A5 J J J (E5 J J gU (fun _ hi=>gP J hi)) ?_;refine B0 ?_;refine B5 (s:=⟨[(7,_,_),(8,_,_),(62,_,_)],[],[],[]⟩) (B4 (⟨U J,U J,U J,O⟩) O O) ?_;refine B9 J (fun hc5=>?_) (fun hc5=>?_)
     ·try simp only [nn] at hc5
      rw[if_neg (by
       rintro ⟨-, -, q1,q2⟩
       have := Gp q1
       have := Gp q2
       rw[if_pos q1] at hi1
       rw[if_pos q2] at hi2
       omega)] at he
      rw[he]
      refine A8 (A6 ?_);refine A5 J J J (A9 J gU) ?_;refine A5 J J J (A9 J gU) ?_;refine B0 ?_;refine C1 ?_
      repeat(first|refine tR ?_|refine bR ?_)
      refine C5 J ?_ O
      rfl
     ·try simp only [nn] at hc5
      have x1 : hexB (s.getD 1 0)=true:=by
       by_cases q : hexB (s.getD 1 0)=true
       ·exact q
       ·rw[if_neg q] at hi1; omega
      have x2 : hexB (s.getD 2 0)=true:=by
       by_cases q : hexB (s.getD 2 0)=true
       ·exact q
       ·rw[if_neg q] at hi2; omega
      have x3:=Gp x1
      have x4:=Gp x2
      rw[if_pos x1] at hi1
      rw[if_pos x2] at hi2
      rw[if_pos ⟨by omega,by omega,x1,x2⟩] at he
      rw[he]
      refine C0 ?_;refine A8 (A6 ?_);refine A5 J J J (A7 J gU) ?_;refine A5 J J J (D0 J J gU gU J (IntWalk.i64_in _ (by omega))) ?_;refine A5 J J J (A7 J gU) ?_;refine A5 J J J (D0 J J gU gU J (IntWalk.i64_in _ (by omega))) ?_;refine A5 J J J (En J gU ⟨_,Tryz.underlying3⟩ (Tryz.underlying5) (IntWalk.u8_in _ (by omega))) ?_;refine A5 J J J (A9 J gU) ?_;refine A5 J J J (A9 J gU) ?_;refine B0 ?_;refine C1 ?_
      repeat(first|refine tR ?_|refine bR ?_)
      refine C5 J ?_ O
      (refine uA6 ?_ J; exact uBS (by omega) (by omega))
theorem Vs (s : List UInt8) (k : Nat) (hs : s.length≤2000000) : Ctr sys 164 [xs ((s.take s.length).drop k)] [] (.tup [.c (.i .u8 ((escE (s.drop k)).1.toNat : Int)), .c (.i .i64 ((escE (s.drop k)).2 : Int))]) none []:=by
 rw[List.take_length]
 exact Pv _ (by simp; omega)
theorem Vt (s : List UInt8) (h : 0 < s.length) (hs : s.length≤2000000) : Ctr sys 151 [xs s] [] (xsn (litE s)) none []:=by
 refine D1 Tryz.func151 J J J J J J ?_;refine A8 (A6 ?_);refine A5 J J J (A9 J gU) ?_;refine A5 J J J (A9 J gU) ?_;refine B0 ?_;refine A8 (A6 ?_);refine C3 J (H4 (.inr J) J J) ?_;refine B0 ?_;refine A8 ?_;refine A8 (A6 ?_);refine A5 J J J (A9 J gU) ?_;refine B0 ?_;refine C4 ?_;refine F3 (ι:=Nat × List UInt8) { t:=[(0,_,_)],bx:=[],ow:=[(.t 4,_)] } (fun p=>[(5,true,xi (p.1 : Int)),(4,true,xbs p.2)]) (fun p=>[]) (fun p=>p.1≤s.length∧p.2.length≤p.1 ∧ ∃ n,s.length < n + p.1∧litA n (s.drop p.1) p.1 p.2=litE s) (fun p=>s.length - p.1) ((1,[])) (⟨by dsimp only; omega,by simp,s.length + 1,by dsimp only; omega,rfl⟩) (B4 (⟨U J,U J,U J,O⟩) O (⟨rfl,O⟩)) ?_
 intro p hok
 dsimp only [List.cons_append,List.nil_append] at *
 obtain ⟨k,out⟩:=p
 dsimp only at hok ⊢
 obtain ⟨hk,ho,n,hn,hi⟩:=hok
 obtain ⟨n,rfl⟩ : ∃ m,n=m + 1:=⟨n - 1,by omega⟩
 have hu:=(s.getD k 0).toNat_lt
 refine A8 ?_;refine A8 (A6 ?_);refine A5 J J J (A7 J gU) ?_;refine A5 J J J (A7 J gU) ?_;refine L4 J J J J J gU (Tryz.underlying9) ?_ (fun hh=>by simp at hh); intro hlen;refine A5 J J J (B7 J J gU gU J) ?_;refine B0 ?_;refine B9 J (fun hc=>?_) (fun hc=>?_)
 ·try simp only [nn] at hc
  rw[Ww (by omega)] at hi
  have hle:=Ma (s.drop (k + 1))
  rw[List.length_drop] at hle
  refine C0 ?_;refine A8 ?_;refine C4 ?_;refine C4 ?_;refine A8 (A6 ?_);refine A5 J J J (A7 J gU) ?_;refine A5 J J J (A7 J gU) ?_;refine A5 J J J (E6 (j:=k) J J gU gU Tryz.underlying9 (by first|omega|(simp at hh ⊢; omega)) (fun hh=>by first|omega|(simp at hh ⊢; omega))) ?_;refine A5 J J J (B7 J J gU gU J) ?_;refine A5 J J J (A9 J gU) ?_;refine B0 ?_;refine B5 (s:=⟨[(0,_,_),(4,_,_),(5,_,_),(20,_,_)],[],[(.t 4,_)],[]⟩) (B4 (⟨U J,U J,U J,U J,O⟩) O (⟨rfl,O⟩)) ?_;refine B9 J (fun hc2=>?_) (fun hc2=>?_)
  ·try simp only [nn] at hc2
   rw[if_pos (by omega)] at hi
   refine A8 (A6 ?_);refine A5 J J J (A7 J gU) ?_;refine A5 J J J (Jv (l:=out) J (by rfl) gU Tryz.underlying163 Tryz.underlying5 Tryz.underlying9) ?_;refine A5 J J J (A7 J gU) ?_;refine A5 J J J (D0 J J gU gU J (IntWalk.i64_in _ (by omega))) ?_;refine A5 J J J (A9 J gU) ?_;refine A5 J J J (A9 J gU) ?_;refine B0 ?_;refine C1 ?_
   repeat(first|refine tR ?_|refine bR ?_)
   refine C5 J ?_ O
   (rw[← hi]; rfl)
  ·try simp only [nn] at hc2
   rw[if_neg (by omega)] at hi
   refine A8 (A6 ?_);refine A5 J J J (A7 J gU) ?_;refine A5 J J J (A7 J gU) ?_;refine A5 J J J (E6 (j:=k) J J gU gU Tryz.underlying9 (by first|omega|(simp at hh ⊢; omega)) (fun hh=>by first|omega|(simp at hh ⊢; omega))) ?_;refine A5 J J J (B7 J J gU gU J) ?_;refine A5 J J J (A9 J gU) ?_;refine B0 ?_;refine B5 (s:=⟨[(0,_,_),(4,_,_),(5,_,_),(29,_,_)],[],[(.t 4,_)],[]⟩) (B4 (⟨U J,U J,U J,U J,O⟩) O (⟨rfl,O⟩)) ?_;refine B9 J (fun hc3=>?_) (fun hc3=>?_)
   ·try simp only [nn] at hc3
    rw[if_pos (by omega)] at hi
    refine A8 (A6 ?_);refine A5 J J J (A7 J gU) ?_;refine A5 J J J (A7 J gU) ?_;refine A5 J J J (D0 J J gU gU J (IntWalk.i64_in _ (by omega))) ?_;refine A5 J J J (K7 (l:=(k + 1)) J gU Tryz.underlying9 (fun _=>⟨_,_,_,rfl,gU,by first|omega|(simp at hh ⊢; omega)⟩) (fun _=>rfl) (fun hh=>by first|omega|(simp at hh ⊢; omega)) (fun hh=>by first|omega|(simp at hh ⊢; omega))) ?_;refine C8 J J J J J J gU gU (Vs s (k + 1) (by omega)) J ?_;refine A5 J J J (A7 J gU) ?_;refine A5 J J J (C6 J gU J) ?_;refine A5 J J J (C6 J gU J) ?_;refine A5 J J J (A9 J gU) ?_;refine A5 J J J (A9 J gU) ?_;refine B0 ?_;refine B5 (s:=⟨[(0,_,_),(4,_,_),(5,_,_),(6,_,_),(7,_,_)],[],[(.t 4,_)],[]⟩) (B4 (⟨U J,U J,U J,U J,U J,O⟩) O (⟨rfl,O⟩)) ?_;refine A8 ?_;refine A8 (A6 ?_);refine A5 J J J (A7 J gU) ?_;refine A5 J J J (B7 J J gU gU J) ?_;refine B0 ?_;refine B9 J (fun hc4=>?_) (fun hc4=>?_)
    ·try simp only [nn] at hc4
     rw[if_pos (by omega)] at hi
     refine A8 (A6 ?_);refine A5 J J J (A9 J gU) ?_;refine A5 J J J (A9 J gU) ?_;refine B0 ?_;refine C1 ?_
     repeat(first|refine tR ?_|refine bR ?_)
     refine C5 J ?_ O
     (rw[← hi]; rfl)
    ·try simp only [nn] at hc4
     rw[if_neg (by omega)] at hi
     refine C0 ?_;refine A8 (A6 ?_);refine C3 J (F2 (.inl J) J J J) ?_;refine A5 J J J (A7 J gU) ?_;refine E8 (xs:=[_]) J J J J J J J J J gU J ?_;refine C3 J (F7 J J J J J J J (by first|omega|(simp only [List.length_append,List.length_singleton,S4,B3]; omega)) (by first|omega|(simp only [List.length_append,List.length_singleton,S4,B3]; omega))) ?_;refine C3 J (F2 (.inr J) J J J) ?_;refine B0 ?_;refine B5 (s:=⟨[(0,_,_),(4,_,_),(5,_,_),(7,_,_)],[],[(.t 4,_)],[]⟩) (B4 (⟨U J,U J,U J,U J,O⟩) O (⟨rfl,O⟩)) ?_;refine A6 ?_;refine A5 J J J (A7 J gU) ?_;refine A5 J J J (A7 J gU) ?_;refine A5 J J J (D0 J J gU gU J (IntWalk.i64_in _ (by omega))) ?_;refine A5 J J J (A9 J gU) ?_;refine B0 ?_;refine A6 ?_;refine A5 J J J (A7 J gU) ?_;refine A5 J J J (D0 J J gU gU J (IntWalk.i64_in _ (by omega))) ?_;refine A5 J J J (A9 J gU) ?_;refine B0 ?_;refine ⟨(k + 1 + (escE (s.drop (k + 1))).2,out++[(escE (s.drop (k + 1))).1]),?_,?_,B4 (⟨⟨_,rfl,?_⟩,⟨⟨_,rfl,?_⟩,⟨U J,O⟩⟩⟩) O (⟨rfl,O⟩)⟩
     all_goals (first|rfl|omega|exact tx (Qj out (escE (s.drop (k + 1))).1 _ J)|exact tx (H2 (by omega))|(refine ⟨?_,?_,n,?_,hi⟩ <;> (simp only [List.length_append,List.length_singleton]; omega)))
   ·try simp only [nn] at hc3
    rw[if_neg (by omega)] at hi
    refine A8 (A6 ?_);refine A5 J J J (A7 J gU) ?_;refine A5 J J J (A7 J gU) ?_;refine A5 J J J (E6 (j:=k) J J gU gU Tryz.underlying9 (by first|omega|(simp at hh ⊢; omega)) (fun hh=>by first|omega|(simp at hh ⊢; omega))) ?_;refine A5 J J J (B7 J J gU gU J) ?_;refine A5 J J J (A7 J gU) ?_;refine A5 J J J (A7 J gU) ?_;refine A5 J J J (A7 J gU) ?_;refine A5 J J J (E6 (j:=k) J J (fun hh=>hh) (fun hh=>hh) Tryz.underlying9 (by first|omega|(simp at hh ⊢; omega)) (fun hh=>by first|omega|(simp at hh ⊢; omega))) ?_;refine A5 J J J (B7 J J (fun hh=>hh) gU J) ?_;refine A5 J J J (E5 J J gU (fun _ hi=>gP J hi)) ?_;refine A5 J J J (A9 J gU) ?_;refine B0 ?_;refine B5 (s:=⟨[(0,_,_),(4,_,_),(5,_,_),(51,_,_)],[],[(.t 4,_)],[]⟩) (B4 (⟨U J,U J,U J,U J,O⟩) O (⟨rfl,O⟩)) ?_;refine B9 J (fun hc4=>?_) (fun hc4=>?_)
    ·try simp only [nn] at hc4
     rw[if_pos (by omega)] at hi
     refine A8 (A6 ?_);refine A5 J J J (A9 J gU) ?_;refine A5 J J J (A9 J gU) ?_;refine B0 ?_;refine C1 ?_
     repeat(first|refine tR ?_|refine bR ?_)
     refine C5 J ?_ O
     (rw[← hi]; rfl)
    ·try simp only [nn] at hc4
     rw[if_neg (by omega)] at hi
     refine A6 ?_;refine C3 J (F2 (.inl J) J J J) ?_;refine A5 J J J (A7 J gU) ?_;refine A5 J J J (A7 J gU) ?_;refine A5 J J J (E6 (j:=k) J J gU gU Tryz.underlying9 (by first|omega|(simp at hh ⊢; omega)) (fun hh=>by first|omega|(simp at hh ⊢; omega))) ?_;refine E8 (xs:=[_]) J J J J J J J J J gU J ?_;refine C3 J (F7 J J J J J J J (by first|omega|(simp only [List.length_append,List.length_singleton,S4,B3]; omega)) (by first|omega|(simp only [List.length_append,List.length_singleton,S4,B3]; omega))) ?_;refine C3 J (F2 (.inr J) J J J) ?_;refine B0 ?_;refine B5 (s:=⟨[(0,_,_),(4,_,_),(5,_,_)],[],[(.t 4,_)],[]⟩) (B4 (⟨U J,U J,U J,O⟩) O (⟨rfl,O⟩)) ?_;refine A6 ?_;refine A5 J J J (A7 J gU) ?_;refine A5 J J J (D0 J J gU gU J (IntWalk.i64_in _ (by omega))) ?_;refine A5 J J J (A9 J gU) ?_;refine B0 ?_;refine ⟨(k + 1,out++[s.getD k 0]),?_,?_,B4 (⟨⟨_,rfl,?_⟩,⟨⟨_,rfl,?_⟩,⟨U J,O⟩⟩⟩) O (⟨rfl,O⟩)⟩
     all_goals (first|rfl|omega|exact tx (Qj out (s.getD k 0) _ J)|(refine ⟨?_,?_,n,?_,hi⟩ <;> (simp only [List.length_append,List.length_singleton]; omega)))
 ·try simp only [nn] at hc
  rw[Yv (List.drop_of_length_le (by omega))] at hi
  refine E2 ?_
  repeat(first|refine D5 ?_|refine D6 ?_|refine D2 J ?_)
  refine A8 (A6 ?_);refine A5 J J J (A9 J gU) ?_;refine A5 J J J (A9 J gU) ?_;refine B0 ?_;refine C1 ?_
  repeat(first|refine tR ?_|refine bR ?_)
  refine C5 J ?_ O
  (rw[← hi]; rfl)
abbrev xnum (s : List UInt8) (r : Bool × Nat × Int) : X:=.tup [.c (.s (s.take r.2.1)), .c (.i .i64 r.2.2), .c (.b r.1)]
theorem Mi (s : List UInt8) (hs : s.length≤2000000) : Ctr sys 150 [xs s] [] (xnum s (numA s 0 0)) none []:=by
 refine D1 Tryz.func150 J J J J J J ?_;refine A8 (A6 ?_);refine A5 J J J (A9 J gU) ?_;refine A5 J J J (A9 J gU) ?_;refine A5 J J J (A9 J gU) ?_;refine B0 ?_;refine A8 (A6 ?_);refine A5 J J J (A9 J gU) ?_;refine A5 J J J (A9 J gU) ?_;refine B0 ?_;refine B5 (s:=⟨[(0,_,_),(5,_,_),(6,_,_)],[],[],[]⟩) (B4 (⟨U J,U J,U J,O⟩) O O) ?_;refine A8 ?_;refine C4 ?_;refine F3 (ι:=Nat × Int) { t:=[(0,_,_)],bx:=[],ow:=[] } (fun p=>[(5,true,xi (p.1 : Int)),(6,true,xi p.2)]) (fun p=>[]) (fun p=>p.1≤s.length∧0≤p.2∧p.2≤9223372036854775807∧numA (s.drop p.1) p.1 p.2=numA s 0 0) (fun p=>s.length - p.1) ((0,0)) (⟨by simp,by simp,by simp,rfl⟩) (B4 (⟨U J,U J,U J,O⟩) O O) ?_
 intro p hok
 dsimp only [List.cons_append,List.nil_append] at *
 obtain ⟨k,v⟩:=p
 dsimp only at hok ⊢
 obtain ⟨hk,hv0,hv1,hi⟩:=hok
 refine A8 ?_;refine A8 (A6 ?_);refine A5 J J J (A7 J gU) ?_;refine A5 J J J (A7 J gU) ?_;refine L4 J J J J J gU (Tryz.underlying9) ?_ (fun hh=>by simp at hh); intro hlen;refine A5 J J J (B7 J J gU gU J) ?_;refine A5 J J J (A7 J gU) ?_;refine A5 J J J (A7 J gU) ?_;refine A5 J J J (A7 J gU) ?_;refine A5 J J J (E6 (j:=k) J J (fun hh=>hh) (fun hh=>hh) Tryz.underlying9 (by first|omega|(simp at hh ⊢; omega)) (fun hh=>by first|omega|(simp at hh ⊢; omega))) ?_;refine C8 J J J J J J gU (fun hh=>gA ((fun hh=>hh) hh) (rfl)) (W8 _ _ J) J ?_;refine A5 J J J (B7 J J (fun hh=>hh) gU J) ?_;refine A5 J J J (E0 J J gU (fun _ hi=>gP J hi)) ?_;refine B0 ?_;refine B5 (s:=⟨[(0,_,_),(5,_,_),(6,_,_),(18,_,_)],[],[],[]⟩) (B4 (⟨U J,U J,U J,U J,O⟩) O O) ?_;refine B9 J (fun hc=>?_) (fun hc=>?_)
 ·try simp only [nn,B3,Tk.rows_len] at hc
  have hd:=(As (s.getD k 0)).2.1.1 hc.2
  have hd2:=Vn hd
  rw[H9 (by omega),numA,if_pos hd] at hi
  refine C0 ?_;refine C4 ?_;refine A8 (A6 ?_);refine A5 J J J (A7 J gU) ?_;refine A5 J J J (A7 J gU) ?_;refine A5 J J J (E6 (j:=k) J J gU gU Tryz.underlying9 (by first|omega|(simp at hh ⊢; omega)) (fun hh=>by first|omega|(simp at hh ⊢; omega))) ?_;refine A5 J J J (D0 J J gU gU J (IntWalk.u8_in _ (by omega))) ?_;refine A5 J J J (En J gU ⟨_,Tryz.underlying5⟩ (Tryz.underlying2) (IntWalk.i64_in _ (by omega))) ?_;refine A5 J J J (A9 J gU) ?_;refine B0 ?_;refine B5 (s:=⟨[(0,_,_),(5,_,_),(6,_,_),(7,_,_)],[],[],[]⟩) (B4 (⟨U J,U J,U J,U J,O⟩) O O) ?_;refine A8 ?_;refine A8 (A6 ?_);refine A5 J J J (A7 J gU) ?_;refine A5 J J J (A7 J gU) ?_;refine A5 J J J (D0 J J gU gU J (IntWalk.i64_in _ (by omega))) ?_;refine A5 J J J (Wo J J gU gU (fun hh=>by first|omega|(simp at hh ⊢; omega)) (fun hh=>(congrArg IntKind.i64.wrap (Int.tdiv_eq_ediv_of_nonneg (by first|omega|(simp at hh ⊢; omega)))).trans (IntWalk.i64_in _ (by omega)))) ?_;refine A5 J J J (B7 J J gU gU J) ?_;refine B0 ?_;refine B5 (s:=⟨[(0,_,_),(5,_,_),(6,_,_),(7,_,_),(28,_,_)],[],[],[]⟩) (B4 (⟨U J,U J,U J,U J,U J,O⟩) O O) ?_
  refine B9 J (fun hc2=>?_) (fun hc2=>?_)
  ·try simp only [nn,B3,Tk.rows_len] at hc2
   rw[if_pos (by omega)] at hi
   refine A8 (A6 ?_);refine A5 J J J (A9 J gU) ?_;refine A5 J J J (A9 J gU) ?_;refine A5 J J J (A9 J gU) ?_;refine B0 ?_;refine C1 ?_
   repeat(first|refine tR ?_|refine bR ?_)
   refine C5 J ?_ O
   (rw[← hi]; rfl)
  ·try simp only [nn,B3,Tk.rows_len] at hc2
   rw[if_neg (by omega)] at hi
   refine C0 ?_;refine A8 (A6 ?_);refine A5 J J J (A7 J gU) ?_;refine A5 J J J (D0 J J gU gU J (IntWalk.i64_in _ (by omega))) ?_;refine A5 J J J (A7 J gU) ?_;refine A5 J J J (D0 J J gU gU J (IntWalk.i64_in _ (by omega))) ?_;refine A5 J J J (A9 J gU) ?_;refine B0 ?_;refine B5 (s:=⟨[(0,_,_),(5,_,_),(6,_,_)],[],[],[]⟩) (B4 (⟨U J,U J,U J,O⟩) O O) ?_;refine A6 ?_;refine A5 J J J (A7 J gU) ?_;refine A5 J J J (D0 J J gU gU J (IntWalk.i64_in _ (by omega))) ?_;refine A5 J J J (A9 J gU) ?_;refine B0 ?_;refine ⟨(k + 1,10 * v + (((s.getD k 0).toNat : Int) - 48)),?_,?_,B4 (⟨⟨_,rfl,?_⟩,⟨⟨_,rfl,?_⟩,⟨U J,O⟩⟩⟩) O O⟩
   all_goals (first|rfl|omega|exact ⟨by omega,by omega,by omega,hi⟩)
 ·try simp only [nn,B3,Tk.rows_len] at hc
  have hn : numA (s.drop k) k v=(true,k,v):=by
   by_cases hlt : k < s.length
   ·rw[H9 hlt,numA,if_neg]
    intro q
    have := (As (s.getD k 0)).2.1.2 q
    omega
   ·rw[List.drop_of_length_le (by omega)]; rfl
  rw[hn] at hi
  refine E2 ?_
  repeat(first|refine D5 ?_|refine D6 ?_|refine D2 J ?_)
  refine A8 (A6 ?_);refine A5 J J J (A7 J gU) ?_;refine A5 J J J (A7 J gU) ?_;refine A5 J J J (K7 (h':=k) J gU Tryz.underlying9 (fun _=>rfl) (fun _=>⟨_,_,_,rfl,gU,by first|omega|(simp at hh ⊢; omega)⟩) (fun hh=>by first|omega|(simp at hh ⊢; omega)) (fun hh=>by first|omega|(simp at hh ⊢; omega))) ?_;refine A5 J J J (A7 J gU) ?_;refine A5 J J J (A9 J gU) ?_;refine A5 J J J (A9 J gU) ?_;refine A5 J J J (A9 J gU) ?_;refine B0 ?_;refine C1 ?_
  repeat(first|refine tR ?_|refine bR ?_)
  refine C5 J ?_ O
  (rw[← hi]; rfl)
theorem uBq (c : UInt8) : (I1 (c.toNat : Int)=true→clsE c=2)∧(K4 (c.toNat : Int)=true→clsE c=3)∧(c.toNat=34→clsE c=5)∧(I1 (c.toNat : Int)≠true→K4 (c.toNat : Int)≠true→c.toNat≠34→(symB c=true→clsE c=4∨clsE c=1)∧(symB c≠true→clsE c=0∨clsE c=1)):=by
 refine ⟨(As c).1.2,(As c).2.1.2,fun h=>?_,fun h1 h2 h3=>⟨fun h4=>?_,fun h4=>?_⟩⟩
 ·unfold clsE
  rw[if_neg (by simp [P2]; omega),if_neg (by simp [I1]; omega),if_neg (by simp [K4]; omega),if_pos h]
 ·unfold clsE
  rw[if_neg h1,if_neg h2,if_neg h3,if_pos h4]
  split <;> simp
 ·unfold clsE
  rw[if_neg h1,if_neg h2,if_neg h3,if_neg h4]
  split <;> simp
theorem uBw {t u : Tk} {a b e : Int} (h : t=u) (h2 : a=b) : X.tup [.agg t.cells, .c (.i .i64 a), .c (.i .i64 e)]=X.tup [.agg u.cells, .c (.i .i64 b), .c (.i .i64 e)]:=by rw[h,h2]
theorem Sh (s : List UInt8) (k ki : Int) (h : 0 < s.length) (hs : s.length≤2000000) (hk : ki=k) (hw : clsE (s.getD 0 0)≠1) : Ctr sys 130 [xs s,xi ki] [] (xnx (K6 s k)) none []:=by
 subst hk
 have h1:=Sv s
 have h2 : (s.take (wdN s)).length=wdN s:=by rw[List.length_take]; omega
 have h3:=Vc s h
 have h4:=Ha s 0 0 (by omega)
 have h5 : (s.take (numA s 0 0).2.1).length=(numA s 0 0).2.1:=by rw[List.length_take]; omega
 obtain ⟨c1,c2,c3,c4⟩:=uBq (s.getD 0 0)
 obtain ⟨d1,d2,-⟩:=As (s.getD 0 0)
 refine D1 Tryz.func130 J J J J J J ?_;refine A8 (A6 ?_);refine C3 J (E1 J J J) ?_;refine A5 J J J (A9 J gU) ?_;refine A5 J J J (A9 J gU) ?_;refine B0 ?_;refine A8 ?_;refine A8 (A6 ?_);refine A5 J J J (A7 J gU) ?_;refine A5 J J J (E6 (j:=0) J J gU gU Tryz.underlying9 (by first|omega|(simp at hh ⊢; omega)) (fun hh=>by first|omega|(simp at hh ⊢; omega))) ?_;refine C8 J J J J J J gU gU (W8 _ _ J) J ?_;refine B0 ?_;refine B5 (s:=⟨[(0,_,_),(1,_,_),(4,_,_),(15,_,_)],[(.l 4,_)],[],[]⟩) (B4 (⟨U J,U J,U J,U J,O⟩) (⟨U J,O⟩) O) ?_;refine C4 ?_;refine A8 (A6 ?_);refine A5 J J J (B7 J J gU gU J) ?_;refine A5 J J J (A9 J gU) ?_;refine B0 ?_;refine B9 J (fun hc=>?_) (fun hc=>?_)
 ·try simp only [nn,B3,Tk.rows_len] at hc
  rw[K6,if_pos (d1.1 hc)]
  refine A8 (A6 ?_);refine A5 J J J (A7 J gU) ?_;refine C8 J J J J J J gU gU (Xd _ (by omega)) J ?_;refine A5 J J J (A9 J gU) ?_;refine B0 ?_;refine B5 (s:=⟨[(1,_,_),(4,_,_),(7,_,_)],[(.l 4,_)],[],[]⟩) (B4 (⟨U J,U J,U J,O⟩) (⟨U J,O⟩) O) ?_;refine A8 ?_;refine A8 (A6 ?_);refine A5 J J J (A7 J gU) ?_;refine L4 J J J J J gU (Tryz.underlying9) ?_ (fun hh=>by simp at hh); intro hlen;refine A5 J J J (B7 J J gU gU J) ?_;refine B0 ?_;refine B9 J (fun hc2=>?_) (fun hc2=>?_)
  ·try simp only [nn,B3,Tk.rows_len] at hc2
   refine A8 (A6 ?_);refine A5 J J J (H6 J Tryz.underlying134 J gU) ?_;refine C3 J (C7 J J J J J J J) ?_;refine A5 J J J (A9 J gU) ?_;refine A5 J J J (A9 J gU) ?_;refine B0 ?_;refine C1 ?_
   repeat(first|refine tR ?_|refine bR ?_)
   refine C5 J ?_ O
   (rw[if_pos (by omega)]; rfl)
  ·try simp only [nn,B3,Tk.rows_len] at hc2
   refine C0 ?_;refine A8 (A6 ?_);refine A5 J J J (A7 J gU) ?_;refine A5 J J J (A7 J gU) ?_;refine A5 J J J (H6 J Tryz.underlying134 J gU) ?_;refine A5 J J J (A7 J gU) ?_;refine L4 J J J J J gU (Tryz.underlying9) ?_ (fun hh=>by simp at hh); intro hlen;refine C3 J (C7 J J J J J J J) ?_;refine A5 J J J (A9 J gU) ?_;refine A5 J J J (A9 J gU) ?_;refine B0 ?_;refine C1 ?_
   repeat(first|refine tR ?_|refine bR ?_)
   refine C5 J ?_ O
   (rw[if_neg (by omega)]; exact uBw (t:=⟨1,s.take (wdN s),0,[],ki⟩) (u:=⟨1,s.take (wdN s),0,[],ki⟩) J (by dsimp only; omega))
 ·try simp only [nn,B3,Tk.rows_len] at hc
  have e1 : ¬I1 ((s.getD 0 0).toNat : Int)=true:=fun q=>hc (c1 q)
  rw[K6,if_neg e1]
  refine A8 (A6 ?_);refine A5 J J J (B7 J J gU gU J) ?_;refine A5 J J J (A9 J gU) ?_;refine B0 ?_;refine B9 J (fun hc2=>?_) (fun hc2=>?_)
  ·try simp only [nn,B3,Tk.rows_len] at hc2
   rw[if_pos (d2.1 hc2)]
   refine A8 (A6 ?_);refine A5 J J J (A7 J gU) ?_;refine C8 J J J J J J gU gU (Mi _ (by omega)) J ?_;refine A5 J J J (A7 J gU) ?_;refine A5 J J J (C6 J gU J) ?_;refine A5 J J J (C6 J gU J) ?_;refine A5 J J J (C6 J gU J) ?_;refine A5 J J J (A9 J gU) ?_;refine A5 J J J (A9 J gU) ?_;refine H3 (s:=⟨[(1,_,_),(4,_,_),(8,_,_),(9,_,_),(36,_,_)],[(.l 4,_)],[],[]⟩) (B4 (⟨U J,U J,U J,U J,U J,O⟩) (⟨U J,O⟩) O) ?_;refine A5 J J J (A9 J gU) ?_;refine B0 ?_;refine A8 ?_;refine A8 (A6 ?_);refine A5 J J J (A7 J gU) ?_;refine A5 J J J (F8 J gU) ?_;refine B0 ?_;refine B9 J (fun hc3=>?_) (fun hc3=>?_)
   ·try simp only [nn,B3,Tk.rows_len] at hc3
    refine A8 (A6 ?_);refine A5 J J J (H6 J Tryz.underlying134 J gU) ?_;refine C3 J (C7 J J J J J J J) ?_;refine A5 J J J (A9 J gU) ?_;refine A5 J J J (A9 J gU) ?_;refine B0 ?_;refine C1 ?_
    repeat(first|refine tR ?_|refine bR ?_)
    refine C5 J ?_ O
    (rw[if_neg (by rw[hc3]; exact Bool.false_ne_true)]; rfl)
   ·try simp only [nn,B3,Tk.rows_len] at hc3
    refine C0 ?_;refine A8 (A6 ?_);refine A5 J J J (A7 J gU) ?_;refine A5 J J J (A7 J gU) ?_;refine A5 J J J (H6 J Tryz.underlying134 J gU) ?_;refine A5 J J J (A7 J gU) ?_;refine L4 J J J J J gU (Tryz.underlying9) ?_ (fun hh=>by simp at hh); intro hlen;refine C3 J (C7 J J J J J J J) ?_;refine A5 J J J (A9 J gU) ?_;refine A5 J J J (A9 J gU) ?_;refine B0 ?_;refine C1 ?_
    repeat(first|refine tR ?_|refine bR ?_)
    refine C5 J ?_ O
    (rw[if_pos hc3]; exact uBw (t:=⟨2,[],(numA s 0 0).2.2,[],ki⟩) (u:=⟨2,[],(numA s 0 0).2.2,[],ki⟩) J (by dsimp only; omega))
  ·try simp only [nn,B3,Tk.rows_len] at hc2
   have e2 : ¬K4 ((s.getD 0 0).toNat : Int)=true:=fun q=>hc2 (c2 q)
   rw[if_neg e2]
   refine A8 (A6 ?_);refine A5 J J J (B7 J J gU gU J) ?_;refine A5 J J J (A9 J gU) ?_;refine B0 ?_;refine B5 (s:=⟨[(0,_,_),(1,_,_),(4,_,_),(15,_,_),(45,_,_)],[(.l 4,_)],[],[]⟩) (B4 (⟨U J,U J,U J,U J,U J,O⟩) (⟨U J,O⟩) O) ?_;refine B9 J (fun hc3=>?_) (fun hc3=>?_)
   ·try simp only [nn,B3,Tk.rows_len] at hc3
    have e3 : (s.getD 0 0).toNat=34:=by
     by_cases q : (s.getD 0 0).toNat=34
     ·exact q
     ·have := c4 e1 e2 q
      by_cases q2 : symB (s.getD 0 0)=true
      ·have := this.1 q2; omega
      ·have := this.2 q2; omega
    rw[if_pos e3]
    refine A8 (A6 ?_);refine A5 J J J (A7 J gU) ?_;refine C8 J J J J J J gU gU (Vt _ (by omega) (by omega)) J ?_;refine A5 J J J (A7 J gU) ?_;refine A5 J J J (C6 J gU J) ?_;refine A5 J J J (C6 J gU J) ?_;refine A5 J J J (A9 J gU) ?_;refine A5 J J J (A9 J gU) ?_;refine B0 ?_;refine B5 (s:=⟨[(1,_,_),(4,_,_),(11,_,_),(12,_,_)],[(.l 4,_)],[],[]⟩) (B4 (⟨U J,U J,U J,U J,O⟩) (⟨U J,O⟩) O) ?_;refine A8 (A6 ?_);refine A5 J J J (A7 J gU) ?_;refine A5 J J J (B7 J J gU gU J) ?_;refine B0 ?_;refine B9 J (fun hc4=>?_) (fun hc4=>?_)
    ·try simp only [nn,B3,Tk.rows_len] at hc4
     refine A8 (A6 ?_);refine A5 J J J (A7 J gU) ?_;refine A5 J J J (A7 J gU) ?_;refine A5 J J J (H6 J Tryz.underlying134 J gU) ?_;refine A5 J J J (A7 J gU) ?_;refine C3 J (C7 J J J J J J J) ?_;refine A5 J J J (A9 J gU) ?_;refine A5 J J J (A9 J gU) ?_;refine B0 ?_;refine C1 ?_
     repeat(first|refine tR ?_|refine bR ?_)
     refine C5 J ?_ O
     (rw[if_neg (by omega)]; rfl)
    ·try simp only [nn,B3,Tk.rows_len] at hc4
     refine C0 ?_;refine A8 (A6 ?_);refine A5 J J J (H6 J Tryz.underlying134 J gU) ?_;refine C3 J (C7 J J J J J J J) ?_;refine A5 J J J (A9 J gU) ?_;refine A5 J J J (A9 J gU) ?_;refine B0 ?_;refine C1 ?_
     repeat(first|refine tR ?_|refine bR ?_)
     refine C5 J ?_ O
     (rw[if_pos (by omega)]; rfl)
   ·try simp only [nn,B3,Tk.rows_len] at hc3
    have e3 : ¬(s.getD 0 0).toNat=34:=fun q=>hc3 (c3 q)
    rw[if_neg e3]
    refine A8 (A6 ?_);refine A5 J J J (B7 J J gU gU J) ?_;refine A5 J J J (A9 J gU) ?_;refine B0 ?_;refine B9 J (fun hc4=>?_) (fun hc4=>?_)
    ·try simp only [nn,B3,Tk.rows_len] at hc4
     have e4 : symB (s.getD 0 0)=true:=by
      by_cases q2 : symB (s.getD 0 0)=true
      ·exact q2
      ·have := (c4 e1 e2 e3).2 q2; omega
     refine A8 (A6 ?_);refine A5 J J J (A7 J gU) ?_;refine A5 J J J (K7 (h':=1) J gU Tryz.underlying9 (fun _=>rfl) (fun _=>⟨_,_,_,rfl,gU,by first|omega|(simp at hh ⊢; omega)⟩) (fun hh=>by first|omega|(simp at hh ⊢; omega)) (fun hh=>by first|omega|(simp at hh ⊢; omega))) ?_;refine A5 J J J (A7 J gU) ?_;refine A5 J J J (H6 J Tryz.underlying134 J gU) ?_;refine C3 J (C7 J J J J J J J) ?_;refine A5 J J J (A9 J gU) ?_;refine A5 J J J (A9 J gU) ?_;refine B0 ?_;refine C1 ?_
     repeat(first|refine tR ?_|refine bR ?_)
     refine C5 J ?_ O
     (rw[if_pos e4]; rfl)
    ·try simp only [nn,B3,Tk.rows_len] at hc4
     have e4 : ¬symB (s.getD 0 0)=true:=by
      intro q2
      have := (c4 e1 e2 e3).1 q2
      omega
     refine C0 ?_;refine A8 (A6 ?_);refine A5 J J J (H6 J Tryz.underlying134 J gU) ?_;refine C3 J (C7 J J J J J J J) ?_;refine A5 J J J (A9 J gU) ?_;refine A5 J J J (A9 J gU) ?_;refine B0 ?_;refine C1 ?_
     repeat(first|refine tR ?_|refine bR ?_)
     refine C5 J ?_ O
     (rw[if_neg e4]; rfl)
theorem Oh (s : List UInt8) (hs : s.length≤2000000) : Ctr sys 127 [xs s] [] (xss (lnsR s)) none []:=by
 refine D1 Tryz.func127 J J J J J J ?_;refine A8 (A6 ?_);refine C3 J (H4 (.inr J) J J) ?_;refine B0 ?_;refine A8 (A6 ?_);refine C3 J (H4 (.inr J) J J) ?_;refine B0 ?_;refine A8 (A6 ?_);refine A5 J J J (A9 J gU) ?_;refine B0 ?_;refine A8 ?_;refine A8 (A6 ?_);refine A5 J J J (A9 J gU) ?_;refine B0 ?_;refine C4 ?_;refine F3 (ι:=Nat × List UInt8 × List (List UInt8)) { t:=[(0,_,_)],bx:=[],ow:=[(.t 3,_)] } (fun p=>[(5,true,xi (p.1 : Int)),(4,true,xs p.2.1),(3,true,xss p.2.2)]) (fun p=>[]) (fun p=>p.1≤s.length∧p.2.1.length≤p.1∧p.2.2.length≤p.1∧lnsA (s.drop p.1) p.2.1 p.2.2=lnsR s) (fun p=>s.length - p.1) ((0,[],[])) (⟨by simp,by simp,by simp,rfl⟩) (B4 (⟨U J,U J,U J,U J,O⟩) O (⟨rfl,O⟩)) ?_
 intro p hok
 dsimp only [List.cons_append,List.nil_append] at *
 obtain ⟨k,line,out⟩:=p
 dsimp only at hok ⊢
 obtain ⟨hk,hl,ho,hi⟩:=hok
 refine A8 ?_;refine A8 (A6 ?_);refine A5 J J J (A7 J gU) ?_;refine A5 J J J (A7 J gU) ?_;refine L4 J J J J J gU (Tryz.underlying9) ?_ (fun hh=>by simp at hh); intro hlen;refine A5 J J J (B7 J J gU gU J) ?_;refine B0 ?_;refine B9 J (fun hc=>?_) (fun hc=>?_)
 ·try simp only [nn,B3,Tk.rows_len] at hc
  rw[H9 (by omega),lnsA] at hi
  refine C0 ?_;refine A8 ?_;refine C4 ?_;refine A8 ?_;refine A8 (A6 ?_);refine A5 J J J (A7 J gU) ?_;refine A5 J J J (A7 J gU) ?_;refine A5 J J J (E6 (j:=k) J J gU gU Tryz.underlying9 (by first|omega|(simp at hh ⊢; omega)) (fun hh=>by first|omega|(simp at hh ⊢; omega))) ?_;refine A5 J J J (B7 J J gU gU J) ?_;refine B0 ?_;refine B5 (s:=⟨[(0,_,_),(3,_,_),(4,_,_),(5,_,_),(15,_,_)],[],[(.t 3,_)],[]⟩) (B4 (⟨U J,U J,U J,U J,U J,O⟩) O (⟨rfl,O⟩)) ?_;refine B9 J (fun hc2=>?_) (fun hc2=>?_)
  ·try simp only [nn,B3,Tk.rows_len] at hc2
   rw[if_pos (by omega)] at hi
   refine A8 (A6 ?_);refine C3 J (F2 (.inl J) J J J) ?_;refine A5 J J J (A7 J gU) ?_;refine E8 (xs:=[_]) J J J J J J J J J gU J ?_;refine C3 J (F7 J J J J J J J (by first|omega|(simp only [List.length_append,List.length_singleton,Tk.rows_len,B3]; omega)) (by first|omega|(simp only [List.length_append,List.length_singleton,Tk.rows_len,B3]; omega))) ?_;refine C3 J (F2 (.inr J) J J J) ?_;refine B0 ?_;refine B5 (s:=⟨[(0,_,_),(3,_,_),(5,_,_)],[],[(.t 3,_)],[]⟩) (B4 (⟨U J,U J,U J,O⟩) O (⟨rfl,O⟩)) ?_;refine A8 (A6 ?_);refine A5 J J J (A9 J gU) ?_;refine B0 ?_;refine E2 ?_
   repeat(first|refine D5 ?_|refine D6 ?_|refine D2 J ?_)
   refine A6 ?_;refine A5 J J J (A7 J gU) ?_;refine A5 J J J (D0 J J gU gU J (IntWalk.i64_in _ (by omega))) ?_;refine A5 J J J (A9 J gU) ?_;refine B0 ?_;refine ⟨(k + 1,[],out++[line]),?_,?_,B4 (⟨⟨_,rfl,?_⟩,⟨⟨_,rfl,?_⟩,⟨⟨_,rfl,?_⟩,⟨U J,O⟩⟩⟩⟩) O (⟨rfl,O⟩)⟩
   all_goals (first|rfl|omega|exact tx (Y8 out line)|(refine ⟨?_,?_,?_,hi⟩ <;> (simp <;> omega)))
  ·try simp only [nn,B3,Tk.rows_len] at hc2
   rw[if_neg (by omega)] at hi
   have e1 : (s.take (k + 1)).drop k=[s.getD k 0]:=by
    rw[H9 (by simp; omega),List.drop_of_length_le (by simp; omega),Fb _ _ (by omega)]
   refine C0 ?_;refine A6 ?_;refine A5 J J J (A7 J gU) ?_;refine A5 J J J (A7 J gU) ?_;refine A5 J J J (A7 J gU) ?_;refine A5 J J J (A7 J gU) ?_;refine A5 J J J (D0 J J gU gU J (IntWalk.i64_in _ (by omega))) ?_;refine A5 J J J (K7 (l:=k) (h':=(k + 1)) J gU Tryz.underlying9 (fun _=>⟨_,_,_,rfl,gU,by first|omega|(simp at hh ⊢; omega)⟩) (fun _=>⟨_,_,_,rfl,gU,by first|omega|(simp at hh ⊢; omega)⟩) (fun hh=>by first|omega|(simp at hh ⊢; omega)) (fun hh=>by first|omega|(simp at hh ⊢; omega))) ?_;refine A5 J J J (Bu J J gU gU (by first|omega|(simp only [List.length_append,List.length_drop,List.length_take]; omega))) ?_;refine A5 J J J (A9 J gU) ?_;refine B0 ?_;refine B5 (s:=⟨[(0,_,_),(3,_,_),(4,_,_),(5,_,_)],[],[(.t 3,_)],[]⟩) (B4 (⟨U J,U J,U J,U J,O⟩) O (⟨rfl,O⟩)) ?_;refine A6 ?_;refine A5 J J J (A7 J gU) ?_;refine A5 J J J (D0 J J gU gU J (IntWalk.i64_in _ (by omega))) ?_;refine A5 J J J (A9 J gU) ?_;refine B0 ?_;refine ⟨(k + 1,line++[s.getD k 0],out),?_,?_,B4 (⟨⟨_,rfl,?_⟩,⟨⟨_,rfl,?_⟩,⟨⟨_,rfl,?_⟩,⟨U J,O⟩⟩⟩⟩) O (⟨rfl,O⟩)⟩
   all_goals (first|rfl|omega|exact tx (congrArg xs (by rw[e1]))|(refine ⟨?_,?_,?_,hi⟩ <;> (simp <;> omega)))
 ·try simp only [nn,B3,Tk.rows_len] at hc
  rw[List.drop_of_length_le (by omega),lnsA] at hi
  refine E2 ?_
  repeat(first|refine D5 ?_|refine D6 ?_|refine D2 J ?_)
  refine A8 ?_;refine A8 (A6 ?_);refine A5 J J J (A7 J gU) ?_;refine A5 J J J (G0 J J gU gU J) ?_;refine B0 ?_;refine B5 (s:=⟨[(3,_,_),(4,_,_),(28,_,_)],[],[(.t 3,_)],[]⟩) (B4 (⟨U J,U J,U J,O⟩) O (⟨rfl,O⟩)) ?_;refine B9 J (fun hc2=>?_) (fun hc2=>?_)
  ·try simp only [nn,B3,Tk.rows_len] at hc2
   rw[if_neg hc2] at hi
   refine A6 ?_;refine C3 J (F2 (.inl J) J J J) ?_;refine A5 J J J (A7 J gU) ?_;refine E8 (xs:=[_]) J J J J J J J J J gU J ?_;refine C3 J (F7 J J J J J J J (by first|omega|(simp only [List.length_append,List.length_singleton,Tk.rows_len,B3]; omega)) (by first|omega|(simp only [List.length_append,List.length_singleton,Tk.rows_len,B3]; omega))) ?_;refine C3 J (F2 (.inr J) J J J) ?_;refine B0 ?_;refine B5 (s:=⟨[(3,_,_)],[],[(.t 3,_)],[]⟩) (B4 (⟨U J,O⟩) O (⟨rfl,O⟩)) ?_;refine A8 (A6 ?_);refine C3 J (F2 (.inl J) J J J) ?_;refine C3 J (F2 (.inr J) J J J) ?_;refine B0 ?_;refine C1 ?_
   repeat(first|refine tR ?_|refine bR ?_)
   refine C5 J ?_ O
   (rw[← hi]; exact Y8 out line)
  ·try simp only [nn,B3,Tk.rows_len] at hc2
   rw[if_pos hc2] at hi
   refine C0 ?_;refine A8 (A6 ?_);refine C3 J (F2 (.inl J) J J J) ?_;refine C3 J (F2 (.inr J) J J J) ?_;refine B0 ?_;refine C1 ?_
   repeat(first|refine tR ?_|refine bR ?_)
   refine C5 J ?_ O
   (rw[← hi]; rfl)
theorem Vu (s : List UInt8) : (H5 s).length≤s.length:=by unfold H5; rw[List.length_take]; omega
theorem Ef (s : List UInt8) (hs : s.length≤9223372036854775807) : Ctr sys 103 [xs s] [] (uBy (tokR s)) none []:=by
 have hsl:=Zj s
 refine D1 Tryz.func103 J J J J J J ?_;refine A8 (A6 ?_);refine C3 J (H4 (.inr J) J J) ?_;refine A5 J J J (A9 J gU) ?_;refine A5 J J J (A9 J gU) ?_;refine B0 ?_;refine A8 ?_;refine A8 (A6 ?_);refine A5 J J J (A7 J gU) ?_;refine L4 J J J J J gU (Tryz.underlying9) ?_ (fun hh=>by simp at hh); intro hlen;refine A5 J J J (B7 J J gU gU J) ?_;refine B0 ?_;refine B5 (s:=⟨[(0,_,_),(14,_,_)],[],[],[]⟩) (B4 (⟨U J,U J,O⟩) O O) ?_;refine B9 J (fun hc=>?_) (fun hc=>?_)
 ·try simp only [nn,B3,Tk.rows_len] at hc
  refine A8 (A6 ?_);refine C3 J (H4 (.inr J) J J) ?_;refine A5 J J J (A9 J gU) ?_;refine A5 J J J (A9 J gU) ?_;refine B0 ?_;refine C1 ?_
  repeat(first|refine tR ?_|refine bR ?_)
  refine C5 J ?_ O
  (rw[tokR,if_pos (by omega)]; rfl)
 ·try simp only [nn,B3,Tk.rows_len] at hc
  rw[tokR,if_neg (by omega)]
  refine C0 ?_;refine A8 (A6 ?_);refine C3 J (H4 (.inr J) J J) ?_;refine B0 ?_;refine A8 (A6 ?_);refine A5 J J J (A7 J gU) ?_;refine C8 J J J J J J gU gU (Oh _ (by omega)) J ?_;refine A5 J J J (A9 J gU) ?_;refine B0 ?_;refine A8 ?_;refine A8 (A6 ?_);refine A5 J J J (A9 J gU) ?_;refine B0 ?_;refine B5 (s:=⟨[(5,_,_),(6,_,_),(7,_,_)],[],[(.t 5,_)],[]⟩) (B4 (⟨U J,U J,U J,O⟩) O (⟨rfl,O⟩)) ?_;refine C4 ?_;refine F3 (ι:=Nat × List Tk) { t:=[(6,_,_)],bx:=[],ow:=[(.t 5,_)] } (fun p=>[(7,true,xi (p.1 : Int)),(5,true,xts p.2)]) (fun p=>[]) (fun p=>p.1≤(lnsR s).length∧p.2.length≤70000 * p.1∧Dq ((lnsR s).drop p.1) (p.1 + 1) p.2=Dq (lnsR s) 1 []) (fun p=>(lnsR s).length - p.1) ((0,[])) (⟨by simp,by simp,rfl⟩) (B4 (⟨U J,U J,U J,O⟩) O (⟨rfl,O⟩)) ?_
  intro p hok
  dsimp only [List.cons_append,List.nil_append] at *
  obtain ⟨k,out⟩:=p
  dsimp only at hok ⊢
  obtain ⟨hk,ho,hi⟩:=hok
  have hL:=uAe s k
  have hB:=Vu ((lnsR s).getD k [])
  refine A8 ?_;refine A8 (A6 ?_);refine A5 J J J (A7 J gU) ?_;refine A5 J J J (A7 J gU) ?_;refine D9 J J J J J gU J J ?_ (fun hh=>by simp at hh); intro hlen;refine A5 J J J (B7 J J gU gU J) ?_;refine B0 ?_;refine B9 J (fun hc2=>?_) (fun hc2=>?_)
  ·try simp only [nn,B3,Tk.rows_len] at hc2
   rw[Lr (d:=[]) (by omega),Dq] at hi
   refine C0 ?_;refine A8 ?_;refine C4 ?_;refine A8 (A6 ?_);refine A5 J J J (A7 J gU) ?_;refine A5 J J J (A7 J gU) ?_;refine A5 J J J (C2 J J gU gU J J J (fun hh=>L1 (by first|omega|(simp at hh ⊢; omega)))) ?_;refine A5 J J J (E3 J gU J J J) ?_;refine C8 J J J J J J gU gU (Xv _ (by omega)) J ?_;refine A5 J J J (A9 J gU) ?_;refine B0 ?_;refine B5 (s:=⟨[(5,_,_),(6,_,_),(7,_,_),(8,_,_)],[],[(.t 5,_)],[]⟩) (B4 (⟨U J,U J,U J,U J,O⟩) O (⟨rfl,O⟩)) ?_;refine C4 ?_;refine F3 (ι:=List UInt8 × List Tk) { t:=[(6,_,_),(7,_,_)],bx:=[],ow:=[(.t 5,_)] } (fun q=>[(8,true,xs q.1),(5,true,xts q.2)]) (fun q=>[]) (fun q=>q.1.length≤(H5 ((lnsR s).getD k [])).length∧q.2.length + q.1.length≤out.length + (H5 ((lnsR s).getD k [])).length ∧ ∃ n,q.1.length < n∧R3 n q.1 ((k + 1 : Nat) : Int) q.2=R3 ((H5 ((lnsR s).getD k [])).length + 1) (H5 ((lnsR s).getD k [])) ((k + 1 : Nat) : Int) out) (fun q=>q.1.length) ((H5 ((lnsR s).getD k []),out)) (⟨by simp,by simp,_,by dsimp only; omega,rfl⟩) (B4 (⟨U J,U J,U J,U J,O⟩) O (⟨rfl,O⟩)) ?_
   intro q hokq
   dsimp only [List.cons_append,List.nil_append] at *
   obtain ⟨l,o2⟩:=q
   dsimp only at hokq ⊢
   obtain ⟨hl,ho2,n,hn,hi2⟩:=hokq
   obtain ⟨n,rfl⟩ : ∃ m,n=m + 1:=⟨n - 1,by omega⟩
   refine A8 ?_;refine A8 (A6 ?_);refine A5 J J J (A7 J gU) ?_;refine L4 J J J J J gU (Tryz.underlying9) ?_ (fun hh=>by simp at hh); intro hlen;refine A5 J J J (B7 J J gU gU J) ?_;refine B0 ?_;refine B9 J (fun hc3=>?_) (fun hc3=>?_)
   ·try simp only [nn,B3,Tk.rows_len] at hc3
    have hne : 0 < l.length:=by omega
    have hcons : l=l.getD 0 0 :: l.drop 1 := by have := H9 hne; rwa [List.drop_zero] at this
    have hx : R3 (n + 1) l ((k + 1 : Nat) : Int) o2=if P2 (l.getD 0 0)=true then R3 n (l.drop 1) ((k + 1 : Nat) : Int) o2 else if (K6 l ((k + 1 : Nat) : Int)).2.2≠0 then ([],(K6 l ((k + 1 : Nat) : Int)).2.2)
      else R3 n (l.drop (K6 l ((k + 1 : Nat) : Int)).2.1) ((k + 1 : Nat) : Int) (o2++[(K6 l ((k + 1 : Nat) : Int)).1]):=by
     generalize hg : l.getD 0 0=c at hcons ⊢
     generalize hg2 : l.drop 1=r at hcons ⊢
     subst hcons
     rw[R3]
    rw[hx] at hi2
    refine C0 ?_;refine C4 ?_;refine A8 ?_;refine A8 (A6 ?_);refine A5 J J J (A7 J gU) ?_;refine A5 J J J (E6 (j:=0) J J gU gU Tryz.underlying9 (by first|omega|(simp at hh ⊢; omega)) (fun hh=>by first|omega|(simp at hh ⊢; omega))) ?_;refine C8 J J J J J J gU gU (W8 _ _ J) J ?_;refine A5 J J J (B7 J J gU gU J) ?_;refine B0 ?_;refine B5 (s:=⟨[(5,_,_),(6,_,_),(7,_,_),(8,_,_),(34,_,_)],[],[(.t 5,_)],[]⟩) (B4 (⟨U J,U J,U J,U J,U J,O⟩) O (⟨rfl,O⟩)) ?_;refine B9 J (fun hc4=>?_) (fun hc4=>?_)
    ·try simp only [nn,B3,Tk.rows_len] at hc4
     rw[if_pos ((As _).2.2.1 hc4)] at hi2
     refine A8 (A6 ?_);refine A5 J J J (A7 J gU) ?_;refine A5 J J J (K7 (l:=1) J gU Tryz.underlying9 (fun _=>⟨_,_,_,rfl,gU,by first|omega|(simp at hh ⊢; omega)⟩) (fun _=>rfl) (fun hh=>by first|omega|(simp at hh ⊢; omega)) (fun hh=>by first|omega|(simp at hh ⊢; omega))) ?_;refine A5 J J J (A9 J gU) ?_;refine B0 ?_;refine E2 ?_
     repeat(first|refine D5 ?_|refine D6 ?_|refine D2 J ?_)
     refine ⟨(l.drop 1,o2),?_,?_,B4 (⟨⟨_,rfl,?_⟩,⟨⟨_,rfl,?_⟩,⟨U J,U J,O⟩⟩⟩) O (⟨rfl,O⟩)⟩
     all_goals first|rfl|exact tx (congrArg xs (by rw[List.take_length]))|(simp only [List.take_length,List.length_drop]; omega)|(refine ⟨?_,?_,n,?_,hi2⟩ <;> (simp only [List.length_drop]; omega))
    ·try simp only [nn,B3,Tk.rows_len] at hc4
     rw[if_neg (fun q=>hc4 ((As _).2.2.2 q))] at hi2
     have hfl:=Wu (s:=l) (k:=((k + 1 : Nat) : Int)) hne
     refine C0 ?_;refine A8 (A6 ?_);refine A5 J J J (A7 J gU) ?_;refine A5 J J J (A7 J gU) ?_;refine A5 J J J (D0 J J gU gU J (IntWalk.i64_in _ (by omega))) ?_;refine C8 J J J J J J gU gU (Sh _ ((k + 1 : Nat) : Int) _ hne (by omega) (by omega) hc4) J ?_;refine A5 J J J (A7 J gU) ?_;refine A5 J J J (C6 J gU J) ?_;refine A5 J J J (C6 J gU J) ?_;refine A5 J J J (C6 J gU J) ?_;refine C3 J (E1 J J J) ?_;refine C3 J (C7 J J J J J J J) ?_;refine A5 J J J (A9 J gU) ?_;refine A5 J J J (A9 J gU) ?_;refine B0 ?_;refine B5 (s:=⟨[(5,_,_),(6,_,_),(7,_,_),(8,_,_),(9,_,_),(10,_,_),(11,_,_)],[(.l 9,_)],[(.t 5,_)],[]⟩) (B4 (⟨U J,U J,U J,U J,U J,U J,U J,O⟩) (⟨U J,O⟩) (⟨rfl,O⟩)) ?_;refine A8 ?_;refine A8 (A6 ?_);refine A5 J J J (A7 J gU) ?_;refine A5 J J J (B7 J J gU gU J) ?_;refine B0 ?_;refine B9 J (fun hc5=>?_) (fun hc5=>?_)
     ·try simp only [nn,B3,Tk.rows_len] at hc5
      rw[if_pos hc5] at hi2
      rw[← hi2,if_pos hc5] at hi
      refine A8 (A6 ?_);refine A5 J J J (A7 J gU) ?_;refine A5 J J J (D0 J J gU gU J (IntWalk.i64_in _ (by omega))) ?_;refine A5 J J J (A7 J gU) ?_;refine C3 J (H4 (.inr J) J J) ?_;refine A5 J J J (A9 J gU) ?_;refine A5 J J J (A9 J gU) ?_;refine B0 ?_;refine C1 ?_
      repeat(first|refine tR ?_|refine bR ?_)
      refine C5 J ?_ O
      (rw[← hi]; rfl)
     ·try simp only [nn,B3,Tk.rows_len] at hc5
      have h4:=hfl.2 hc5
      rw[if_neg (fun q=>q hc5)] at hi2
      refine C0 ?_;refine A8 (A6 ?_);refine C3 J (F2 (.inl J) J J J) ?_;refine A5 J J J (B8 J gU J J J J J) ?_;refine E8 (xs:=[_]) J J J J J J J J J gU J ?_;refine C3 J (F7 J J J J J J J (by first|omega|(simp only [List.length_append,List.length_singleton,Tk.rows_len,B3]; omega)) (by first|omega|(simp only [List.length_append,List.length_singleton,Tk.rows_len,B3]; omega))) ?_;refine C3 J (F2 (.inr J) J J J) ?_;refine B0 ?_;refine B5 (s:=⟨[(5,_,_),(6,_,_),(7,_,_),(8,_,_),(10,_,_)],[],[(.t 5,_)],[]⟩) (B4 (⟨U J,U J,U J,U J,U J,O⟩) O (⟨rfl,O⟩)) ?_;refine A6 ?_;refine A5 J J J (A7 J gU) ?_;refine A5 J J J (A7 J gU) ?_;refine A5 J J J (K7 (l:=(K6 l ((k + 1 : Nat) : Int)).2.1) J gU Tryz.underlying9 (fun _=>⟨_,_,_,rfl,gU,by first|omega|(simp at hh ⊢; omega)⟩) (fun _=>rfl) (fun hh=>by first|omega|(simp at hh ⊢; omega)) (fun hh=>by first|omega|(simp at hh ⊢; omega))) ?_;refine A5 J J J (A9 J gU) ?_;refine B0 ?_;refine ⟨(l.drop (K6 l ((k + 1 : Nat) : Int)).2.1,o2++[(K6 l ((k + 1 : Nat) : Int)).1]),?_,?_,B4 (⟨⟨_,rfl,?_⟩,⟨⟨_,rfl,?_⟩,⟨U J,U J,O⟩⟩⟩) O (⟨rfl,O⟩)⟩
      all_goals first|rfl|exact tx (uAp o2 (K6 l ((k + 1 : Nat) : Int)).1)|exact tx (congrArg xs (by rw[List.take_length]))|(simp only [List.take_length,List.length_drop,List.length_append,List.length_singleton]; omega)|(refine ⟨?_,?_,n,?_,hi2⟩ <;> (simp only [List.length_drop,List.length_append,List.length_singleton]; omega))
   ·try simp only [nn,B3,Tk.rows_len] at hc3
    have hnil : l=[]:=List.eq_nil_of_length_eq_zero (by omega)
    subst hnil
    rw[R3] at hi2
    rw[← hi2] at hi
    refine E2 ?_
    repeat(first|refine D5 ?_|refine D6 ?_|refine D2 J ?_)
    refine A6 ?_;refine A5 J J J (A7 J gU) ?_;refine A5 J J J (D0 J J gU gU J (IntWalk.i64_in _ (by omega))) ?_;refine A5 J J J (A9 J gU) ?_;refine B0 ?_;refine ⟨(k + 1,o2),?_,?_,B4 (⟨⟨_,rfl,?_⟩,⟨⟨_,rfl,?_⟩,⟨U J,O⟩⟩⟩) O (⟨rfl,O⟩)⟩
    all_goals first|rfl|omega|(refine ⟨by dsimp only; omega,by dsimp only; omega,?_⟩; exact hi)
  ·try simp only [nn,B3,Tk.rows_len] at hc2
   rw[List.drop_of_length_le (by omega),Dq] at hi
   refine E2 ?_
   repeat(first|refine D5 ?_|refine D6 ?_|refine D2 J ?_)
   refine A8 (A6 ?_);refine C3 J (F2 (.inl J) J J J) ?_;refine C3 J (F2 (.inr J) J J J) ?_;refine A5 J J J (A9 J gU) ?_;refine A5 J J J (A9 J gU) ?_;refine B0 ?_;refine C1 ?_
   repeat(first|refine tR ?_|refine bR ?_)
   refine C5 J ?_ O
   (rw[← hi]; rfl)
theorem Do (s : List UInt8) (hs : s.length≤9223372036854775807) : Ctr sys 111 [xs s] [] (xb (E4 s)) none []:=by
 refine D1 Tryz.func111 J J J J J J ?_;refine A8 (A6 ?_);refine A5 J J J (A9 J gU) ?_;refine B0 ?_;refine A8 (A6 ?_);refine A5 J J J (A7 J gU) ?_;refine A5 J J J (G0 J J gU gU J) ?_;refine A5 J J J (A7 J gU) ?_;refine A5 J J J (A7 J gU) ?_;refine A5 J J J (E6 (j:=0) J J (fun hh=>hh) gU Tryz.underlying9 (by first|omega|(simp at hh ⊢; exact List.length_pos_iff.2 hh)|(simp at hh ⊢; omega)) (fun hh=>by first|omega|(simp at hh ⊢; exact List.length_pos_iff.2 hh)|(simp at hh ⊢; omega))) ?_;refine C8 J J J J J J gU (fun hh=>gA ((fun hh=>hh) hh) (rfl)) (Ed _) J ?_;refine A5 J J J (E0 J J gU (fun _ hi=>gP J hi)) ?_;refine A5 J J J (A7 J gU) ?_;refine A5 J J J (A7 J gU) ?_;refine C8 J J J J J J gU (fun hh=>gA ((fun hh=>hh) hh) (rfl)) (Gk _ (by omega)) J ?_;refine A5 J J J (A7 J gU) ?_;refine H3 (s:=⟨[(0,_,_),(10,_,_),(12,_,_),(13,_,_)],[],[],[]⟩) (B4 (⟨U J,U J,U J,U J,O⟩) O O) ?_;refine A5 J J J (O4 J (fun hh=>hh) (Tryz.underlying9)) ?_;refine A5 J J J (B7 J J (fun hh=>hh) (fun hh=>hh) J) ?_;refine A5 J J J (E0 J J gU (fun _ hi=>gP J hi)) ?_
 refine A5 J J J (A7 J gU) ?_;refine A5 J J J (A7 J gU) ?_;refine A5 J J J (O4 J (fun hh=>hh) (Tryz.underlying9)) ?_;refine A5 J J J (B7 J J (fun hh=>hh) gU J) ?_;refine A5 J J J (E0 J J gU (fun _ hi=>gP J hi)) ?_;refine A5 J J J (A9 J gU) ?_;refine B0 ?_;refine C1 ?_
 repeat(first|refine tR ?_|refine bR ?_)
 refine C5 J ?_ O;refine M0 ?_
 unfold E4
 rw[Bool.eq_iff_iff]
 simp only [Bool.and_eq_true,decide_eq_true_eq,bne_iff_ne,ne_eq]
 constructor
 ·rintro ⟨⟨⟨a,b⟩,c⟩,d⟩
  refine ⟨⟨⟨?_,b⟩,?_⟩,?_⟩
  ·simpa using a
  ·have c':=c; simp at c'; omega
  ·omega
 ·rintro ⟨⟨⟨a,b⟩,c⟩,d⟩
  refine ⟨⟨⟨?_,b⟩,?_⟩,?_⟩
  ·simpa using a
  ·simp; omega
  ·omega
theorem Wn (l : List (List UInt8)) (k : Nat) : (strR l).take k=strR (l.take k):=by simp [strR,List.map_take]
def uBE (a b : List (List UInt8)) : Bool:=decide (a=b)
theorem Co (a b : List (List UInt8)) : Ctr sys 59 [xss a,xss b] [] (xb (uBE a b)) none []:=by
 have la:=B3 a
 have lb:=B3 b
 refine D1 Tryz.func59 J J J J J J ?_;refine A8 (A6 ?_);refine A5 J J J (A9 J gU) ?_;refine B0 ?_;refine A8 ?_;refine A8 (A6 ?_);refine A5 J J J (A7 J gU) ?_;refine D9 J J J J J gU J J ?_ (fun hh=>by simp at hh); intro hlen;refine A5 J J J (A7 J gU) ?_;refine D9 J J J J J gU J J ?_ (fun hh=>by simp at hh); intro hlen;refine A5 J J J (B7 J J gU gU J) ?_;refine B0 ?_;refine B5 (s:=⟨[(0,_,_),(1,_,_),(10,_,_)],[],[],[]⟩) (B4 (⟨U J,U J,U J,O⟩) O O) ?_;refine B9 J (fun hc=>?_) (fun hc=>?_)
 ·try simp only [nn,B3,Tk.rows_len] at hc
  refine A8 (A6 ?_);refine A5 J J J (A9 J gU) ?_;refine B0 ?_;refine C1 ?_
  repeat(first|refine tR ?_|refine bR ?_)
  refine C5 J ?_ O;exact M0 (by symm; exact decide_eq_false (by intro e; rw[e] at hc; exact hc J))
 ·try simp only [nn,B3,Tk.rows_len] at hc
  have hl : a.length=b.length:=by omega
  refine C0 ?_;refine A8 ?_;refine A8 (A6 ?_);refine A5 J J J (A9 J gU) ?_;refine B0 ?_;refine C4 ?_;refine F3 (ι:=Nat) { t:=[(0,_,_),(1,_,_)],bx:=[],ow:=[] } (fun k=>[(5,true,xi (k : Int))]) (fun k=>[]) (fun k=>k≤a.length ∧ ∀ j,j < k→a.getD j []=b.getD j []) (fun k=>a.length - k) (0) (by simp) (B4 (⟨U J,U J,U J,O⟩) O O) ?_
  intro k hok
  dsimp only [List.cons_append,List.nil_append]
  obtain ⟨hk,hi⟩:=hok
  refine A8 ?_;refine A8 (A6 ?_);refine A5 J J J (A7 J gU) ?_;refine A5 J J J (A7 J gU) ?_;refine D9 J J J J J gU J J ?_ (fun hh=>by simp at hh); intro hlen;refine A5 J J J (B7 J J gU gU J) ?_;refine B0 ?_;refine B9 J (fun hc2=>?_) (fun hc2=>?_)
  ·try simp only [nn,B3,Tk.rows_len] at hc2
   refine C0 ?_;refine A8 ?_;refine C4 ?_;refine A8 ?_;refine awp_drawn' (by kernel_rfl) ?_;refine B6 J J J J (A7 J gU) ?_;refine B6 J J J J (A7 J gU) ?_;refine B6 J J J J (C2 J J gU gU J J J (fun hh=>L1 (by first|omega|(simp at hh ⊢; omega)))) ?_;refine B6 J J J J (E3 J gU J J J) ?_;refine B6 J J J J (A7 J gU) ?_;refine B6 J J J J (A7 J gU) ?_;refine B6 J J J J (C2 J J gU gU J J J (fun hh=>L1 (by first|omega|(simp at hh ⊢; omega)))) ?_;refine B6 J J J J (E3 J gU J J J) ?_;refine B6 J J J J (G0 J J gU gU J) ?_;refine F9 (by kernel_rfl) ?_;refine B5 (s:=⟨[(0,_,_),(1,_,_),(5,_,_),(25,_,_)],[],[],[]⟩) (B4 (⟨U J,U J,U J,U J,O⟩) O O) ?_;refine B9 J (fun hc3=>?_) (fun hc3=>?_)
   ·try simp only [nn,B3,Tk.rows_len] at hc3
    refine A8 (A6 ?_);refine A5 J J J (A9 J gU) ?_;refine B0 ?_;refine C1 ?_
    repeat(first|refine tR ?_|refine bR ?_)
    refine C5 J ?_ O;exact M0 (by symm; exact decide_eq_false (by intro e; rw[e] at hc3; exact hc3 J))
   ·try simp only [nn,B3,Tk.rows_len] at hc3
    refine C0 ?_;refine A6 ?_;refine A5 J J J (A7 J gU) ?_;refine A5 J J J (D0 J J gU gU J (IntWalk.i64_in _ (by omega))) ?_;refine A5 J J J (A9 J gU) ?_;refine B0 ?_;refine ⟨k + 1,?_,?_,B4 (⟨⟨_,rfl,?_⟩,⟨U J,U J,O⟩⟩) O O⟩
    all_goals (first|rfl|omega|(refine ⟨by omega,fun j hj=>?_⟩; by_cases q : j=k; { subst q; exact hc3 }; { exact hi j (by omega) }))
  ·try simp only [nn,B3,Tk.rows_len] at hc2
   have he : a=b:=by
    apply List.ext_getElem?
    intro i
    by_cases hlt : i < a.length
    ·have := hi i (by omega)
     rw[List.getD_eq_getElem?_getD,List.getD_eq_getElem?_getD,List.getElem?_eq_getElem hlt,List.getElem?_eq_getElem (hl ▸ hlt)] at this
     rw[List.getElem?_eq_getElem hlt,List.getElem?_eq_getElem (hl ▸ hlt)]
     exact congrArg some this
    ·rw[List.getElem?_eq_none (by omega),List.getElem?_eq_none (by omega)]
   refine E2 ?_
   repeat(first|refine D5 ?_|refine D6 ?_|refine D2 J ?_)
   refine A8 (A6 ?_);refine A5 J J J (A9 J gU) ?_;refine B0 ?_;refine C1 ?_
   repeat(first|refine tR ?_|refine bR ?_)
   refine C5 J ?_ O;exact M0 (by symm; exact decide_eq_true he)
theorem Dv (s : List UInt8) (hs : s.length≤9223372036854775807) : Ctr sys 82 [xs s] [] (xb (rnmE s)) none []:=by
 have hr:=Tk.rows_len (tokR s).1
 refine D1 Tryz.func82 J J J J J J ?_;refine A8 (A6 ?_);refine A5 J J J (A9 J gU) ?_;refine B0 ?_;refine A8 (A6 ?_);refine A5 J J J (A7 J gU) ?_;refine C8 J J J J J J gU gU (Ef _ (by omega)) J ?_;refine A5 J J J (A7 J gU) ?_;refine A5 J J J (C6 J gU J) ?_;refine A5 J J J (C6 J gU J) ?_;refine A5 J J J (C6 J gU J) ?_;refine A5 J J J (A9 J gU) ?_;refine A5 J J J (A9 J gU) ?_;refine A5 J J J (A9 J gU) ?_;refine B0 ?_;refine B5 (s:=⟨[(0,_,_),(3,_,_),(5,_,_)],[],[],[]⟩) (B4 (⟨U J,U J,U J,O⟩) O O) ?_;refine A8 (A6 ?_);refine A5 J J J (A7 J gU) ?_;refine A5 J J J (B7 J J gU gU J) ?_;refine A5 J J J (A7 J gU) ?_;refine A5 J J J (A7 J gU) ?_;refine A5 J J J (G7 J (fun hh=>hh) J J) ?_;refine A5 J J J (B7 J J (fun hh=>hh) gU J) ?_;refine A5 J J J (E0 J J gU (fun _ hi=>gP J hi)) ?_;refine A5 J J J (A7 J gU) ?_;refine A5 J J J (A7 J gU) ?_;refine A5 J J J (C2 (j:=0) J J (fun hh=>hh) gU J J (by first|omega|(simp at hh ⊢; omega)|(simp at hh; omega)) (fun hh=>Tk.rows_at (by first|omega|(simp at hh ⊢; omega)|(simp at hh; omega)))) ?_
 refine A5 J J J (F1 J (fun hh=>hh) J J) ?_;refine A5 J J J (E3 J (fun hh=>hh) J J J) ?_;refine H3 (s:=⟨[(0,_,_),(3,_,_),(19,_,_),(23,_,_)],[],[],[]⟩) (B4 (⟨U J,U J,U J,U J,O⟩) O O) ?_;refine A5 J J J (B7 J J (fun hh=>hh) gU J) ?_;refine A5 J J J (E0 J J gU (fun _ hi=>gP J hi)) ?_;refine A5 J J J (A7 J gU) ?_;refine A5 J J J (A7 J gU) ?_;refine A5 J J J (C2 (j:=0) J J (fun hh=>hh) gU J J (by first|omega|(simp at hh ⊢; omega)|(simp at hh; omega)) (fun hh=>Tk.rows_at (by first|omega|(simp at hh ⊢; omega)|(simp at hh; omega)))) ?_;refine A5 J J J (F1 J (fun hh=>hh) J J) ?_;refine A5 J J J (E3 J (fun hh=>hh) J J J) ?_;refine A5 J J J (A7 J gU) ?_;refine A5 J J J (G0 J J (fun hh=>hh) (fun hh=>hh) J) ?_;refine A5 J J J (E0 J J gU (fun _ hi=>gP J hi)) ?_;refine A5 J J J (A7 J gU) ?_;refine A5 J J J (A7 J gU) ?_;refine H3 (s:=⟨[(34,_,_),(35,_,_)],[],[],[]⟩) (B4 (⟨U J,U J,O⟩) O O) ?_;refine C8 J J J J J J gU (fun hh=>gA ((fun hh=>hh) hh) (rfl)) (Fq _) J ?_
 refine A5 J J J (E0 J J gU (fun _ hi=>gP J hi)) ?_;refine A5 J J J (A9 J gU) ?_;refine B0 ?_;refine C1 ?_
 repeat(first|refine tR ?_|refine bR ?_)
 refine C5 J ?_ O;refine M0 ?_
 unfold rnmE
 rw[Bool.eq_iff_iff]
 simp only [Bool.and_eq_true,decide_eq_true_eq,beq_iff_eq]
 constructor
 ·rintro ⟨⟨⟨⟨a,b⟩,c⟩,d⟩,e⟩
  exact ⟨⟨⟨⟨by simpa using a,by have := b; simp [Tk.rows_len] at this; omega⟩,by simpa using c⟩,by simpa using d⟩,e⟩
 ·rintro ⟨⟨⟨⟨a,b⟩,c⟩,d⟩,e⟩
  exact ⟨⟨⟨⟨by simpa using a,by simp [Tk.rows_len]; omega⟩,by simpa using c⟩,by simpa using d⟩,e⟩
theorem Aq (s : List UInt8) : Ctr sys 111 [xs s] [] (xb (E4 s)) none []:=Iu (Ja (Do [] (by simp))) fun h=>Do s h
theorem Tg (s : List UInt8) : Ctr sys 82 [xs s] [] (xb (rnmE s)) none []:=Iu (Ja (Dv [] (by simp))) fun h=>Dv s h
theorem uCd (s : List UInt8) : rnmE s=E4 s:=by
 by_cases h : s.length≤65536
 ·exact (uAx s h).symm
 ·have h1 : E4 s=false:=by
   unfold E4
   have : decide (s.length≤24)=false:=decide_eq_false (by omega)
   rw[this,Bool.and_false]
  have h2 : R2 s=false:=by
   unfold R2
   have : decide (s.length≤24)=false:=decide_eq_false (by omega)
   simp only [this,Bool.and_false,Bool.false_and]
  rw[h1]
  unfold rnmE
  rw[h2,Bool.and_false]
theorem O7 {α : Type} {f : α→Int} {l : List α} {d : α} {k : Nat} {e : Int} (h : k < l.length) (hi : errs f (l.drop k)=e) : (f (l.getD k d)≠0→e=f (l.getD k d))∧(f (l.getD k d)=0→errs f (l.drop (k + 1))=e):=by
 rw[Lr (d:=d) h,errs] at hi
 refine ⟨fun q=>?_,fun q=>?_⟩
 ·rw[if_pos q] at hi; exact hi.symm
 ·rw[if_neg (by rw[q]; simp)] at hi; exact hi
theorem X1 {α : Type} {f : α→Int} {l : List α} {k : Nat} {e : Int} (h : l.length≤k) (hi : errs f (l.drop k)=e) : e=0:=by
 rw[List.drop_of_length_le h] at hi; exact hi.symm
theorem Yo : ∀ (n : Nat) (t : T),t.size≤n→n≤2000000→Ctr sys 140 [xm t] [] (xi (rawE E4 t)) none []:=by
 intro n
 induction n with
 | zero=>intro t h; have := t.size_pos; omega
 | succ n ih =>
  intro t ht hn
  have hse:=t.size_eq
  have hrl:=T.rows_len t.kids
  have hls:=T.len_sizes t.kids
  have he:=Vg E4 t
  rw[De] at he
  refine D1 Tryz.func140 J J J J J J ?_;refine A8 (A6 ?_);refine C3 J (D8 J J J J) ?_;refine A5 J J J (A9 J gU) ?_;refine B0 ?_;refine A8 ?_;refine A8 (A6 ?_);refine A5 J J J (B1 J gU J J) ?_;refine A5 J J J (B2 J gU J J J J) ?_;refine A5 J J J (B7 J J gU gU J) ?_;refine A5 J J J (A7 J gU) ?_;refine A5 J J J (B1 J gU J J) ?_;refine A5 J J J (B2 J (fun hh=>hh) J J J J) ?_;refine A5 J J J (B7 J J (fun hh=>hh) gU J) ?_;refine A5 J J J (E5 J J gU (fun _ hi=>gP J hi)) ?_;refine B0 ?_;refine B5 (s:=⟨[(1,_,_),(13,_,_)],[(.l 1,_)],[],[]⟩) (B4 (⟨U J,U J,O⟩) (⟨U J,O⟩) O) ?_;refine B9 J (fun hc=>?_) (fun hc=>?_)
  ·try simp only [nn,B3,T.rows_len,Fs.rows_len,Sp.rows_len,Gl.rows_len] at hc
   refine A8 (A6 ?_);refine A5 J J J (A9 J gU) ?_;refine B0 ?_;refine C1 ?_
   repeat(first|refine tR ?_|refine bR ?_)
   refine C5 J ?_ O
   (rw[he,if_pos (by grind)]; rfl)
  ·try simp only [nn,B3,T.rows_len,Fs.rows_len,Sp.rows_len,Gl.rows_len] at hc
   rw[if_neg (by grind)] at he
   refine C0 ?_;refine A8 ?_;refine A8 (A6 ?_);refine A5 J J J (B1 J gU J J) ?_;refine A5 J J J (B2 J gU J J J J) ?_;refine C8 J J J J J J gU gU (Aq _) J ?_;refine A5 J J J (F8 J gU) ?_;refine B0 ?_;refine B9 J (fun hc2=>?_) (fun hc2=>?_)
   ·try simp only [nn,B3,T.rows_len,Fs.rows_len,Sp.rows_len,Gl.rows_len] at hc2
    refine A8 (A6 ?_);refine A5 J J J (A9 J gU) ?_;refine B0 ?_;refine C1 ?_
    repeat(first|refine tR ?_|refine bR ?_)
    refine C5 J ?_ O
    (rw[he,if_pos hc2]; rfl)
   ·try simp only [nn,B3,T.rows_len,Fs.rows_len,Sp.rows_len,Gl.rows_len] at hc2
    rw[if_neg (by rw[hc2]; simp)] at he
    refine C0 ?_;refine A8 ?_;refine A8 (A6 ?_);refine A5 J J J (B1 J gU J J) ?_;refine A5 J J J (B2 J gU J J J J) ?_;refine D9 J J J J J gU J J ?_ (fun hh=>by simp at hh); intro hlen;refine A5 J J J (A7 J gU) ?_;refine B0 ?_;refine B5 (s:=⟨[(19,_,_),(20,_,_),(21,_,_)],[],[],[]⟩) (B4 (⟨U J,U J,U J,O⟩) O O) ?_;refine C4 ?_;refine F3 (ι:=Nat) { t:=[(19,_,_),(20,_,_)],bx:=[],ow:=[] } (fun k=>[(21,true,xi (k : Int))]) (fun k=>[]) (fun k=>k≤t.kids.length∧errs (rawE E4) (t.kids.drop k)=rawE E4 t) (fun k=>t.kids.length - k) (0) (⟨by simp,by rw[he]; rfl⟩) (B4 (⟨U J,U J,U J,O⟩) O O) ?_
    intro k hok
    dsimp only [List.cons_append,List.nil_append]
    obtain ⟨hk,hi⟩:=hok
    refine A8 (A6 ?_);refine A5 J J J (B7 J J gU gU J) ?_;refine B0 ?_;refine A8 ?_;refine B9 J (fun hc3=>?_) (fun hc3=>?_)
    ·try simp only [nn,B3,T.rows_len,Fs.rows_len,Sp.rows_len,Gl.rows_len] at hc3
     have hlt : k < t.kids.length:=by omega
     have h2:=T.getD_size hlt
     have hd:=O7 (d:=default) hlt hi
     refine C0 ?_;refine A8 ?_;refine C4 ?_;refine A8 (A6 ?_);refine A5 J J J (C2 J J gU gU J J J (fun hh=>T.rows_at (by first|omega|(simp at hh ⊢; omega)))) ?_;refine A5 J J J (D4 J gU J J J J) ?_;refine C3 J (E1 J J J) ?_;refine C3 J (C7 J J J J J J J) ?_;refine B0 ?_;refine A8 (A6 ?_);refine A5 J J J (B8 J gU J J J J J) ?_;refine C8 J J J J J J gU gU (ih (t.kids.getD k default) (by omega) (by omega)) J ?_;refine A5 J J J (A9 J gU) ?_;refine B0 ?_;refine B5 (s:=⟨[(5,_,_),(19,_,_),(20,_,_),(21,_,_)],[],[],[]⟩) (B4 (⟨U J,U J,U J,U J,O⟩) O O) ?_;refine A8 (A6 ?_);refine A5 J J J (A7 J gU) ?_;refine A5 J J J (B7 J J gU gU J) ?_;refine B0 ?_;refine B9 J (fun hc1=>?_) (fun hc1=>?_)
     ·try simp only [nn,B3,T.rows_len,Fs.rows_len,Sp.rows_len,Gl.rows_len] at hc1
      refine A8 (A6 ?_);refine A5 J J J (A7 J gU) ?_;refine A5 J J J (A9 J gU) ?_;refine B0 ?_;refine C1 ?_
      repeat(first|refine tR ?_|refine bR ?_)
      refine C5 J ?_ O;exact H2 (hd.1 (by assumption)).symm
     ·try simp only [nn,B3,T.rows_len,Fs.rows_len,Sp.rows_len,Gl.rows_len] at hc1
      refine C0 ?_;refine A6 ?_;refine A5 J J J (D0 J J gU gU J (IntWalk.i64_in _ (by omega))) ?_;refine A5 J J J (A7 J gU) ?_;refine B0 ?_;refine ⟨k + 1,?_,?_,B4 (⟨⟨_,rfl,?_⟩,⟨U J,U J,O⟩⟩) O O⟩
      all_goals (first|rfl|omega|exact ⟨by omega,hd.2 (by assumption)⟩)
    ·try simp only [nn,B3,T.rows_len,Fs.rows_len,Sp.rows_len,Gl.rows_len] at hc3
     refine E2 ?_
     repeat(first|refine D5 ?_|refine D6 ?_|refine D2 J ?_)
     refine A8 (A6 ?_);refine A5 J J J (A9 J gU) ?_;refine B0 ?_;refine C1 ?_
     repeat(first|refine tR ?_|refine bR ?_)
     refine C5 J ?_ O;exact H2 (X1 (by omega) hi).symm
theorem Nh (t : T) (ht : t.size≤900000) : Ctr sys 112 [xm t] [] (xi (Z9 E4 t)) none []:=by
 refine D1 Tryz.func112 J J J J J J ?_;refine A8 (A6 ?_);refine C3 J (D8 J J J J) ?_;refine A5 J J J (A9 J gU) ?_;refine B0 ?_;refine A8 ?_;refine A8 (A6 ?_);refine A5 J J J (B8 J gU J J J J J) ?_;refine C8 J J J J J J gU gU (Pj _ (by omega)) J ?_;refine A5 J J J (A9 J gU) ?_;refine B0 ?_;refine B5 (s:=⟨[(1,_,_),(3,_,_)],[(.l 1,_)],[],[]⟩) (B4 (⟨U J,U J,O⟩) (⟨U J,O⟩) O) ?_;refine A8 (A6 ?_);refine A5 J J J (A7 J gU) ?_;refine A5 J J J (B7 J J gU gU J) ?_;refine B0 ?_;refine B9 J (fun hc=>?_) (fun hc=>?_)
 ·try simp only [nn,B3,T.rows_len,Fs.rows_len,Sp.rows_len,Gl.rows_len] at hc
  refine A8 (A6 ?_);refine A5 J J J (A7 J gU) ?_;refine A5 J J J (A9 J gU) ?_;refine B0 ?_;refine C1 ?_
  repeat(first|refine tR ?_|refine bR ?_)
  refine C5 J ?_ O
  (rw[Z9,if_pos hc]; rfl)
 ·try simp only [nn,B3,T.rows_len,Fs.rows_len,Sp.rows_len,Gl.rows_len] at hc
  refine C0 ?_;refine A8 (A6 ?_);refine A5 J J J (B8 J gU J J J J J) ?_;refine C8 J J J J J J gU gU (Yo _ _ (Nat.le_refl _) (by omega)) J ?_;refine A5 J J J (A9 J gU) ?_;refine B0 ?_;refine C1 ?_
  repeat(first|refine tR ?_|refine bR ?_)
  refine C5 J ?_ O
  (rw[Z9,if_neg (by simpa using hc)]; rfl)
theorem El (t : T) (ht : t.size≤900000) : Ctr sys 73 [xm t] [] (xi (msgE E4 t)) none []:=by
 refine D1 Tryz.func73 J J J J J J ?_;refine A8 (A6 ?_);refine C3 J (D8 J J J J) ?_;refine A5 J J J (A9 J gU) ?_;refine B0 ?_;refine A8 ?_;refine A8 (A6 ?_);refine A5 J J J (B8 J gU J J J J J) ?_;refine C8 J J J J J J gU gU (Nh _ (by omega)) J ?_;refine A5 J J J (A9 J gU) ?_;refine B0 ?_;refine B5 (s:=⟨[(1,_,_),(3,_,_)],[(.l 1,_)],[],[]⟩) (B4 (⟨U J,U J,O⟩) (⟨U J,O⟩) O) ?_;refine A8 (A6 ?_);refine A5 J J J (A7 J gU) ?_;refine A5 J J J (B7 J J gU gU J) ?_;refine B0 ?_;refine B9 J (fun hc=>?_) (fun hc=>?_)
 ·try simp only [nn,B3,T.rows_len,Fs.rows_len,Sp.rows_len,Gl.rows_len] at hc
  refine A8 (A6 ?_);refine A5 J J J (A7 J gU) ?_;refine A5 J J J (A9 J gU) ?_;refine B0 ?_;refine C1 ?_
  repeat(first|refine tR ?_|refine bR ?_)
  refine C5 J ?_ O
  (rw[msgE,if_pos hc]; rfl)
 ·try simp only [nn,B3,T.rows_len,Fs.rows_len,Sp.rows_len,Gl.rows_len] at hc
  refine C0 ?_;refine A8 ?_;refine A8 (A6 ?_);refine A5 J J J (B8 J gU J J J J J) ?_;refine C8 J J J J J J gU gU (Sr _ _ (Nat.le_refl _) (by omega)) J ?_;refine A5 J J J (B7 J J gU gU J) ?_;refine B0 ?_;refine B5 (s:=⟨[(11,_,_)],[],[],[]⟩) (B4 (⟨U J,O⟩) O O) ?_;refine B9 J (fun hc2=>?_) (fun hc2=>?_)
  ·try simp only [nn,B3,T.rows_len,Fs.rows_len,Sp.rows_len,Gl.rows_len] at hc2
   refine A8 (A6 ?_);refine A5 J J J (A9 J gU) ?_;refine B0 ?_;refine C1 ?_
   repeat(first|refine tR ?_|refine bR ?_)
   refine C5 J ?_ O
   (rw[msgE,if_neg (by simpa using hc),if_pos (by omega)]; rfl)
  ·try simp only [nn,B3,T.rows_len,Fs.rows_len,Sp.rows_len,Gl.rows_len] at hc2
   refine C0 ?_;refine A8 (A6 ?_);refine A5 J J J (A9 J gU) ?_;refine B0 ?_;refine C1 ?_
   repeat(first|refine tR ?_|refine bR ?_)
   refine C5 J ?_ O
   (rw[msgE,if_neg (by simpa using hc),if_neg (by omega)]; rfl)
theorem R1 (g : Gl) : Ctr sys 114 [xg g] [] (xb (I8 g.kind)) none []:=by
 refine D1 Tryz.func114 J J J J J J ?_;refine A8 (A6 ?_);refine C3 J (D8 J J J J) ?_;refine A5 J J J (A9 J gU) ?_;refine B0 ?_;refine A8 (A6 ?_);refine A5 J J J (B1 J gU J J) ?_;refine A5 J J J (B2 J gU J J J J) ?_;refine A5 J J J (B7 J J gU gU J) ?_;refine A5 J J J (A7 J gU) ?_;refine A5 J J J (B1 J gU J J) ?_;refine A5 J J J (B2 J (fun hh=>hh) J J J J) ?_;refine A5 J J J (B7 J J (fun hh=>hh) gU J) ?_;refine A5 J J J (E5 J J gU (fun _ hi=>gP J hi)) ?_;refine A5 J J J (A9 J gU) ?_;refine B0 ?_;refine C1 ?_
 repeat(first|refine tR ?_|refine bR ?_)
 refine C5 J ?_ O
 rfl
theorem S2 (s : List UInt8) : Ctr sys 72 [xs s] [] (xb (!E4 s)) none []:=by
 refine D1 Tryz.func72 J J J J J J ?_;refine A8 (A6 ?_);refine A5 J J J (A9 J gU) ?_;refine B0 ?_;refine A8 (A6 ?_);refine A5 J J J (A7 J gU) ?_;refine C8 J J J J J J gU gU (Aq _) J ?_;refine A5 J J J (F8 J gU) ?_;refine A5 J J J (A9 J gU) ?_;refine B0 ?_;refine C1 ?_
 repeat(first|refine tR ?_|refine bR ?_)
 refine C5 J ?_ O
 rfl
theorem Xf (g : Gl) (hg : T.sizes g.data≤900000) : Ctr sys 74 [xg g] [] (xi (N9 E4 g)) none []:=by
 have hls:=T.len_sizes g.data
 have hrl:=T.rows_len g.data
 refine D1 Tryz.func74 J J J J J J ?_;refine A8 (A6 ?_);refine C3 J (D8 J J J J) ?_;refine A5 J J J (A9 J gU) ?_;refine B0 ?_;refine A8 (A6 ?_);refine A5 J J J (B1 J gU J J) ?_;refine A5 J J J (B2 J gU J J J J) ?_;refine D9 J J J J J gU J J ?_ (fun hh=>by simp at hh); intro hlen;refine A5 J J J (A9 J gU) ?_;refine B0 ?_;refine B5 (s:=⟨[(1,_,_),(3,_,_)],[(.l 1,_)],[],[]⟩) (B4 (⟨U J,U J,O⟩) (⟨U J,O⟩) O) ?_;refine A8 ?_;refine C4 ?_;refine A8 (A6 ?_);refine A5 J J J (B1 J gU J J) ?_;refine A5 J J J (B2 J gU J J J J) ?_;refine A5 J J J (B7 J J gU gU J) ?_;refine A5 J J J (A7 J gU) ?_;refine A5 J J J (B1 J gU J J) ?_;refine A5 J J J (B2 J (fun hh=>hh) J J J J) ?_;refine A5 J J J (B7 J J (fun hh=>hh) gU J) ?_;refine A5 J J J (E5 J J gU (fun _ hi=>gP J hi)) ?_;refine A5 J J J (A9 J gU) ?_;refine B0 ?_;refine B5 (s:=⟨[(1,_,_),(3,_,_),(10,_,_)],[(.l 1,_)],[],[]⟩) (B4 (⟨U J,U J,U J,O⟩) (⟨U J,O⟩) O) ?_
 refine B9 J (fun hc=>?_) (fun hc=>?_)
 ·try simp only [nn,B3,T.rows_len,Fs.rows_len,Sp.rows_len,Gl.rows_len] at hc
  refine A8 (A6 ?_);refine A5 J J J (A9 J gU) ?_;refine B0 ?_;refine C1 ?_
  repeat(first|refine tR ?_|refine bR ?_)
  refine C5 J ?_ O
  (rw[N9,if_pos (by grind)]; rfl)
 ·try simp only [nn,B3,T.rows_len,Fs.rows_len,Sp.rows_len,Gl.rows_len] at hc
  refine A8 (A6 ?_);refine A5 J J J (B1 J gU J J) ?_;refine A5 J J J (B2 J gU J J J J) ?_;refine C8 J J J J J J gU gU (Aq _) J ?_;refine A5 J J J (F8 J gU) ?_;refine A5 J J J (A7 J gU) ?_;refine A5 J J J (B8 J gU J J J J J) ?_;refine C8 J J J J J J gU (fun hh=>gA ((fun hh=>hh) hh) (rfl)) (R1 _) J ?_;refine A5 J J J (A7 J (fun hh=>hh)) ?_;refine A5 J J J (B1 J gU J J) ?_;refine A5 J J J (B2 J (fun hh=>hh) J J J J) ?_;refine C8 J J J J J J gU (fun hh=>gA ((fun hh=>hh) hh) (rfl)) (Aq _) J ?_;refine A5 J J J (F8 J (fun hh=>hh)) ?_;refine H3 (s:=⟨[(1,_,_),(3,_,_),(24,_,_),(27,_,_),(31,_,_)],[(.l 1,_)],[],[]⟩) (B4 (⟨U J,U J,U J,U J,U J,O⟩) (⟨U J,O⟩) O) ?_;refine A5 J J J (E0 J J (fun hh=>hh) (fun hh hi=>gP hh hi)) ?_;refine A5 J J J (E5 J J gU (fun _ hi=>gP J hi)) ?_;refine A5 J J J (A9 J gU) ?_;refine B0 ?_;refine B9 J (fun hc2=>?_) (fun hc2=>?_)
  ·try simp only [nn,B3,T.rows_len,Fs.rows_len,Sp.rows_len,Gl.rows_len] at hc2
   refine A8 (A6 ?_);refine A5 J J J (A9 J gU) ?_;refine B0 ?_;refine C1 ?_
   repeat(first|refine tR ?_|refine bR ?_)
   refine C5 J ?_ O
   (rw[N9,if_neg (by grind),if_pos (by grind)]; rfl)
  ·try simp only [nn,B3,T.rows_len,Fs.rows_len,Sp.rows_len,Gl.rows_len] at hc2
   refine A8 (A6 ?_);refine A5 J J J (B8 J gU J J J J J) ?_;refine C8 J J J J J J gU gU (R1 _) J ?_;refine A5 J J J (F8 J gU) ?_;refine A5 J J J (A7 J gU) ?_;refine A5 J J J (B1 J gU J J) ?_;refine A5 J J J (B2 J (fun hh=>hh) J J J J) ?_;refine A5 J J J (G0 J J (fun hh=>hh) gU J) ?_;refine A5 J J J (E0 J J gU (fun _ hi=>gP J hi)) ?_;refine A5 J J J (A9 J gU) ?_;refine B0 ?_;refine B5 (s:=⟨[(1,_,_),(3,_,_),(34,_,_)],[(.l 1,_)],[],[]⟩) (B4 (⟨U J,U J,U J,O⟩) (⟨U J,O⟩) O) ?_;refine B9 J (fun hc3=>?_) (fun hc3=>?_)
   ·try simp only [nn,B3,T.rows_len,Fs.rows_len,Sp.rows_len,Gl.rows_len] at hc3
    refine A8 (A6 ?_);refine A5 J J J (A9 J gU) ?_;refine B0 ?_;refine C1 ?_
    repeat(first|refine tR ?_|refine bR ?_)
    refine C5 J ?_ O
    (rw[N9,if_neg (by grind),if_neg (by grind),if_pos (by grind)]; rfl)
   ·try simp only [nn,B3,T.rows_len,Fs.rows_len,Sp.rows_len,Gl.rows_len] at hc3
    refine A8 (A6 ?_);refine A5 J J J (B8 J gU J J J J J) ?_;refine C8 J J J J J J gU gU (R1 _) J ?_;refine A5 J J J (A7 J gU) ?_;refine A5 J J J (A7 J gU) ?_;refine A5 J J J (B7 J J (fun hh=>hh) gU J) ?_;refine A5 J J J (A7 J (fun hh=>hh)) ?_;refine A5 J J J (A7 J gU) ?_;refine A5 J J J (B7 J J (fun hh=>hh) gU J) ?_;refine A5 J J J (E5 J J (fun hh=>hh) (fun hh hi=>gP hh hi)) ?_;refine A5 J J J (E0 J J gU (fun _ hi=>gP J hi)) ?_;refine A5 J J J (A7 J gU) ?_;refine A5 J J J (B8 J gU J J J J J) ?_;refine H3 (s:=⟨[(1,_,_),(3,_,_),(54,_,_),(55,_,_)],[(.l 1,_)],[],[]⟩) (B4 (⟨U J,U J,U J,U J,O⟩) (⟨U J,O⟩) O) ?_;refine C8 J J J J J J gU (fun hh=>gA ((fun hh=>hh) hh) (rfl)) (R1 _) J ?_;refine A5 J J J (F8 J (fun hh=>hh)) ?_;refine A5 J J J (A7 J (fun hh=>hh)) ?_;refine A5 J J J (A7 J gU) ?_;refine A5 J J J (B7 J J (fun hh=>hh) gU J) ?_;refine A5 J J J (E0 J J (fun hh=>hh) (fun hh hi=>gP hh hi)) ?_;refine A5 J J J (E5 J J gU (fun _ hi=>gP J hi)) ?_
    refine A5 J J J (A9 J gU) ?_;refine B0 ?_;refine B5 (s:=⟨[(1,_,_),(43,_,_)],[(.l 1,_)],[],[]⟩) (B4 (⟨U J,U J,O⟩) (⟨U J,O⟩) O) ?_;refine B9 J (fun hc4=>?_) (fun hc4=>?_)
    ·try simp only [nn,B3,T.rows_len,Fs.rows_len,Sp.rows_len,Gl.rows_len] at hc4
     refine A8 (A6 ?_);refine A5 J J J (A9 J gU) ?_;refine B0 ?_;refine C1 ?_
     repeat(first|refine tR ?_|refine bR ?_)
     refine C5 J ?_ O
     (rw[N9,if_neg (by grind),if_neg (by grind),if_neg (by grind),if_pos (by grind)]; rfl)
    ·try simp only [nn,B3,T.rows_len,Fs.rows_len,Sp.rows_len,Gl.rows_len] at hc4
     have he : N9 E4 g=errs (msgE E4) g.data:=by rw[N9,if_neg (by grind),if_neg (by grind),if_neg (by grind),if_neg (by grind)]
     refine C0 ?_;refine A8 ?_;refine A8 (A6 ?_);refine A5 J J J (B1 J gU J J) ?_;refine A5 J J J (B2 J gU J J J J) ?_;refine D9 J J J J J gU J J ?_ (fun hh=>by simp at hh); intro hlen;refine A5 J J J (A7 J gU) ?_;refine B0 ?_;refine C4 ?_;refine F3 (ι:=Nat) { t:=[(64,_,_),(65,_,_)],bx:=[],ow:=[] } (fun k=>[(66,true,xi (k : Int))]) (fun k=>[]) (fun k=>k≤g.data.length∧errs (msgE E4) (g.data.drop k)=N9 E4 g) (fun k=>g.data.length - k) (0) (⟨by simp,by rw[he]; rfl⟩) (B4 (⟨U J,U J,U J,O⟩) O O) ?_
     intro k hok
     dsimp only [List.cons_append,List.nil_append]
     obtain ⟨hk,hi⟩:=hok
     refine A8 (A6 ?_);refine A5 J J J (B7 J J gU gU J) ?_;refine B0 ?_;refine A8 ?_;refine B9 J (fun hc5=>?_) (fun hc5=>?_)
     ·try simp only [nn,B3,T.rows_len,Fs.rows_len,Sp.rows_len,Gl.rows_len] at hc5
      have hlt : k < g.data.length:=by omega
      have h2:=T.getD_size hlt
      have hd:=O7 (d:=default) hlt hi
      refine C0 ?_;refine A8 ?_;refine C4 ?_;refine A8 (A6 ?_);refine A5 J J J (C2 J J gU gU J J J (fun hh=>T.rows_at (by first|omega|(simp at hh ⊢; omega)))) ?_;refine A5 J J J (D4 J gU J J J J) ?_;refine C3 J (E1 J J J) ?_;refine C3 J (C7 J J J J J J J) ?_;refine B0 ?_;refine A8 (A6 ?_);refine A5 J J J (B8 J gU J J J J J) ?_;refine C8 J J J J J J gU gU (El _ (by omega)) J ?_;refine A5 J J J (A9 J gU) ?_;refine B0 ?_;refine B5 (s:=⟨[(6,_,_),(64,_,_),(65,_,_),(66,_,_)],[],[],[]⟩) (B4 (⟨U J,U J,U J,U J,O⟩) O O) ?_;refine A8 (A6 ?_);refine A5 J J J (A7 J gU) ?_;refine A5 J J J (B7 J J gU gU J) ?_;refine B0 ?_;refine B9 J (fun hc1=>?_) (fun hc1=>?_)
      ·try simp only [nn,B3,T.rows_len,Fs.rows_len,Sp.rows_len,Gl.rows_len] at hc1
       refine A8 (A6 ?_);refine A5 J J J (A7 J gU) ?_;refine A5 J J J (A9 J gU) ?_;refine B0 ?_;refine C1 ?_
       repeat(first|refine tR ?_|refine bR ?_)
       refine C5 J ?_ O;exact H2 (hd.1 (by assumption)).symm
      ·try simp only [nn,B3,T.rows_len,Fs.rows_len,Sp.rows_len,Gl.rows_len] at hc1
       refine C0 ?_;refine A6 ?_;refine A5 J J J (D0 J J gU gU J (IntWalk.i64_in _ (by omega))) ?_;refine A5 J J J (A7 J gU) ?_;refine B0 ?_;refine ⟨k + 1,?_,?_,B4 (⟨⟨_,rfl,?_⟩,⟨U J,U J,O⟩⟩) O O⟩
       all_goals (first|rfl|omega|exact ⟨by omega,hd.2 (by assumption)⟩)
     ·try simp only [nn,B3,T.rows_len,Fs.rows_len,Sp.rows_len,Gl.rows_len] at hc5
      refine E2 ?_
      repeat(first|refine D5 ?_|refine D6 ?_|refine D2 J ?_)
      refine A8 (A6 ?_);refine A5 J J J (A9 J gU) ?_;refine B0 ?_;refine C1 ?_
      repeat(first|refine tR ?_|refine bR ?_)
      refine C5 J ?_ O;exact H2 (X1 (by omega) hi).symm
end Go.Proofs.YteidahabkfgfjaaGreat
