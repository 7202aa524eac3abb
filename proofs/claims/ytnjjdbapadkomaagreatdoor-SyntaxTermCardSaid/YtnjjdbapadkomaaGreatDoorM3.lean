/- Our abstract program logic and contracts of this seat's functions, part 3: no statement of its own (long names of ours are shortened by a program). -/
import Derived.Test.YtnjjdbapadkomaaGreatDoorM2
import Derived.Lib.Join
import Derived.Shelf.Strings.OnBuilder
import Derived.Shelf.Small.Strs
import Derived.Shelf.Strings.SlTrimAscii
import Derived.Shelf.Strings.Prefix
import Derived.Shelf.Strings.Split
import Derived.Shelf.LaysM
import Derived.Test.YtnjjdbapadkomaaGreatDoorProg
import Derived.KernelRfl
import Derived.WalkKit
import Derived.Lib.Builder
import Derived.Lib.UnsafeStr
import Derived.Laws.Externs
set_option linter.unusedVariables false
set_option linter.unusedSimpArgs false
namespace Go.Proofs.YtnjjdbapadkomaaGreatDoor
open Go Go.Abs
structure Fs where
 role : List UInt8
 name : List UInt8
 sort : Int
 deriving Inhabited,DecidableEq
structure Sp where
 frm : List UInt8
 dst : List UInt8
 msg : T
 line : Int
 deriving Inhabited
structure Gl where
 kind : Int
 role : List UInt8
 wth : List UInt8
 data : List T
 line : Int
 deriving Inhabited
structure Nar where
 name : List UInt8
 roles : List (List UInt8)
 fresh : List Fs
 tags : List (List UInt8)
 steps : List Sp
 goals : List Gl
 deriving Inhabited
def Fs.cells (f : Fs) : List C:=[.s f.role, .s f.name, .i .i64 f.sort]
def Sp.cells (s : Sp) : List C:=[.s s.frm, .s s.dst, .i .i64 s.msg.kind, .s s.msg.name, .i .i64 s.msg.sort, .sl 4 (T.rows s.msg.kids), .i .i64 s.line]
def Gl.cells (g : Gl) : List C:=[.i .i64 g.kind, .s g.role, .s g.wth, .sl 4 (T.rows g.data), .i .i64 g.line]
def Fs.rows (l : List Fs) : List (List C):=l.map Fs.cells
def Sp.rows (l : List Sp) : List (List C):=l.map Sp.cells
def Gl.rows (l : List Gl) : List (List C):=l.map Gl.cells
theorem Fs.rows_len (l : List Fs) : (Fs.rows l).length=l.length:=by simp [Fs.rows]
theorem Sp.rows_len (l : List Sp) : (Sp.rows l).length=l.length:=by simp [Sp.rows]
theorem Gl.rows_len (l : List Gl) : (Gl.rows l).length=l.length:=by simp [Gl.rows]
theorem Fs.rows_at {l : List Fs} {k : Nat} (h : k < l.length) : (Fs.rows l)[k]? = some (l.getD k default).cells:=by
 rw [Fs.rows,List.getElem?_map,List.getD_eq_getElem?_getD,List.getElem?_eq_getElem h]; rfl
theorem Sp.rows_at {l : List Sp} {k : Nat} (h : k < l.length) : (Sp.rows l)[k]? = some (l.getD k default).cells:=by
 rw [Sp.rows,List.getElem?_map,List.getD_eq_getElem?_getD,List.getElem?_eq_getElem h]; rfl
theorem Gl.rows_at {l : List Gl} {k : Nat} (h : k < l.length) : (Gl.rows l)[k]? = some (l.getD k default).cells:=by
 rw [Gl.rows,List.getElem?_map,List.getD_eq_getElem?_getD,List.getElem?_eq_getElem h]; rfl
theorem T.rows_at {l : List T} {k : Nat} (h : k < l.length) : (T.rows l)[k]? = some (l.getD k default).cells:=by
 rw [T.rows_eq,List.getElem?_map,List.getD_eq_getElem?_getD,List.getElem?_eq_getElem h]; rfl
theorem Fs.rows_app (a b : List Fs) : Fs.rows (a++b)=Fs.rows a++Fs.rows b:=by simp [Fs.rows]
theorem Sp.rows_app (a b : List Sp) : Sp.rows (a++b)=Sp.rows a++Sp.rows b:=by simp [Sp.rows]
theorem Gl.rows_app (a b : List Gl) : Gl.rows (a++b)=Gl.rows a++Gl.rows b:=by simp [Gl.rows]
theorem T.getD_size {l : List T} {k : Nat} (h : k < l.length) : T.sizes (l.take k) + (l.getD k default).size≤T.sizes l:=by
 have h0 : l[k]? = some (l.getD k default):=by rw [List.getD_eq_getElem?_getD,List.getElem?_eq_getElem h]; rfl
 have h1:=T.sizes_take l k _ h0
 have h2:=T.sizes_take_le l (k + 1)
 omega
theorem T.getD_some {l : List T} {k : Nat} (h : k < l.length) : l[k]? = some (l.getD k default):=by
 rw [List.getD_eq_getElem?_getD,List.getElem?_eq_getElem h]; rfl
def Nar.cells (n : Nar) : List C:=[.s n.name, .sl 1 (strR n.roles), .sl 3 (Fs.rows n.fresh), .sl 1 (strR n.tags), .sl 7 (Sp.rows n.steps), .sl 5 (Gl.rows n.goals)]
abbrev xn (n : Nar) : X:=.v (.agg n.cells)
abbrev xg (g : Gl) : X:=.v (.agg g.cells)
structure PS where
 at' : Nat
 bad : Bool
 deriving Inhabited,DecidableEq
def PS.go (p : PS) : PS:=⟨p.at' + 1,p.bad⟩
def PS.off (p : PS) : PS:=⟨p.at',true⟩
def symQ (l : List Tk) (p : PS) (c : List UInt8) : Bool:=!p.bad && decide (p.at' < l.length) && decide ((l.getD p.at' tk0).kind=4) && decide ((l.getD p.at' tk0).text=c)
def uAN (l : List Tk) (c : List UInt8) (p : PS) : PS:=if symQ l p c=true then p.go else p.off
def namQ (l : List Tk) (p : PS) (ws : List (List UInt8)) : Bool:=!p.bad && decide (p.at' < l.length) && decide ((l.getD p.at' tk0).kind=1) && (decide (ws=[]) || ws.contains (l.getD p.at' tk0).text)
def uAv (l : List Tk) (ws : List (List UInt8)) (p : PS) : List UInt8 × PS:=if namQ l p ws=true then ((l.getD p.at' tk0).text,p.go) else ([],p.off)
def uBr {α : Type} (l : List Tk) (f : PS→α × PS) : Nat→PS→List α→List α × PS
 | 0,p,out=>(out,p)
 | n + 1,p,out=>if symQ l p [44]=true then uBr l f n (f p.go).2 (out++[(f p.go).1]) else (out,p)
def uAX {α : Type} (l : List Tk) (f : PS→α × PS) (p : PS) : List α × PS:=uBr l f (l.length + 1) (f p).2 [(f p).1]
def uBN (l : List Tk) (p : PS) : List (List UInt8) × PS:=uAX l (uAv l []) p
def wPair : List UInt8:=[112,97,105,114]
def uH1 (a b : T) : T:=⟨3,wPair,0,[a,b]⟩
def tupT : List T→T
 | []=>⟨0,[],0,[]⟩
 | [t]=>t
 | t :: u :: l=>uH1 t (tupT (u :: l))
def T0 : T:=⟨0,[],0,[]⟩
def uAO (l : List Tk) : Nat→PS→T × PS
 | 0,p=>(default,p)
 | n + 1,p=>if symQ l p [60]=true then
   (tupT ((uAO l n p.go).1 :: (uAX l (uAO l n) (uAN l [44] (uAO l n p.go).2)).1),uAN l [62] (uAX l (uAO l n) (uAN l [44] (uAO l n p.go).2)).2)
  else if symQ l (uAv l [] p).2 [40]=true then
   (if symQ l (uAv l [] p).2.go [41]=true then (⟨3,(uAv l [] p).1,0,[]⟩,(uAv l [] p).2.go.go)
   else (⟨3,(uAv l [] p).1,0,(uAX l (uAO l n) (uAv l [] p).2.go).1⟩,uAN l [41] (uAX l (uAO l n) (uAv l [] p).2.go).2))
  else (⟨2,(uAv l [] p).1,0,[]⟩,(uAv l [] p).2)
def uAV (l : List Tk) : Nat→PS→T × PS
 | 0,p=>(default,p)
 | n + 1,p=>if symQ l p [60]=true then
   (if (uAN l [62] (uAX l (uAV l n) (uAN l [44] (uAV l n p.go).2)).2).bad=true then (T0,uAN l [62] (uAX l (uAV l n) (uAN l [44] (uAV l n p.go).2)).2)
   else (tupT ((uAV l n p.go).1 :: (uAX l (uAV l n) (uAN l [44] (uAV l n p.go).2)).1),uAN l [62] (uAX l (uAV l n) (uAN l [44] (uAV l n p.go).2)).2))
  else if symQ l (uAv l [] p).2 [40]=true then
   (if symQ l (uAv l [] p).2.go [41]=true then (⟨3,(uAv l [] p).1,0,[]⟩,(uAv l [] p).2.go.go)
   else (⟨3,(uAv l [] p).1,0,(uAX l (uAV l n) (uAv l [] p).2.go).1⟩,uAN l [41] (uAX l (uAV l n) (uAv l [] p).2.go).2))
  else (⟨2,(uAv l [] p).1,0,[]⟩,(uAv l [] p).2)
def uBC (l : List (List UInt8)) (s : List UInt8) : Int:=match l with
 | []=>-1
 | x :: r=>if x=s then 0 else if uBC r s < 0 then -1 else uBC r s + 1
def sortW : List (List UInt8):=[[110,111,110,99,101],[107,101,121],[100,97,116,97]]
def kindW : List (List UInt8):=[[115,101,99,114,101,116],[97,103,114,101,101],[105,110,106,101,99,116],[102,114,101,115,104],[102,111,114,119,97,114,100]]
def uFX : List UInt8:=[114,111,108,101]
def uD5 : List UInt8:=[102,114,101,115,104]
def uFH : List UInt8:=[116,97,103]
def wMsg : List UInt8:=[109,101,115,115,97,103,101]
def uFG : List UInt8:=[103,111,97,108]
def uFF : List UInt8:=[112,114,111,116,111,99,111,108]
def uCa : List (List UInt8):=[uFX,uD5,uFH,wMsg,uFG]
def uCd (l : List Tk) (role : List UInt8) : Nat→PS→List Fs→List Fs × PS
 | 0,p,out=>(out,p)
 | n + 1,p,out=>if p.bad=true then (out,p) else
   if symQ l (uAv l sortW (uAv l [] p).2).2 [44]=true then uCd l role n (uAv l sortW (uAv l [] p).2).2.go (out++[⟨role,(uAv l [] p).1,2 + uBC sortW (uAv l sortW (uAv l [] p).2).1⟩])
   else (out++[⟨role,(uAv l [] p).1,2 + uBC sortW (uAv l sortW (uAv l [] p).2).1⟩],(uAv l sortW (uAv l [] p).2).2)
def uB7 (l : List Tk) (p : PS) (out : List Fs) : List Fs × PS:=uCd l (uAv l [] p).1 (l.length + 1) (uAN l [58] (uAv l [] p).2) out
def uCS (l : List Tk) (line : Int) (p : PS) : Sp × PS :=
 let a:=uAv l [] p
 let b:=uAv l [] (uAN l [62] (uAN l [45] a.2))
 let t:=uAO l (l.length + 1) (uAN l [58] b.2)
 (⟨a.1,b.1,t.1,line⟩,t.2)
def uBF (k : Int) : Bool:=decide (k=2) || decide (k=3)
def uCt (l : List Tk) (line : Int) (p : PS) : Gl × PS :=
 let k:=uAv l kindW p
 let r:=uAv l [] k.2
 let w:=if uBF (1 + uBC kindW k.1)=true then uAv l [] r.2 else ([],r.2)
 let d:=uAX l (uAO l (l.length + 1)) (uAN l [58] w.2)
 (⟨1 + uBC kindW k.1,r.1,w.1,d.1,line⟩,d.2)
def uCM (l : List Tk) (p : PS) : Int:=if p.at' < l.length then (l.getD p.at' tk0).line else 0
def uB4 (l : List Tk) (n : Nar) (line : Int) (w : List UInt8) (q : PS) : Nar × PS :=
 if w=uFX then ({ n with roles:=n.roles++(uBN l q).1 },(uBN l q).2)
 else if w=uD5 then ({ n with fresh:=(uB7 l q n.fresh).1 },(uB7 l q n.fresh).2)
 else if w=uFH then ({ n with tags:=n.tags++(uBN l q).1 },(uBN l q).2)
 else if w=wMsg then ({ n with steps:=n.steps++[(uCS l line q).1] },(uCS l line q).2)
 else if w=uFG then ({ n with goals:=n.goals++[(uCt l line q).1] },(uCt l line q).2)
 else (n,q)
def uCq (l : List Tk) (n : Nar) (p : PS) : Nar × PS :=
 ((uB4 l n (uCM l p) (uAv l uCa p).1 (uAv l uCa p).2).1,uAN l [59] (uB4 l n (uCM l p) (uAv l uCa p).1 (uAv l uCa p).2).2)
def uDk (l : List Tk) : Nat→Nar→PS→Nar × PS
 | 0,n,p=>(n,p)
 | m + 1,n,p=>if p.bad=true then (n,p) else if symQ l p [125]=true then (n,p.go) else uDk l m (uCq l n p).1 (uCq l n p).2
def uEV (l : List Tk) (p : PS) : Int:=if l.length=0 then 1 else if l.length≤p.at' then (l.getD (l.length - 1) tk0).line else (l.getD p.at' tk0).line
def endE (l : List Tk) (p : PS) : Int × Int:=if p.bad=true∨p.at' < l.length then (uEV l p,2) else (0,0)
def nar0 : Nar:=⟨[],[],[],[],[],[]⟩
def uDY (l : List Tk) : Nar × PS :=
 let a:=uAv l [uFF] ⟨0,false⟩
 let b:=uAv l [] a.2
 uDk l (l.length + 2) { nar0 with name:=b.1 } (uAN l [123] b.2)
end Go.Proofs.YtnjjdbapadkomaaGreatDoor
namespace Go.Proofs.YtnjjdbapadkomaaGreatDoor
open Go Go.Abs
def uBL (a b : Int) : Int:=if a < b then -1 else if b < a then 1 else 0
theorem uEe (a b : Int) : Ctr sys 123 [xi a,xi b] [] (xi (uBL a b)) none []:=by
 refine uAA Tryz.func123 rfl rfl rfl rfl rfl rfl ?_;refine uAe (uAb ?_);refine uAa rfl rfl rfl (uAd rfl gU) ?_;refine uAf ?_;refine uAe ?_;refine uAe (uAb ?_);refine uAa rfl rfl rfl (uAc rfl gU) ?_;refine uAa rfl rfl rfl (uAc rfl gU) ?_;refine uAa rfl rfl rfl (uAk rfl rfl gU gU rfl) ?_;refine uAf ?_;refine uAm rfl (fun hc=>?_) (fun hc=>?_)
 ·refine uAe (uAb ?_)
  refine uAa rfl rfl rfl (uAd rfl gU) ?_;refine uAf ?_;refine uAo ?_
  repeat (first | refine tR ?_ | refine bR ?_)
  refine uAr rfl ?_ trivial
  simp at hc; show xi _=xi _; simp [uBL,hc]
 ·refine uAq ?_
  refine uAe ?_;refine uAe (uAb ?_);refine uAa rfl rfl rfl (uAc rfl gU) ?_;refine uAa rfl rfl rfl (uAc rfl gU) ?_;refine uAa rfl rfl rfl (uAk rfl rfl gU gU rfl) ?_;refine uAf ?_;refine uAn (s:=⟨[(10,_,_)],[],[],[]⟩) (uAj (⟨sx rfl,trivial⟩) trivial trivial) ?_;refine uAm rfl (fun hc1=>?_) (fun hc1=>?_)
  ·refine uAe (uAb ?_)
   refine uAa rfl rfl rfl (uAd rfl gU) ?_;refine uAf ?_;refine uAo ?_
   repeat (first | refine tR ?_ | refine bR ?_)
   refine uAr rfl ?_ trivial
   simp at hc hc1; show xi _=xi _; simp [uBL,hc1]; omega
  ·refine uAq ?_
   refine uAe (uAb ?_);refine uAa rfl rfl rfl (uAd rfl gU) ?_;refine uAf ?_;refine uAo ?_
   repeat (first | refine tR ?_ | refine bR ?_)
   refine uAr rfl ?_ trivial
   simp at hc hc1; show xi _=xi _; simp [uBL]; omega
def uNY (t : T) (k : Nat) : St:={ t:=[(1,true, .v (.ptr (.l 1) 0)),(3,true,xi (1 + T.sizes (t.kids.take k))),(4,true,xi k)],bx:=[(.l 1,t.cells)],ow:=[] }
theorem uFm : ∀ (n : Nat) (t : T),t.size≤n→n≤2000000→Ctr sys 106 [.v (.agg t.cells)] [] (xi t.size) none []:=by
 intro n
 induction n with
 | zero=>intro t h _; have := t.size_pos; omega
 | succ n ih =>
  intro t ht hn
  refine uAA Tryz.func106 rfl rfl rfl rfl rfl rfl ?_;refine uAe (uAb ?_);refine uAs rfl (uAY rfl rfl rfl rfl) ?_;refine uAa rfl rfl rfl (uAd rfl gU) ?_;refine uAf ?_;refine uAe (uAb ?_);refine uAa rfl rfl rfl (uAd rfl gU) ?_;refine uAf ?_;refine uAe ?_;refine uAe (uAb ?_);refine uAa rfl rfl rfl (uAd rfl gU) ?_;refine uAf ?_;refine uAx ?_;refine uDb (uNY t) (fun k=>k≤t.kids.length) (fun k=>t.kids.length - k) 0 (Nat.zero_le _) ?_ ?_
  ·refine uAj ⟨⟨_,rfl,rfl⟩,⟨_,rfl,rfl⟩,⟨_,rfl,rfl⟩,trivial⟩ ⟨⟨_,rfl,rfl⟩,trivial⟩ trivial
  ·intro k hk
   refine uAe ?_;refine uAe (uAb ?_);refine uAa rfl rfl rfl (uAc rfl gU) ?_;refine uAa rfl rfl rfl (uAg rfl gU rfl rfl) ?_;refine uAa rfl rfl rfl (uAl rfl gU rfl rfl rfl rfl) ?_;refine uAU rfl rfl rfl rfl rfl gU rfl rfl ?_ (fun hh=>by simp at hh); intro hlen;refine uAa rfl rfl rfl (uAk rfl rfl gU gU rfl) ?_;refine uAf ?_;refine uAn (s:=⟨[(1,_,_),(3,_,_),(4,_,_),(9,_,_)],[(.l 1,_)],[],[]⟩) (uAj (⟨sx rfl,sx rfl,sx rfl,sx rfl,trivial⟩) (⟨sx rfl,trivial⟩) trivial) ?_;refine uAm rfl (fun hc=>?_) (fun hc=>?_)
   ·rw [T.rows_len] at hlen hc
    have hlt : k < t.kids.length:=by simpa using hc
    obtain ⟨x,hx⟩ : ∃ x,t.kids[k]? = some x:=⟨_,List.getElem?_eq_getElem hlt⟩
    have h1:=T.sizes_take _ _ _ hx
    have h2:=T.sizes_take_le t.kids (k + 1)
    have h3:=t.size_eq
    have h4:=x.size_pos
    refine uAq ?_;refine uAe ?_;refine uAx ?_;refine uAb ?_;refine uAa rfl rfl rfl (uAc rfl gU) ?_;refine uAa rfl rfl rfl (uAg rfl gU rfl rfl) ?_;refine uAa rfl rfl rfl (uAl rfl gU rfl rfl rfl rfl) ?_;refine uAa rfl rfl rfl (uAc rfl gU) ?_;refine uAa rfl rfl rfl (uAB rfl rfl gU gU rfl rfl rfl (fun _=>T.rows_get hx)) ?_;refine uAa rfl rfl rfl (uAR rfl gU rfl rfl rfl rfl) ?_;refine uAw rfl rfl rfl rfl rfl rfl gU gU (ih x (by omega) (by omega)) rfl ?_;refine uAa rfl rfl rfl (uAu rfl rfl gU gU rfl (IntWalk.i64_in _ (by omega))) ?_;refine uAa rfl rfl rfl (uAd rfl gU) ?_;refine uAf ?_;refine uAn (s:=⟨[(1,_,_),(3,_,_),(4,_,_)],[(.l 1,_)],[],[]⟩) (uAj (⟨sx rfl,sx rfl,sx rfl,trivial⟩) (⟨sx rfl,trivial⟩) trivial) ?_;refine uAb ?_;refine uAa rfl rfl rfl (uAc rfl gU) ?_;refine uAa rfl rfl rfl (uAu rfl rfl gU gU rfl (IntWalk.i64_in _ (by omega))) ?_;refine uAa rfl rfl rfl (uAd rfl gU) ?_;refine uAf ?_;refine ⟨k + 1,by omega,by omega,?_⟩;refine uAj ⟨⟨_,rfl,rfl⟩,⟨_,rfl,?_⟩,⟨_,rfl,rfl⟩,trivial⟩ ⟨⟨_,rfl,rfl⟩,trivial⟩ trivial
    rw [h1]; simp; omega
   ·refine uAP ?_
    repeat (first | refine uAH ?_ | refine uAF ?_ | refine uAD rfl ?_)
    refine uAe (uAb ?_);refine uAa rfl rfl rfl (uAc rfl gU) ?_;refine uAa rfl rfl rfl (uAd rfl gU) ?_;refine uAf ?_;refine uAo ?_
    repeat (first | refine tR ?_ | refine bR ?_)
    refine uAr rfl ?_ trivial
    rw [T.rows_len] at hc
    have : k=t.kids.length:=by simp at hc; omega
    subst this
    rw [List.take_length,t.size_eq]
    show xi _=xi _
    simp
end Go.Proofs.YtnjjdbapadkomaaGreatDoor
namespace Go.Proofs.YtnjjdbapadkomaaGreatDoor
open Go Go.Abs
theorem uHV (n : Int) : Ctr sys 178 [xu n] [] (xb (uBM n)) none []:=by
 refine uAA Tryz.func178 rfl rfl rfl rfl rfl rfl ?_;refine uAe (uAb ?_);refine uAa rfl rfl rfl (uAd rfl gU) ?_;refine uAf ?_;refine uAe (uAb ?_);refine uAa rfl rfl rfl (uAc rfl gU) ?_;refine uAa rfl rfl rfl (uAk rfl rfl gU gU rfl) ?_;refine uAa rfl rfl rfl (uAc rfl gU) ?_;refine uAa rfl rfl rfl (uAc rfl gU) ?_;refine uAa rfl rfl rfl (uAk rfl rfl (fun hh=>hh) gU rfl) ?_;refine uAa rfl rfl rfl (uAQ rfl rfl gU (fun _ hi=>gP rfl hi)) ?_;refine uAa rfl rfl rfl (uAc rfl gU) ?_;refine uAa rfl rfl rfl (uAc rfl gU) ?_;refine uAa rfl rfl rfl (uAk rfl rfl (fun hh=>hh) gU rfl) ?_;refine uAa rfl rfl rfl (uAc rfl (fun hh=>hh)) ?_;refine uAa rfl rfl rfl (uAc rfl gU) ?_;refine uAa rfl rfl rfl (uAk rfl rfl (fun hh=>hh) gU rfl) ?_;refine uAa rfl rfl rfl (uAQ rfl rfl (fun hh=>hh) (fun hh hi=>gP hh hi)) ?_;refine uAa rfl rfl rfl (uAJ rfl rfl gU (fun _ hi=>gP rfl hi)) ?_;refine uAa rfl rfl rfl (uAc rfl gU) ?_;refine uAa rfl rfl rfl (uAc rfl gU) ?_;refine uAa rfl rfl rfl (uAk rfl rfl (fun hh=>hh) gU rfl) ?_;refine uAa rfl rfl rfl (uAc rfl (fun hh=>hh)) ?_;refine uAa rfl rfl rfl (uAc rfl gU) ?_;refine uAa rfl rfl rfl (uAk rfl rfl (fun hh=>hh) gU rfl) ?_;refine uAa rfl rfl rfl (uAQ rfl rfl (fun hh=>hh) (fun hh hi=>gP hh hi)) ?_;refine uAa rfl rfl rfl (uAJ rfl rfl gU (fun _ hi=>gP rfl hi)) ?_
 refine uAa rfl rfl rfl (uAc rfl gU) ?_;refine uAa rfl rfl rfl (uAc rfl gU) ?_;refine uAa rfl rfl rfl (uAk rfl rfl (fun hh=>hh) gU rfl) ?_;refine uAa rfl rfl rfl (uAJ rfl rfl gU (fun _ hi=>gP rfl hi)) ?_;refine uAa rfl rfl rfl (uAc rfl gU) ?_;refine uAa rfl rfl rfl (uAc rfl gU) ?_;refine uAa rfl rfl rfl (uAk rfl rfl (fun hh=>hh) gU rfl) ?_;refine uAa rfl rfl rfl (uAJ rfl rfl gU (fun _ hi=>gP rfl hi)) ?_;refine uAa rfl rfl rfl (uAd rfl gU) ?_;refine uAf ?_;refine uAo ?_
 repeat (first | refine tR ?_ | refine bR ?_)
 refine uAr rfl ?_ trivial
 rfl
end Go.Proofs.YtnjjdbapadkomaaGreatDoor
namespace Go.Proofs.YtnjjdbapadkomaaGreatDoor
open Go Go.Abs
def uBX (t : T) : Int :=
 if (t.kind=1∨t.kind=2)∧0≤t.sort∧t.sort≤5∧t.kids.length=0∨t.kind=3∧t.sort=0 then
  if uCC t.name=true then (if 8 < t.kids.length then 3 else 0) else 2
 else 1
namespace T
mutual
def nodesE : T→Int
 | mk k n s ks=>if uBX (mk k n s ks)≠0 then uBX (mk k n s ks) else nodesEs ks
def nodesEs : List T→Int
 | []=>0
 | t :: ts=>if nodesE t≠0 then nodesE t else nodesEs ts
end
theorem nodesE_eq (t : T) : t.nodesE=if uBX t≠0 then uBX t else nodesEs t.kids:=by cases t; rw [nodesE]; rfl
theorem nodesEs_hit : ∀ (ts : List T) (k : Nat) (x : T),ts[k]? = some x→nodesEs (ts.take k)=0→x.nodesE≠0→nodesEs ts=x.nodesE
 | [],k,x,h,_,_=>by simp at h
 | t :: ts,0,x,h,_,hx=>by simp at h; subst h; rw [nodesEs,if_pos hx]
 | t :: ts,k + 1,x,h,h0,hx=>by
  rw [List.take_succ_cons,nodesEs] at h0
  rw [nodesEs]
  by_cases ht : t.nodesE=0
  ·rw [if_neg (by simpa using ht)] at h0
   rw [if_neg (by simpa using ht)]
   exact nodesEs_hit ts k x (by simpa using h) h0 hx
  ·rw [if_pos ht] at h0; exact absurd h0 ht
theorem nodesEs_step : ∀ (ts : List T) (k : Nat) (x : T),ts[k]? = some x→nodesEs (ts.take k)=0→x.nodesE=0→nodesEs (ts.take (k + 1))=0
 | [],k,x,h,_,_=>by simp at h
 | t :: ts,0,x,h,_,hx=>by simp at h; subst h; simp [nodesEs,hx]
 | t :: ts,k + 1,x,h,h0,hx=>by
  rw [List.take_succ_cons,nodesEs] at h0
  rw [List.take_succ_cons,nodesEs]
  by_cases ht : t.nodesE=0
  ·rw [if_neg (by simpa using ht)] at h0
   rw [if_neg (by simpa using ht)]
   exact nodesEs_step ts k x (by simpa using h) h0 hx
  ·rw [if_pos ht] at h0; exact absurd h0 ht
mutual
def depth : T→Nat
 | mk _ _ _ ks=>depths ks + 1
def depths : List T→Nat
 | []=>0
 | t :: ts=>max (depth t) (depths ts)
end
theorem depth_eq (t : T) : t.depth=depths t.kids + 1:=by cases t; rw [depth]; rfl
theorem depths_take : ∀ (ts : List T) (k : Nat) (x : T),ts[k]? = some x→depths (ts.take (k + 1))=max (depths (ts.take k)) x.depth
 | [],k,x,h=>by simp at h
 | t :: ts,0,x,h=>by simp at h; subst h; simp [depths]
 | t :: ts,k + 1,x,h=>by
  have := depths_take ts k x (by simpa using h)
  simp only [List.take_succ_cons,depths]
  omega
mutual
theorem depth_le : ∀ t : T,t.depth≤t.size
 | mk k n s ks=>by have := uHJ ks; rw [depth,size]; omega
theorem uHJ : ∀ ts : List T,depths ts≤sizes ts
 | []=>by simp [depths]
 | t :: ts=>by have h1:=depth_le t; have h2:=uHJ ts; rw [depths,sizes]; omega
end
theorem depths_take_le : ∀ (ts : List T) (k : Nat),depths (ts.take k)≤depths ts
 | [],k=>by simp
 | t :: ts,0=>by simp [depths]
 | t :: ts,k + 1=>by have := depths_take_le ts k; simp only [List.take_succ_cons,depths]; omega
structure Chk where
 e : Int
 n : Int
 d : Int
mutual
def chk : T→Int→Int→Int→Chk
 | mk k nm s ks,lv,n,d=>if uBX (mk k nm s ks)≠0 then ⟨uBX (mk k nm s ks),n + 1,max d lv⟩ else chks ks (lv + 1) (n + 1) (max d lv)
def chks : List T→Int→Int→Int→Chk
 | [],_,n,d=>⟨0,n,d⟩
 | t :: ts,lv,n,d=>if (chk t lv n d).e≠0 then chk t lv n d else chks ts lv (chk t lv n d).n (chk t lv n d).d
end
theorem chk_eq (t : T) (lv n d : Int) : t.chk lv n d=if uBX t≠0 then ⟨uBX t,n + 1,max d lv⟩ else chks t.kids (lv + 1) (n + 1) (max d lv):=by cases t; rw [chk]; rfl
mutual
theorem chk_e : ∀ (t : T) (lv n d : Int),(t.chk lv n d).e=t.nodesE
 | mk k nm s ks,lv,n,d=>by
  rw [chk,nodesE]
  split
  ·rfl
  ·exact chks_e ks _ _ _
theorem chks_e : ∀ (ts : List T) (lv n d : Int),(chks ts lv n d).e=nodesEs ts
 | [],_,_,_=>by rw [chks,nodesEs]
 | t :: ts,lv,n,d=>by
  rw [chks,nodesEs]
  rw [chk_e t lv n d]
  split
  ·exact chk_e t lv n d
  ·exact chks_e ts _ _ _
end
mutual
theorem chk_n : ∀ (t : T) (lv n d : Int),n≤(t.chk lv n d).n∧(t.chk lv n d).n≤n + t.size∧(t.nodesE=0→(t.chk lv n d).n=n + t.size)
 | mk k nm s ks,lv,n,d=>by
  rw [chk,nodesE,size]
  have h:=chks_n ks (lv + 1) (n + 1) (max d lv)
  split
  ·dsimp only; exact ⟨by omega,by omega,fun hh=>absurd hh (by assumption)⟩
  ·exact ⟨by omega,by omega,fun hh=>by have := h.2.2 hh; omega⟩
theorem chks_n : ∀ (ts : List T) (lv n d : Int),n≤(chks ts lv n d).n∧(chks ts lv n d).n≤n + sizes ts∧(nodesEs ts=0→(chks ts lv n d).n=n + sizes ts)
 | [],_,n,_=>by rw [chks,sizes]; dsimp only; omega
 | t :: ts,lv,n,d=>by
  rw [chks,nodesEs,sizes,chk_e]
  have h:=chk_n t lv n d
  have h2:=chks_n ts lv (t.chk lv n d).n (t.chk lv n d).d
  split
  ·exact ⟨by omega,by omega,fun hh=>absurd hh (by assumption)⟩
  ·rename_i hz
   have hz' : t.nodesE=0:=by simpa using hz
   have := h.2.2 hz'
   exact ⟨by omega,by omega,fun hh=>by have := h2.2.2 hh; omega⟩
end
mutual
theorem chk_d : ∀ (t : T) (lv n d : Int),t.nodesE=0→(t.chk lv n d).d=max d (lv + t.depth - 1)
 | mk k nm s ks,lv,n,d,h=>by
  rw [nodesE] at h
  rw [chk,depth]
  split
  ·rename_i hz; rw [if_pos hz] at h; exact absurd h hz
  ·rename_i hz
   rw [if_neg hz] at h
   rw [uMv ks (lv + 1) (n + 1) (max d lv) h]
   split <;> omega
theorem uMv : ∀ (ts : List T) (lv n d : Int),nodesEs ts=0→(chks ts lv n d).d=if depths ts=0 then d else max d (lv + depths ts - 1)
 | [],_,n,d,_=>by rw [chks,depths]; simp
 | t :: ts,lv,n,d,h=>by
  rw [nodesEs] at h
  rw [chks,depths,chk_e]
  split
  ·rename_i hz; rw [if_pos hz] at h; exact absurd h hz
  ·rename_i hz
   rw [if_neg hz] at h
   rw [uMv ts lv _ _ h,chk_d t lv n d (by simpa using hz)]
   have hd : 1≤t.depth:=by rw [depth_eq]; omega
   split <;> split <;> omega
end
theorem uDX : ∀ (a b : List T) (lv n d : Int),chks (a++b) lv n d=if (chks a lv n d).e≠0 then chks a lv n d else chks b lv (chks a lv n d).n (chks a lv n d).d
 | [],b,lv,n,d=>by rw [List.nil_append]; simp [chks]
 | t :: a,b,lv,n,d=>by
  rw [List.cons_append,chks,chks]
  by_cases h : (t.chk lv n d).e≠0
  ·rw [if_pos h,if_pos h,if_pos h]
  ·rw [if_neg h,if_neg h,uDX a b]
theorem take_succ {ts : List T} {k : Nat} {x : T} (h : ts[k]? = some x) : ts.take (k + 1)=ts.take k++[x]:=by
 rw [List.take_add_one,h]; rfl
theorem chks_step {ts : List T} {k : Nat} {x : T} {lv n d : Int} (h : ts[k]? = some x) (h0 : (chks (ts.take k) lv n d).e=0) (hx : x.nodesE=0) :
  chks (ts.take (k + 1)) lv n d=x.chk lv (chks (ts.take k) lv n d).n (chks (ts.take k) lv n d).d:=by
 rw [take_succ h,uDX,if_neg (by simpa using h0),chks,chk_e,if_neg (by simpa using hx),chks]
 have := chk_e x lv (chks (ts.take k) lv n d).n (chks (ts.take k) lv n d).d
 rw [hx] at this
 cases hc : x.chk lv (chks (ts.take k) lv n d).n (chks (ts.take k) lv n d).d
 rw [hc] at this
 simp at this
 simp [this]
theorem chks_hit {ts : List T} {k : Nat} {x : T} {lv n d : Int} (h : ts[k]? = some x) (h0 : (chks (ts.take k) lv n d).e=0) (hx : x.nodesE≠0) :
  chks ts lv n d=x.chk lv (chks (ts.take k) lv n d).n (chks (ts.take k) lv n d).d:=by
 have hs : ts=ts.take k++(x :: ts.drop (k + 1)):=by
  have hlt:=(List.getElem?_eq_some_iff.1 h)
  obtain ⟨hl,he⟩:=hlt
  rw [← he,List.getElem_cons_drop,List.take_append_drop]
 conv=>lhs; rw [hs]
 rw [uDX,if_neg (by simpa using h0),chks,chk_e,if_pos hx]
end T
def uCW (t : T) : Int:=if t.nodesE≠0 then t.nodesE else if 400 < t.size∨40 < t.depth then 3 else 0
end Go.Proofs.YtnjjdbapadkomaaGreatDoor
namespace Go.Proofs.YtnjjdbapadkomaaGreatDoor
open Go Go.Abs
abbrev xm (t : T) : X:=.v (.agg t.cells)
abbrev xl (ts : List T) : X:=.v (.c (.sl 4 (T.rows ts)))
theorem uEd (v : Int) (h : uBM v=false∨(48≤v∧v≤57)∨v=95∨v=35) : uBf v=false:=by
 rcases h with h | h | h | h
 ·cases hl : uBf v with
  | false=>rfl
  | true=>simp [uBM,hl] at h
 all_goals simp [uBf]; omega
theorem uKi (v : Int) (h : uBM v=true) (h1 : ¬ (48≤v∧v≤57)) (h2 : ¬ v=95) (h3 : ¬ v=35) : uBf v=true:=by
 cases hl : uBf v with
 | true=>rfl
 | false=>simp [uBM,hl,uBu] at h; omega
def uMu (l : List UInt8) (k : Nat) : St:={ t:=[(0,true,xs l),(38,true,xi l.length),(39,true,xi k)],bx:=[],ow:=[] }
theorem uIg (l : List UInt8) : Ctr sys 169 [xs l] [] (xb (uCC l)) none []:=by
 refine uAA Tryz.func169 rfl rfl rfl rfl rfl rfl ?_;refine uAe (uAb ?_);refine uAa rfl rfl rfl (uAd rfl gU) ?_;refine uAf ?_;refine uAe ?_;refine uAe (uAb ?_);refine uAa rfl rfl rfl (uAc rfl gU) ?_;refine uAa rfl rfl rfl (uA4 rfl rfl gU gU rfl) ?_;refine uAa rfl rfl rfl (uAc rfl gU) ?_;refine uAa rfl rfl rfl (uAc rfl gU) ?_;refine uAa rfl rfl rfl (uBY rfl (fun hh=>hh) (Tryz.underlying9)) ?_;refine uAa rfl rfl rfl (uAk rfl rfl (fun hh=>hh) gU rfl) ?_;refine uAa rfl rfl rfl (uAJ rfl rfl gU (fun _ hi=>gP rfl hi)) ?_;refine uAa rfl rfl rfl (uAc rfl gU) ?_;refine uAa rfl rfl rfl (uAc rfl gU) ?_;refine uAa rfl rfl rfl (uAC rfl rfl (fun hh=>hh) gU Tryz.underlying9 rfl (by intro hh; simp at hh; exact List.length_pos_iff.2 hh.1)) ?_;refine uAw rfl rfl rfl rfl rfl rfl gU (fun hh=>gA ((fun hh=>hh) hh) (rfl)) (uHV _) rfl ?_;refine uAa rfl rfl rfl (uA0 rfl (fun hh=>hh)) ?_;refine uAa rfl rfl rfl (uAJ rfl rfl gU (fun _ hi=>gP rfl hi)) ?_;refine uAa rfl rfl rfl (uAc rfl gU) ?_;refine uAa rfl rfl rfl (uAc rfl gU) ?_;refine uAa rfl rfl rfl (uAC rfl rfl (fun hh=>hh) gU Tryz.underlying9 rfl (by intro hh; simp at hh; exact List.length_pos_iff.2 hh.1.1)) ?_;refine uAa rfl rfl rfl (uAk rfl rfl (fun hh=>hh) gU rfl) ?_;refine uAa rfl rfl rfl (uAc rfl (fun hh=>hh)) ?_
 refine uAa rfl rfl rfl (uAc rfl gU) ?_;refine uAa rfl rfl rfl (uAC rfl rfl (fun hh=>hh) gU Tryz.underlying9 rfl (by intro hh; simp at hh; exact List.length_pos_iff.2 hh.1.1.1)) ?_;refine uAa rfl rfl rfl (uAk rfl rfl (fun hh=>hh) gU rfl) ?_;refine uAa rfl rfl rfl (uAQ rfl rfl (fun hh=>hh) (fun hh hi=>gP hh hi)) ?_;refine uAa rfl rfl rfl (uAJ rfl rfl gU (fun _ hi=>gP rfl hi)) ?_;refine uAa rfl rfl rfl (uAc rfl gU) ?_;refine uAa rfl rfl rfl (uAc rfl gU) ?_;refine uAa rfl rfl rfl (uAC rfl rfl (fun hh=>hh) gU Tryz.underlying9 rfl (by intro hh; simp at hh; exact List.length_pos_iff.2 hh.1.1.1)) ?_;refine uAa rfl rfl rfl (uAk rfl rfl (fun hh=>hh) gU rfl) ?_;refine uAa rfl rfl rfl (uAJ rfl rfl gU (fun _ hi=>gP rfl hi)) ?_;refine uAa rfl rfl rfl (uAc rfl gU) ?_;refine uAa rfl rfl rfl (uAc rfl gU) ?_;refine uAa rfl rfl rfl (uAC rfl rfl (fun hh=>hh) gU Tryz.underlying9 rfl (by intro hh; simp at hh; exact List.length_pos_iff.2 hh.1.1.1.1)) ?_;refine uAa rfl rfl rfl (uAk rfl rfl (fun hh=>hh) gU rfl) ?_;refine uAa rfl rfl rfl (uAJ rfl rfl gU (fun _ hi=>gP rfl hi)) ?_;refine uAf ?_;refine uAn (s:=⟨[(0,_,_),(36,_,_)],[],[],[]⟩) (uAj (⟨sx rfl,sx rfl,trivial⟩) trivial trivial) ?_;refine uAm rfl (fun hc=>?_) (fun hc=>?_)
 ·refine uAe (uAb ?_)
  refine uAa rfl rfl rfl (uAd rfl gU) ?_;refine uAf ?_;refine uAo ?_
  repeat (first | refine tR ?_ | refine bR ?_)
  refine uAr rfl ?_ trivial;refine uCY ?_
  simp only [Bool.or_eq_true,Bool.not_eq_true',decide_eq_true_eq,Bool.and_eq_true,beq_iff_eq] at hc
  rcases hc with ((((hc | hc) | hc) | hc) | hc) | hc
  ·subst hc; rfl
  ·have : ¬ l.length≤24:=by omega
   simp [uCC,this]
  ·simp only [uCC,uEd _ (.inl hc),Bool.and_false,Bool.false_and]
  ·simp only [uCC,uEd _ (.inr (.inl hc)),Bool.and_false,Bool.false_and]
  ·simp only [uCC,uEd _ (.inr (.inr (.inl hc))),Bool.and_false,Bool.false_and]
  ·simp only [uCC,uEd _ (.inr (.inr (.inr hc))),Bool.and_false,Bool.false_and]
 ·simp only [Bool.or_eq_false_iff,Bool.not_eq_false',decide_eq_false_iff_not,beq_eq_false_iff_ne] at hc
  obtain ⟨⟨⟨⟨⟨hc1,hc2⟩,hc3⟩,hc4⟩,hc5⟩,hc6⟩:=hc
  have hlet:=uKi _ hc3 (by rintro ⟨q1,q2⟩; rw [decide_eq_true q1,decide_eq_true q2] at hc4; simp at hc4) hc5 hc6
  refine uAq ?_;refine uAe ?_;refine uAe (uAb ?_);refine uAa rfl rfl rfl (uAc rfl gU) ?_;refine uBl rfl rfl rfl rfl rfl gU (Tryz.underlying9) ?_ (fun hh=>by simp at hh); intro hlen;refine uAa rfl rfl rfl (uAc rfl gU) ?_;refine uAf ?_;refine uAx ?_;refine uDb (uMu l) (fun k=>k≤l.length ∧ ∀ j,j < k→uBM ((l.getD j 0).toNat : Int)=true) (fun k=>l.length - k) 0 ⟨Nat.zero_le _,fun j h=>by omega⟩ ?_ ?_
  ·refine uAj ⟨⟨_,rfl,rfl⟩,⟨_,rfl,rfl⟩,⟨_,rfl,rfl⟩,trivial⟩ trivial trivial
  ·rintro k ⟨hk,hall⟩
   refine uAe (uAb ?_);refine uAa rfl rfl rfl (uAk rfl rfl gU gU rfl) ?_;refine uAf ?_;refine uAe ?_;refine uAm rfl (fun hc2=>?_) (fun hc2=>?_)
   ·have hlt : k < l.length:=by simpa using hc2
    refine uAq ?_;refine uAe ?_;refine uAx ?_;refine uAe (uAb ?_);refine uAa rfl rfl rfl (uAc rfl gU) ?_;refine uAa rfl rfl rfl (uAd rfl gU) ?_;refine uAf ?_;refine uAe (uAb ?_);refine uAa rfl rfl rfl (uAc rfl gU) ?_;refine uAa rfl rfl rfl (uAc rfl gU) ?_;refine uAa rfl rfl rfl (uAC rfl rfl gU gU Tryz.underlying9 rfl (fun _=>hlt)) ?_;refine uAw rfl rfl rfl rfl rfl rfl gU gU (uHV _) rfl ?_;refine uAa rfl rfl rfl (uA0 rfl gU) ?_;refine uAf ?_;refine uAn (s:=⟨[(0,_,_),(38,_,_),(39,_,_),(46,_,_)],[],[],[]⟩) (uAj (⟨sx rfl,sx rfl,sx rfl,sx rfl,trivial⟩) trivial trivial) ?_;refine uAm rfl (fun hc3=>?_) (fun hc3=>?_)
    ·refine uAe (uAb ?_)
     refine uAa rfl rfl rfl (uAd rfl gU) ?_;refine uAf ?_;refine uAo ?_
     repeat (first | refine tR ?_ | refine bR ?_)
     refine uAr rfl ?_ trivial;refine uCY ?_
     have : (l.all fun b=>uBM (b.toNat : Int))=false:=uID hlt (by simpa using hc3)
     simp [uCC,this]
    ·refine uAq ?_
     refine uAb ?_;refine uAa rfl rfl rfl (uAu rfl rfl gU gU rfl (IntWalk.i64_in _ (by omega))) ?_;refine uAa rfl rfl rfl (uAc rfl gU) ?_;refine uAf ?_;refine ⟨k + 1,⟨by omega,?_⟩,by omega,?_⟩
     ·intro j hj
      rcases Nat.lt_or_ge j k with h | h
      ·exact hall j h
      ·have : j=k:=by omega
       subst this
       simpa using hc3
     ·refine uAj ⟨⟨_,rfl,rfl⟩,⟨_,rfl,rfl⟩,⟨_,rfl,rfl⟩,trivial⟩ trivial trivial
   ·refine uAP ?_
    repeat (first | refine uAH ?_ | refine uAF ?_ | refine uAD rfl ?_)
    refine uAe (uAb ?_);refine uAa rfl rfl rfl (uAd rfl gU) ?_;refine uAf ?_;refine uAo ?_
    repeat (first | refine tR ?_ | refine bR ?_)
    refine uAr rfl ?_ trivial;refine uCY ?_
    have hk' : k=l.length:=by simp at hc2; omega
    subst hk'
    have := uMV (p := fun b=>uBM (b.toNat : Int)) hall
    have hne : l.length≠0 := by intro h; have := List.eq_nil_of_length_eq_zero h; simp [this] at hc1
    have h24 : l.length≤24:=by omega
    simp only [uCC,this,hlet]
    rw [decide_eq_true hne,decide_eq_true h24]
    rfl
theorem uLq (t : T) : Ctr sys 170 [xm t] [] (xi (uBX t)) none []:=by
 refine uAA Tryz.func170 rfl rfl rfl rfl rfl rfl ?_;refine uAe (uAb ?_);refine uAs rfl (uAY rfl rfl rfl rfl) ?_;refine uAa rfl rfl rfl (uAd rfl gU) ?_;refine uAf ?_;refine uAe (uAb ?_);refine uAa rfl rfl rfl (uAg rfl gU rfl rfl) ?_;refine uAa rfl rfl rfl (uAl rfl gU rfl rfl rfl rfl) ?_;refine uAa rfl rfl rfl (uAk rfl rfl gU gU rfl) ?_;refine uAa rfl rfl rfl (uAc rfl gU) ?_;refine uAa rfl rfl rfl (uAg rfl gU rfl rfl) ?_;refine uAa rfl rfl rfl (uAl rfl (fun hh=>hh) rfl rfl rfl rfl) ?_;refine uAa rfl rfl rfl (uAk rfl rfl (fun hh=>hh) gU rfl) ?_;refine uAa rfl rfl rfl (uAJ rfl rfl gU (fun _ hi=>gP rfl hi)) ?_;refine uAa rfl rfl rfl (uAd rfl gU) ?_;refine uAf ?_;refine uAn (s:=⟨[(1,_,_),(3,_,_)],[(.l 1,_)],[],[]⟩) (uAj (⟨sx rfl,sx rfl,trivial⟩) (⟨sx rfl,trivial⟩) trivial) ?_;refine uAe ?_;refine uAe (uAb ?_);refine uAa rfl rfl rfl (uAc rfl gU) ?_;refine uAa rfl rfl rfl (uA0 rfl gU) ?_;refine uAa rfl rfl rfl (uAc rfl gU) ?_;refine uAa rfl rfl rfl (uAg rfl gU rfl rfl) ?_;refine uAa rfl rfl rfl (uAl rfl (fun hh=>hh) rfl rfl rfl rfl) ?_;refine uAa rfl rfl rfl (uAk rfl rfl (fun hh=>hh) gU rfl) ?_;refine uAa rfl rfl rfl (uAQ rfl rfl gU (fun _ hi=>gP rfl hi)) ?_;refine uAa rfl rfl rfl (uAc rfl gU) ?_
 refine uAa rfl rfl rfl (uAg rfl gU rfl rfl) ?_;refine uAa rfl rfl rfl (uAl rfl (fun hh=>hh) rfl rfl rfl rfl) ?_;refine uAa rfl rfl rfl (uAk rfl rfl (fun hh=>hh) gU rfl) ?_;refine uAa rfl rfl rfl (uAJ rfl rfl gU (fun _ hi=>gP rfl hi)) ?_;refine uAa rfl rfl rfl (uAc rfl gU) ?_;refine uAa rfl rfl rfl (uAg rfl gU rfl rfl) ?_;refine uAa rfl rfl rfl (uAl rfl (fun hh=>hh) rfl rfl rfl rfl) ?_;refine uAa rfl rfl rfl (uAk rfl rfl (fun hh=>hh) gU rfl) ?_;refine uAa rfl rfl rfl (uAJ rfl rfl gU (fun _ hi=>gP rfl hi)) ?_;refine uAa rfl rfl rfl (uAc rfl gU) ?_;refine uAa rfl rfl rfl (uAc rfl gU) ?_;refine uAa rfl rfl rfl (uA0 rfl (fun hh=>hh)) ?_;refine uAa rfl rfl rfl (uAc rfl (fun hh=>hh)) ?_;refine uAa rfl rfl rfl (uAg rfl gU rfl rfl) ?_;refine uAa rfl rfl rfl (uAl rfl (fun hh=>hh) rfl rfl rfl rfl) ?_;refine uAa rfl rfl rfl (uAk rfl rfl (fun hh=>hh) gU rfl) ?_;refine uAa rfl rfl rfl (uAQ rfl rfl (fun hh=>hh) (fun hh hi=>gP hh hi)) ?_;refine uAa rfl rfl rfl (uAJ rfl rfl gU (fun _ hi=>gP rfl hi)) ?_;refine uAa rfl rfl rfl (uAc rfl gU) ?_;refine uAa rfl rfl rfl (uAc rfl gU) ?_;refine uAa rfl rfl rfl (uAc rfl (fun hh=>hh)) ?_;refine uAa rfl rfl rfl (uAg rfl gU rfl rfl) ?_;refine uAa rfl rfl rfl (uAl rfl (fun hh=>hh) rfl rfl rfl rfl) ?_
 refine uAa rfl rfl rfl (uBb rfl (fun hh=>hh) rfl rfl) ?_;refine uAa rfl rfl rfl (uAk rfl rfl (fun hh=>hh) gU rfl) ?_;refine uAa rfl rfl rfl (uAQ rfl rfl (fun hh=>hh) (fun hh hi=>gP hh hi)) ?_;refine uAa rfl rfl rfl (uAJ rfl rfl gU (fun _ hi=>gP rfl hi)) ?_;refine uAf ?_;refine uAn (s:=⟨[(1,_,_),(46,_,_)],[(.l 1,_)],[],[]⟩) (uAj (⟨sx rfl,sx rfl,trivial⟩) (⟨sx rfl,trivial⟩) trivial) ?_;refine uAm rfl (fun hc=>?_) (fun hc=>?_)
 ·refine uAe (uAb ?_)
  refine uAa rfl rfl rfl (uAd rfl gU) ?_;refine uAf ?_;refine uAo ?_
  repeat (first | refine tR ?_ | refine bR ?_)
  refine uAr rfl ?_ trivial;refine uBg ?_
  rw [uBX,if_neg]
  simp only [Bool.or_eq_true,Bool.and_eq_true,Bool.not_eq_true',Bool.or_eq_false_iff,decide_eq_true_eq,bne_iff_ne,ne_eq,beq_iff_eq,beq_eq_false_iff_ne,T.rows_len] at hc
  rintro (⟨h1,h2,h3,h4⟩ | ⟨h1,h2⟩) <;> omega
 ·have hok : (t.kind=1∨t.kind=2)∧0≤t.sort∧t.sort≤5∧t.kids.length=0∨t.kind=3∧t.sort=0:=by
   simp only [Bool.or_eq_false_iff,Bool.and_eq_false_iff,Bool.not_eq_false',Bool.or_eq_true,decide_eq_false_iff_not,bne_eq_false_iff_eq,beq_iff_eq,beq_eq_false_iff_ne,ne_eq,T.rows_len] at hc
   omega
  refine uAq ?_;refine uAe ?_;refine uAe (uAb ?_);refine uAa rfl rfl rfl (uAg rfl gU rfl rfl) ?_;refine uAa rfl rfl rfl (uAl rfl gU rfl rfl rfl rfl) ?_;refine uAw rfl rfl rfl rfl rfl rfl gU gU (uFZ _) rfl ?_;refine uAa rfl rfl rfl (uA0 rfl gU) ?_;refine uAf ?_;refine uAm rfl (fun hc2=>?_) (fun hc2=>?_)
  ·refine uAe (uAb ?_)
   refine uAa rfl rfl rfl (uAd rfl gU) ?_;refine uAf ?_;refine uAo ?_
   repeat (first | refine tR ?_ | refine bR ?_)
   refine uAr rfl ?_ trivial;refine uBg ?_
   simp only [Bool.not_eq_true'] at hc2
   rw [uBX,if_pos hok,if_neg (by rw [hc2]; simp)]
  ·simp only [Bool.not_eq_false'] at hc2
   refine uAq ?_;refine uAe ?_;refine uAe (uAb ?_);refine uAa rfl rfl rfl (uAg rfl gU rfl rfl) ?_;refine uAa rfl rfl rfl (uAl rfl gU rfl rfl rfl rfl) ?_;refine uAU rfl rfl rfl rfl rfl gU rfl rfl ?_ (fun hh=>by simp at hh); intro hlen;refine uAa rfl rfl rfl (uAk rfl rfl gU gU rfl) ?_;refine uAf ?_;refine uAn (s:=⟨[(54,_,_)],[],[],[]⟩) (uAj (⟨sx rfl,trivial⟩) trivial trivial) ?_;refine uAm rfl (fun hc3=>?_) (fun hc3=>?_)
   ·refine uAe (uAb ?_)
    refine uAa rfl rfl rfl (uAd rfl gU) ?_;refine uAf ?_;refine uAo ?_
    repeat (first | refine tR ?_ | refine bR ?_)
    refine uAr rfl ?_ trivial;refine uBg ?_
    simp only [T.rows_len,decide_eq_true_eq] at hc3
    rw [uBX,if_pos hok,if_pos hc2,if_pos (by omega)]
   ·refine uAq ?_
    refine uAe (uAb ?_);refine uAa rfl rfl rfl (uAd rfl gU) ?_;refine uAf ?_;refine uAo ?_
    repeat (first | refine tR ?_ | refine bR ?_)
    refine uAr rfl ?_ trivial;refine uBg ?_
    simp only [T.rows_len,decide_eq_false_iff_not] at hc3
    rw [uBX,if_pos hok,if_pos hc2,if_neg (by omega)]
end Go.Proofs.YtnjjdbapadkomaaGreatDoor
namespace Go.Proofs.YtnjjdbapadkomaaGreatDoor
open Go Go.Abs
def uNv (t : T) (k : Nat) : St:={ t:=[(1,true, .v (.ptr (.l 1) 0)),(4,true,xi k)],bx:=[(.l 1,t.cells)],ow:=[] }
theorem uJ9 : ∀ (n : Nat) (t : T),t.size≤n→n≤2000000→Ctr sys 154 [xm t] [] (xi t.nodesE) none []:=by
 intro n
 induction n with
 | zero=>intro t h _; have := t.size_pos; omega
 | succ n ih =>
  intro t ht hn
  refine uAA Tryz.func154 rfl rfl rfl rfl rfl rfl ?_;refine uAe (uAb ?_);refine uAs rfl (uAY rfl rfl rfl rfl) ?_;refine uAa rfl rfl rfl (uAd rfl gU) ?_;refine uAf ?_;refine uAe ?_;refine uAe (uAb ?_);refine uAa rfl rfl rfl (uAp rfl gU rfl rfl rfl rfl rfl) ?_;refine uAw rfl rfl rfl rfl rfl rfl gU gU (uLq t) rfl ?_;refine uAa rfl rfl rfl (uAd rfl gU) ?_;refine uAf ?_;refine uAn (s:=⟨[(1,_,_),(3,_,_)],[(.l 1,_)],[],[]⟩) (uAj (⟨sx rfl,sx rfl,trivial⟩) (⟨sx rfl,trivial⟩) trivial) ?_;refine uAe (uAb ?_);refine uAa rfl rfl rfl (uAc rfl gU) ?_;refine uAa rfl rfl rfl (uAk rfl rfl gU gU rfl) ?_;refine uAf ?_;refine uAm rfl (fun hc=>?_) (fun hc=>?_)
  ·refine uAe (uAb ?_)
   refine uAa rfl rfl rfl (uAc rfl gU) ?_;refine uAa rfl rfl rfl (uAd rfl gU) ?_;refine uAf ?_;refine uAo ?_
   repeat (first | refine tR ?_ | refine bR ?_)
   refine uAr rfl ?_ trivial;refine uBg ?_
   rw [T.nodesE_eq,if_pos (by simpa using hc)]
  ·refine uAq ?_
   refine uAe ?_;refine uAe (uAb ?_);refine uAa rfl rfl rfl (uAd rfl gU) ?_;refine uAf ?_;refine uAx ?_
   have hz : uBX t=0:=by simpa using hc
   refine uDb (uNv t) (fun k=>k≤t.kids.length∧T.nodesEs (t.kids.take k)=0) (fun k=>t.kids.length - k) 0 ⟨Nat.zero_le _,by simp [T.nodesEs]⟩ ?_ ?_
   ·refine uAj ⟨⟨_,rfl,rfl⟩,⟨_,rfl,rfl⟩,trivial⟩ ⟨⟨_,rfl,rfl⟩,trivial⟩ trivial
   ·rintro k ⟨hk,h0⟩
    refine uAe ?_;refine uAe (uAb ?_);refine uAa rfl rfl rfl (uAc rfl gU) ?_;refine uAa rfl rfl rfl (uAg rfl gU rfl rfl) ?_;refine uAa rfl rfl rfl (uAl rfl gU rfl rfl rfl rfl) ?_;refine uAU rfl rfl rfl rfl rfl gU rfl rfl ?_ (fun hh=>by simp at hh); intro hlen;refine uAa rfl rfl rfl (uAk rfl rfl gU gU rfl) ?_;refine uAf ?_;refine uAn (s:=⟨[(1,_,_),(4,_,_),(15,_,_)],[(.l 1,_)],[],[]⟩) (uAj (⟨sx rfl,sx rfl,sx rfl,trivial⟩) (⟨sx rfl,trivial⟩) trivial) ?_;refine uAm rfl (fun hc2=>?_) (fun hc2=>?_)
    ·rw [T.rows_len] at hlen hc2
     have hlt : k < t.kids.length:=by simpa using hc2
     obtain ⟨x,hx⟩ : ∃ x,t.kids[k]? = some x:=⟨_,List.getElem?_eq_getElem hlt⟩
     have h3:=T.size_kid hx
     refine uAq ?_;refine uAe ?_;refine uAx ?_;refine uAe (uAb ?_);refine uAa rfl rfl rfl (uAg rfl gU rfl rfl) ?_;refine uAa rfl rfl rfl (uAl rfl gU rfl rfl rfl rfl) ?_;refine uAa rfl rfl rfl (uAc rfl gU) ?_;refine uAa rfl rfl rfl (uAB rfl rfl gU gU rfl rfl rfl (fun _=>T.rows_get hx)) ?_;refine uAa rfl rfl rfl (uAR rfl gU rfl rfl rfl rfl) ?_;refine uAw rfl rfl rfl rfl rfl rfl gU gU (ih x (by omega) (by omega)) rfl ?_;refine uAa rfl rfl rfl (uAd rfl gU) ?_;refine uAf ?_;refine uAn (s:=⟨[(1,_,_),(4,_,_),(5,_,_)],[(.l 1,_)],[],[]⟩) (uAj (⟨sx rfl,sx rfl,sx rfl,trivial⟩) (⟨sx rfl,trivial⟩) trivial) ?_;refine uAe (uAb ?_);refine uAa rfl rfl rfl (uAc rfl gU) ?_;refine uAa rfl rfl rfl (uAk rfl rfl gU gU rfl) ?_;refine uAf ?_;refine uAm rfl (fun hc3=>?_) (fun hc3=>?_)
     ·refine uAe (uAb ?_)
      refine uAa rfl rfl rfl (uAc rfl gU) ?_;refine uAa rfl rfl rfl (uAd rfl gU) ?_;refine uAf ?_;refine uAo ?_
      repeat (first | refine tR ?_ | refine bR ?_)
      refine uAr rfl ?_ trivial;refine uBg ?_
      rw [T.nodesE_eq t,if_neg (by simpa using hz),T.nodesEs_hit _ _ _ hx h0 (by simpa using hc3)]
     ·refine uAq ?_
      refine uAb ?_;refine uAa rfl rfl rfl (uAc rfl gU) ?_;refine uAa rfl rfl rfl (uAu rfl rfl gU gU rfl (IntWalk.i64_in _ (by omega))) ?_;refine uAa rfl rfl rfl (uAd rfl gU) ?_;refine uAf ?_;refine ⟨k + 1,⟨by omega,T.nodesEs_step _ _ _ hx h0 (by simpa using hc3)⟩,by omega,?_⟩;refine uAj ⟨⟨_,rfl,rfl⟩,⟨_,rfl,rfl⟩,trivial⟩ ⟨⟨_,rfl,rfl⟩,trivial⟩ trivial
    ·refine uAP ?_
     repeat (first | refine uAH ?_ | refine uAF ?_ | refine uAD rfl ?_)
     refine uAe (uAb ?_);refine uAa rfl rfl rfl (uAd rfl gU) ?_;refine uAf ?_;refine uAo ?_
     repeat (first | refine tR ?_ | refine bR ?_)
     refine uAr rfl ?_ trivial
     rw [T.rows_len] at hc2
     have : k=t.kids.length:=by simp at hc2; omega
     subst this
     rw [List.take_length] at h0
     refine uBg ?_
     rw [T.nodesE_eq t,if_neg (by simpa using hz),h0]
def uNz (t : T) (k : Nat) : St:={ t:=[(1,true, .v (.ptr (.l 1) 0)),(3,true,xi (T.depths (t.kids.take k))),(4,true,xi k)],bx:=[(.l 1,t.cells)],ow:=[] }
theorem uJP : ∀ (n : Nat) (t : T),t.size≤n→n≤2000000→Ctr sys 155 [xm t] [] (xi t.depth) none []:=by
 intro n
 induction n with
 | zero=>intro t h _; have := t.size_pos; omega
 | succ n ih =>
  intro t ht hn
  refine uAA Tryz.func155 rfl rfl rfl rfl rfl rfl ?_;refine uAe (uAb ?_);refine uAs rfl (uAY rfl rfl rfl rfl) ?_;refine uAa rfl rfl rfl (uAd rfl gU) ?_;refine uAf ?_;refine uAe (uAb ?_);refine uAa rfl rfl rfl (uAd rfl gU) ?_;refine uAf ?_;refine uAe ?_;refine uAe (uAb ?_);refine uAa rfl rfl rfl (uAd rfl gU) ?_;refine uAf ?_;refine uAx ?_;refine uDb (uNz t) (fun k=>k≤t.kids.length) (fun k=>t.kids.length - k) 0 (Nat.zero_le _) ?_ ?_
  ·refine uAj ⟨⟨_,rfl,rfl⟩,⟨_,rfl,rfl⟩,⟨_,rfl,rfl⟩,trivial⟩ ⟨⟨_,rfl,rfl⟩,trivial⟩ trivial
  ·intro k hk
   have hd1:=T.depths_take_le t.kids k
   have hd2:=t.depth_le
   have hd3:=t.depth_eq
   refine uAe ?_;refine uAe (uAb ?_);refine uAa rfl rfl rfl (uAc rfl gU) ?_;refine uAa rfl rfl rfl (uAg rfl gU rfl rfl) ?_;refine uAa rfl rfl rfl (uAl rfl gU rfl rfl rfl rfl) ?_;refine uAU rfl rfl rfl rfl rfl gU rfl rfl ?_ (fun hh=>by simp at hh); intro hlen;refine uAa rfl rfl rfl (uAk rfl rfl gU gU rfl) ?_;refine uAf ?_;refine uAn (s:=⟨[(1,_,_),(3,_,_),(4,_,_),(9,_,_)],[(.l 1,_)],[],[]⟩) (uAj (⟨sx rfl,sx rfl,sx rfl,sx rfl,trivial⟩) (⟨sx rfl,trivial⟩) trivial) ?_;refine uAm rfl (fun hc=>?_) (fun hc=>?_)
   ·rw [T.rows_len] at hlen hc
    have hlt : k < t.kids.length:=by simpa using hc
    obtain ⟨x,hx⟩ : ∃ x,t.kids[k]? = some x:=⟨_,List.getElem?_eq_getElem hlt⟩
    have h1:=T.depths_take _ _ _ hx
    have h3:=T.size_kid hx
    refine uAq ?_;refine uAe ?_;refine uAx ?_;refine uAb ?_;refine uAa rfl rfl rfl (uAc rfl gU) ?_;refine uAa rfl rfl rfl (uAg rfl gU rfl rfl) ?_;refine uAa rfl rfl rfl (uAl rfl gU rfl rfl rfl rfl) ?_;refine uAa rfl rfl rfl (uAc rfl gU) ?_;refine uAa rfl rfl rfl (uAB rfl rfl gU gU rfl rfl rfl (fun _=>T.rows_get hx)) ?_;refine uAa rfl rfl rfl (uAR rfl gU rfl rfl rfl rfl) ?_;refine uAw rfl rfl rfl rfl rfl rfl gU gU (ih x (by omega) (by omega)) rfl ?_;refine uAa rfl rfl rfl (uIP rfl rfl gU gU) ?_;refine uAa rfl rfl rfl (uAd rfl gU) ?_;refine uAf ?_;refine uAn (s:=⟨[(1,_,_),(3,_,_),(4,_,_)],[(.l 1,_)],[],[]⟩) (uAj (⟨sx rfl,sx rfl,sx rfl,trivial⟩) (⟨sx rfl,trivial⟩) trivial) ?_;refine uAb ?_;refine uAa rfl rfl rfl (uAc rfl gU) ?_;refine uAa rfl rfl rfl (uAu rfl rfl gU gU rfl (IntWalk.i64_in _ (by omega))) ?_;refine uAa rfl rfl rfl (uAd rfl gU) ?_;refine uAf ?_;refine ⟨k + 1,by omega,by omega,?_⟩;refine uAj ⟨⟨_,rfl,rfl⟩,⟨_,rfl,?_⟩,⟨_,rfl,rfl⟩,trivial⟩ ⟨⟨_,rfl,rfl⟩,trivial⟩ trivial
    rw [h1]; simp; omega
   ·refine uAP ?_
    repeat (first | refine uAH ?_ | refine uAF ?_ | refine uAD rfl ?_)
    refine uAe (uAb ?_);refine uAa rfl rfl rfl (uAc rfl gU) ?_;refine uAa rfl rfl rfl (uAu rfl rfl gU gU rfl (IntWalk.i64_in _ (by omega))) ?_;refine uAa rfl rfl rfl (uAd rfl gU) ?_;refine uAf ?_;refine uAo ?_
    repeat (first | refine tR ?_ | refine bR ?_)
    refine uAr rfl ?_ trivial
    rw [T.rows_len] at hc
    have : k=t.kids.length:=by simp at hc; omega
    subst this
    refine uBg ?_
    rw [List.take_length,t.depth_eq]
    simp
theorem uJ7 (t : T) (h : t.size≤2000000) : Ctr sys 121 [xm t] [] (xi (uCW t)) none []:=by
 refine uAA Tryz.func121 rfl rfl rfl rfl rfl rfl ?_;refine uAe (uAb ?_);refine uAs rfl (uAY rfl rfl rfl rfl) ?_;refine uAa rfl rfl rfl (uAd rfl gU) ?_;refine uAf ?_;refine uAe ?_;refine uAe (uAb ?_);refine uAa rfl rfl rfl (uAp rfl gU rfl rfl rfl rfl rfl) ?_;refine uAw rfl rfl rfl rfl rfl rfl gU gU (uJ9 _ t (Nat.le_refl _) h) rfl ?_;refine uAa rfl rfl rfl (uAd rfl gU) ?_;refine uAf ?_;refine uAn (s:=⟨[(1,_,_),(3,_,_)],[(.l 1,_)],[],[]⟩) (uAj (⟨sx rfl,sx rfl,trivial⟩) (⟨sx rfl,trivial⟩) trivial) ?_;refine uAe (uAb ?_);refine uAa rfl rfl rfl (uAc rfl gU) ?_;refine uAa rfl rfl rfl (uAk rfl rfl gU gU rfl) ?_;refine uAf ?_;refine uAm rfl (fun hc=>?_) (fun hc=>?_)
 ·refine uAe (uAb ?_)
  refine uAa rfl rfl rfl (uAc rfl gU) ?_;refine uAa rfl rfl rfl (uAd rfl gU) ?_;refine uAf ?_;refine uAo ?_
  repeat (first | refine tR ?_ | refine bR ?_)
  refine uAr rfl ?_ trivial;refine uBg ?_
  rw [uCW,if_pos (by simpa using hc)]
 ·refine uAq ?_
  refine uAe ?_;refine uAe (uAb ?_);refine uAa rfl rfl rfl (uAp rfl gU rfl rfl rfl rfl rfl) ?_;refine uAw rfl rfl rfl rfl rfl rfl gU gU (uFm _ t (Nat.le_refl _) h) rfl ?_;refine uAa rfl rfl rfl (uAk rfl rfl gU gU rfl) ?_;refine uAa rfl rfl rfl (uAc rfl gU) ?_;refine uAa rfl rfl rfl (uAp rfl gU rfl rfl rfl rfl rfl) ?_;refine uAw rfl rfl rfl rfl rfl rfl gU (fun hh=>gA ((fun hh=>hh) hh) (rfl)) (uJP _ t (Nat.le_refl _) h) rfl ?_;refine uAa rfl rfl rfl (uAk rfl rfl (fun hh=>hh) gU rfl) ?_;refine uAa rfl rfl rfl (uAJ rfl rfl gU (fun _ hi=>gP rfl hi)) ?_;refine uAf ?_;refine uAn (s:=⟨[(16,_,_)],[],[],[]⟩) (uAj (⟨sx rfl,trivial⟩) trivial trivial) ?_
  have hz : t.nodesE=0:=by simpa using hc
  refine uAm rfl (fun hc2=>?_) (fun hc2=>?_)
  ·refine uAe (uAb ?_)
   refine uAa rfl rfl rfl (uAd rfl gU) ?_;refine uAf ?_;refine uAo ?_
   repeat (first | refine tR ?_ | refine bR ?_)
   refine uAr rfl ?_ trivial;refine uBg ?_
   simp only [Bool.or_eq_true,decide_eq_true_eq] at hc2
   rw [uCW,if_neg (by simpa using hz),if_pos (by omega)]
  ·refine uAq ?_
   refine uAe (uAb ?_);refine uAa rfl rfl rfl (uAd rfl gU) ?_;refine uAf ?_;refine uAo ?_
   repeat (first | refine tR ?_ | refine bR ?_)
   refine uAr rfl ?_ trivial;refine uBg ?_
   simp only [Bool.or_eq_false_iff,decide_eq_false_iff_not] at hc2
   rw [uCW,if_neg (by simpa using hz),if_neg (by omega)]
def uNu (t : T) (lv n d : Int) : St:={ t:=[(1,true,xi lv),(2,true, .v (.ptr (.o 0) 0)),(3,true, .v (.ptr (.o 1) 0)),(4,true, .v (.ptr (.l 4) 0))],bx:=[(.l 4,t.cells),(.o 0,[.i .i64 (n + 1)]),(.o 1,[.i .i64 (max d lv)])],ow:=[] }
def uNy (t : T) (lv n d : Int) (k : Nat) : St:={ t:=[(1,true,xi lv),(2,true, .v (.ptr (.o 0) 0)),(3,true, .v (.ptr (.o 1) 0)),(57,true,xl t.kids),(58,true,xi t.kids.length),(59,true,xi k)],bx:=[(.o 0,[.i .i64 (T.chks (t.kids.take k) (lv + 1) (n + 1) (max d lv)).n]),(.o 1,[.i .i64 (T.chks (t.kids.take k) (lv + 1) (n + 1) (max d lv)).d])],ow:=[] }
theorem uJK : ∀ (b : Nat) (t : T) (lv n d : Int),t.size≤b→b≤2000000→0≤n→n + t.size≤2000000→0≤lv→lv + t.size≤2000000 →
  Ctr sys 153 [xm t,xi lv, .v (.ptr (.o 0) 0), .v (.ptr (.o 1) 0)] [[.i .i64 n],[.i .i64 d]] (xi t.nodesE) none [[.i .i64 (t.chk lv n d).n],[.i .i64 (t.chk lv n d).d]]:=by
 intro b
 induction b with
 | zero=>intro t _ _ _ h; have := t.size_pos; omega
 | succ b ih =>
  intro t lv n d ht hb hn hn2 hl hl2
  have hsz:=t.size_pos
  have hbad : uBX t≠0→t.nodesE=uBX t∧t.chk lv n d=⟨uBX t,n + 1,max d lv⟩:=fun h=>⟨by rw [T.nodesE_eq,if_pos h],by rw [T.chk_eq,if_pos h]⟩
  refine uAA Tryz.func153 rfl rfl rfl rfl rfl rfl ?_;refine uAe (uAb ?_);refine uAs rfl (uAY rfl rfl rfl rfl) ?_;refine uAa rfl rfl rfl (uAd rfl gU) ?_;refine uAf ?_;refine uAe (uAb ?_);refine uAa rfl rfl rfl (uAc rfl gU) ?_;refine uAa rfl rfl rfl (uAz rfl gU) ?_;refine uAa rfl rfl rfl (uAl rfl gU rfl rfl rfl rfl) ?_;refine uAa rfl rfl rfl (uAu rfl rfl gU gU rfl (IntWalk.i64_in _ (by omega))) ?_;refine uAa rfl rfl rfl (uAz rfl gU) ?_;refine uAs rfl (uAt rfl rfl rfl rfl rfl rfl rfl) ?_;refine uAf ?_;refine uAn (s:=⟨[(1,_,_),(2,_,_),(3,_,_),(4,_,_)],[(.l 4,_),(.o 0,_),(.o 1,_)],[],[]⟩) (uAj (⟨sx rfl,sx rfl,sx rfl,sx rfl,trivial⟩) (⟨sx rfl,sx rfl,sx rfl,trivial⟩) trivial) ?_;refine uAe (uAb ?_);refine uAa rfl rfl rfl (uAc rfl gU) ?_;refine uAa rfl rfl rfl (uAc rfl gU) ?_;refine uAa rfl rfl rfl (uAz rfl gU) ?_;refine uAa rfl rfl rfl (uAl rfl gU rfl rfl rfl rfl) ?_;refine uAa rfl rfl rfl (uAc rfl gU) ?_;refine uAa rfl rfl rfl (uIP rfl rfl gU gU) ?_;refine uAa rfl rfl rfl (uAz rfl gU) ?_;refine uAs rfl (uAt rfl rfl rfl rfl rfl rfl rfl) ?_;refine uAf ?_;refine uAn (s:=⟨[(1,_,_),(2,_,_),(3,_,_),(4,_,_)],[(.l 4,_),(.o 0,_),(.o 1,_)],[],[]⟩) (uAj (⟨sx rfl,sx rfl,sx rfl,sx rfl,trivial⟩) (⟨sx rfl,sx rfl,sx rfl,trivial⟩) trivial) ?_
  refine uMZ (uNu t lv n d) ((t.kind=1∨t.kind=2)∧0≤t.sort∧t.sort≤5∧t.kids.length=0∨t.kind=3∧t.sort=0) ?_ (fun hj=>?_)
  ·have h1 : ∀ h : ¬ ((t.kind=1∨t.kind=2)∧0≤t.sort∧t.sort≤5∧t.kids.length=0∨t.kind=3∧t.sort=0),t.nodesE=1∧t.chk lv n d=⟨1,n + 1,max d lv⟩:=by
    intro h
    have hq : uBX t=1:=by rw [uBX,if_neg h]
    have := hbad (by rw [hq]; omega)
    rw [hq] at this; exact this
   refine uAe (uAb ?_);refine uAa rfl rfl rfl (uAg rfl gU rfl rfl) ?_;refine uAa rfl rfl rfl (uAl rfl gU rfl rfl rfl rfl) ?_;refine uAf ?_;refine uAx ?_;refine uAe ?_;refine uAe (uAb ?_);refine uAa rfl rfl rfl (uAk rfl rfl gU gU rfl) ?_;refine uAa rfl rfl rfl (uAd rfl gU) ?_;refine uAf ?_;refine uAm rfl (fun hc=>?_) (fun hc=>?_)
   ·refine uAq ?_
    refine uAm rfl (fun hc2=>?_) (fun hc2=>?_)
    ·refine uAe (uAb ?_)
     refine uAa rfl rfl rfl (uAg rfl gU rfl rfl) ?_;refine uAa rfl rfl rfl (uAl rfl gU rfl rfl rfl rfl) ?_;refine uAa rfl rfl rfl (uAk rfl rfl gU gU rfl) ?_;refine uAa rfl rfl rfl (uAc rfl gU) ?_;refine uAa rfl rfl rfl (uAg rfl gU rfl rfl) ?_;refine uAa rfl rfl rfl (uAl rfl (fun hh=>hh) rfl rfl rfl rfl) ?_;refine uAa rfl rfl rfl (uAk rfl rfl (fun hh=>hh) gU rfl) ?_;refine uAa rfl rfl rfl (uAJ rfl rfl gU (fun _ hi=>gP rfl hi)) ?_;refine uAa rfl rfl rfl (uAc rfl gU) ?_;refine uAa rfl rfl rfl (uAg rfl gU rfl rfl) ?_;refine uAa rfl rfl rfl (uAl rfl (fun hh=>hh) rfl rfl rfl rfl) ?_;refine uAa rfl rfl rfl (uBb rfl (fun hh=>hh) rfl rfl) ?_;refine uAa rfl rfl rfl (uAk rfl rfl (fun hh=>hh) gU rfl) ?_;refine uAa rfl rfl rfl (uAJ rfl rfl gU (fun _ hi=>gP rfl hi)) ?_;refine uAf ?_;refine uAn (s:=⟨[(1,_,_),(2,_,_),(3,_,_),(4,_,_),(42,_,_)],[(.l 4,_),(.o 0,_),(.o 1,_)],[],[]⟩) (uAj (⟨sx rfl,sx rfl,sx rfl,sx rfl,sx rfl,trivial⟩) (⟨sx rfl,sx rfl,sx rfl,trivial⟩) trivial) ?_;refine uAm rfl (fun hc3=>?_) (fun hc3=>?_)
     ·refine uAe (uAb ?_)
      refine uAa rfl rfl rfl (uAd rfl gU) ?_;refine uAf ?_;refine uAo ?_
      repeat (first | refine tR ?_ | refine bR ?_)
      refine uAr rfl ?_ (⟨⟨_,rfl,?_⟩,⟨⟨_,rfl,?_⟩,trivial⟩⟩)
      all_goals (
       have hno:=h1 (by
        simp only [Bool.or_eq_true,decide_eq_true_eq,decide_eq_false_iff_not,beq_iff_eq,bne_iff_ne,ne_eq,beq_eq_false_iff_ne,T.rows_len] at hc hc3
        rintro (⟨q1,q2,q3,q4⟩ | ⟨q1,q2⟩) <;> omega)
       first | exact uBg hno.1.symm | (rw [hno.2]; done) | (rw [hno.2]; rfl))
     ·refine uAq ?_
      refine ⟨.inl ?_,?_⟩
      ·simp only [Bool.or_eq_false_iff,decide_eq_false_iff_not,beq_iff_eq,T.rows_len] at hc hc3
       omega
      ·refine uAj ⟨⟨_,rfl,rfl⟩,⟨_,rfl,rfl⟩,⟨_,rfl,rfl⟩,⟨_,rfl,rfl⟩,trivial⟩ ⟨⟨_,rfl,rfl⟩,⟨_,rfl,rfl⟩,⟨_,rfl,rfl⟩,trivial⟩ trivial
    ·rw [hc] at hc2; simp at hc2
   ·refine uAb ?_
    refine uAa rfl rfl rfl (uAk rfl rfl gU gU rfl) ?_;refine uAa rfl rfl rfl (uAd rfl gU) ?_;refine uAf ?_;refine uAn (s:=⟨[(1,_,_),(2,_,_),(3,_,_),(4,_,_),(25,_,_),(26,_,_)],[(.l 4,_),(.o 0,_),(.o 1,_)],[],[]⟩) (uAj (⟨sx rfl,sx rfl,sx rfl,sx rfl,sx rfl,sx rfl,trivial⟩) (⟨sx rfl,sx rfl,sx rfl,trivial⟩) trivial) ?_;refine uAm rfl (fun hc2=>?_) (fun hc2=>?_)
    ·refine uAe (uAb ?_)
     refine uAa rfl rfl rfl (uAg rfl gU rfl rfl) ?_;refine uAa rfl rfl rfl (uAl rfl gU rfl rfl rfl rfl) ?_;refine uAa rfl rfl rfl (uAk rfl rfl gU gU rfl) ?_;refine uAa rfl rfl rfl (uAc rfl gU) ?_;refine uAa rfl rfl rfl (uAg rfl gU rfl rfl) ?_;refine uAa rfl rfl rfl (uAl rfl (fun hh=>hh) rfl rfl rfl rfl) ?_;refine uAa rfl rfl rfl (uAk rfl rfl (fun hh=>hh) gU rfl) ?_;refine uAa rfl rfl rfl (uAJ rfl rfl gU (fun _ hi=>gP rfl hi)) ?_;refine uAa rfl rfl rfl (uAc rfl gU) ?_;refine uAa rfl rfl rfl (uAg rfl gU rfl rfl) ?_;refine uAa rfl rfl rfl (uAl rfl (fun hh=>hh) rfl rfl rfl rfl) ?_;refine uAa rfl rfl rfl (uBb rfl (fun hh=>hh) rfl rfl) ?_;refine uAa rfl rfl rfl (uAk rfl rfl (fun hh=>hh) gU rfl) ?_;refine uAa rfl rfl rfl (uAJ rfl rfl gU (fun _ hi=>gP rfl hi)) ?_;refine uAf ?_;refine uAn (s:=⟨[(1,_,_),(2,_,_),(3,_,_),(4,_,_),(42,_,_)],[(.l 4,_),(.o 0,_),(.o 1,_)],[],[]⟩) (uAj (⟨sx rfl,sx rfl,sx rfl,sx rfl,sx rfl,trivial⟩) (⟨sx rfl,sx rfl,sx rfl,trivial⟩) trivial) ?_;refine uAm rfl (fun hc3=>?_) (fun hc3=>?_)
     ·refine uAe (uAb ?_)
      refine uAa rfl rfl rfl (uAd rfl gU) ?_;refine uAf ?_;refine uAo ?_
      repeat (first | refine tR ?_ | refine bR ?_)
      refine uAr rfl ?_ (⟨⟨_,rfl,?_⟩,⟨⟨_,rfl,?_⟩,trivial⟩⟩)
      all_goals (
       have hno:=h1 (by
        simp only [Bool.or_eq_true,decide_eq_true_eq,decide_eq_false_iff_not,beq_iff_eq,bne_iff_ne,ne_eq,beq_eq_false_iff_ne,T.rows_len] at hc hc2 hc3
        rintro (⟨q1,q2,q3,q4⟩ | ⟨q1,q2⟩) <;> omega)
       first | exact uBg hno.1.symm | (rw [hno.2]; done) | (rw [hno.2]; rfl))
     ·refine uAq ?_
      refine ⟨.inl ?_,?_⟩
      ·simp only [Bool.or_eq_false_iff,decide_eq_false_iff_not,beq_iff_eq,T.rows_len] at hc2 hc3
       omega
      ·refine uAj ⟨⟨_,rfl,rfl⟩,⟨_,rfl,rfl⟩,⟨_,rfl,rfl⟩,⟨_,rfl,rfl⟩,trivial⟩ ⟨⟨_,rfl,rfl⟩,⟨_,rfl,rfl⟩,⟨_,rfl,rfl⟩,trivial⟩ trivial
    ·refine uAe (uAb ?_)
     refine uAa rfl rfl rfl (uAk rfl rfl gU gU rfl) ?_;refine uAa rfl rfl rfl (uAd rfl gU) ?_;refine uAf ?_;refine uAm rfl (fun hc3=>?_) (fun hc3=>?_)
     ·refine uAe (uAb ?_)
      refine uAa rfl rfl rfl (uAg rfl gU rfl rfl) ?_;refine uAa rfl rfl rfl (uAl rfl gU rfl rfl rfl rfl) ?_;refine uAa rfl rfl rfl (uAk rfl rfl gU gU rfl) ?_;refine uAf ?_;refine uAn (s:=⟨[(1,_,_),(2,_,_),(3,_,_),(4,_,_),(47,_,_)],[(.l 4,_),(.o 0,_),(.o 1,_)],[],[]⟩) (uAj (⟨sx rfl,sx rfl,sx rfl,sx rfl,sx rfl,trivial⟩) (⟨sx rfl,sx rfl,sx rfl,trivial⟩) trivial) ?_;refine uAm rfl (fun hc4=>?_) (fun hc4=>?_)
      ·refine uAe (uAb ?_)
       refine uAa rfl rfl rfl (uAd rfl gU) ?_;refine uAf ?_;refine uAo ?_
       repeat (first | refine tR ?_ | refine bR ?_)
       refine uAr rfl ?_ (⟨⟨_,rfl,?_⟩,⟨⟨_,rfl,?_⟩,trivial⟩⟩)
       all_goals (
        have hno:=h1 (by
         simp only [Bool.or_eq_true,decide_eq_true_eq,decide_eq_false_iff_not,beq_iff_eq,bne_iff_ne,ne_eq,beq_eq_false_iff_ne,T.rows_len] at hc hc2 hc3 hc4
         rintro (⟨q1,q2,q3,q4⟩ | ⟨q1,q2⟩) <;> omega)
        first | exact uBg hno.1.symm | (rw [hno.2]; done) | (rw [hno.2]; rfl))
      ·refine uAq ?_
       refine ⟨.inr ?_,?_⟩
       ·simp only [bne_eq_false_iff_eq,beq_iff_eq] at hc3 hc4
        exact ⟨hc3,hc4⟩
       ·refine uAj ⟨⟨_,rfl,rfl⟩,⟨_,rfl,rfl⟩,⟨_,rfl,rfl⟩,⟨_,rfl,rfl⟩,trivial⟩ ⟨⟨_,rfl,rfl⟩,⟨_,rfl,rfl⟩,⟨_,rfl,rfl⟩,trivial⟩ trivial
     ·refine uAe (uAb ?_)
      refine uAa rfl rfl rfl (uAd rfl gU) ?_;refine uAf ?_;refine uAo ?_
      repeat (first | refine tR ?_ | refine bR ?_)
      refine uAr rfl ?_ (⟨⟨_,rfl,?_⟩,⟨⟨_,rfl,?_⟩,trivial⟩⟩)
      all_goals (
       have hno:=h1 (by
        simp only [Bool.or_eq_true,decide_eq_true_eq,decide_eq_false_iff_not,beq_iff_eq,bne_iff_ne,ne_eq,beq_eq_false_iff_ne,T.rows_len] at hc hc2 hc3
        rintro (⟨q1,q2,q3,q4⟩ | ⟨q1,q2⟩) <;> omega)
       first | exact uBg hno.1.symm | (rw [hno.2]; done) | (rw [hno.2]; rfl))
  ·refine uAe ?_
   refine uAe (uAb ?_);refine uAa rfl rfl rfl (uAg rfl gU rfl rfl) ?_;refine uAa rfl rfl rfl (uAl rfl gU rfl rfl rfl rfl) ?_;refine uAw rfl rfl rfl rfl rfl rfl gU gU (uIg _) rfl ?_;refine uAa rfl rfl rfl (uA0 rfl gU) ?_;refine uAf ?_;refine uAm rfl (fun hc=>?_) (fun hc=>?_)
   ·refine uAe (uAb ?_)
    refine uAa rfl rfl rfl (uAd rfl gU) ?_;refine uAf ?_;refine uAo ?_
    repeat (first | refine tR ?_ | refine bR ?_)
    refine uAr rfl ?_ (⟨⟨_,rfl,?_⟩,⟨⟨_,rfl,?_⟩,trivial⟩⟩)
    all_goals (
     have hq : uBX t=2:=by
      simp only [Bool.not_eq_true'] at hc
      rw [uBX,if_pos hj,if_neg (by rw [hc]; simp)]
     have hno:=hbad (by rw [hq]; omega)
     rw [hq] at hno
     first | exact uBg hno.1.symm | (rw [hno.2]; done) | (rw [hno.2]; rfl))
   ·simp only [Bool.not_eq_false'] at hc
    refine uAq ?_;refine uAe ?_;refine uAe (uAb ?_);refine uAa rfl rfl rfl (uAg rfl gU rfl rfl) ?_;refine uAa rfl rfl rfl (uAl rfl gU rfl rfl rfl rfl) ?_;refine uAU rfl rfl rfl rfl rfl gU rfl rfl ?_ (fun hh=>by simp at hh); intro hlen;refine uAa rfl rfl rfl (uAk rfl rfl gU gU rfl) ?_;refine uAf ?_;refine uAn (s:=⟨[(1,_,_),(2,_,_),(3,_,_),(4,_,_),(55,_,_)],[(.l 4,_),(.o 0,_),(.o 1,_)],[],[]⟩) (uAj (⟨sx rfl,sx rfl,sx rfl,sx rfl,sx rfl,trivial⟩) (⟨sx rfl,sx rfl,sx rfl,trivial⟩) trivial) ?_;refine uAm rfl (fun hc2=>?_) (fun hc2=>?_)
    ·refine uAe (uAb ?_)
     refine uAa rfl rfl rfl (uAd rfl gU) ?_;refine uAf ?_;refine uAo ?_
     repeat (first | refine tR ?_ | refine bR ?_)
     refine uAr rfl ?_ (⟨⟨_,rfl,?_⟩,⟨⟨_,rfl,?_⟩,trivial⟩⟩)
     all_goals (
      have hq : uBX t=3:=by
       simp only [T.rows_len,decide_eq_true_eq] at hc2
       rw [uBX,if_pos hj,if_pos hc,if_pos (by omega)]
      have hno:=hbad (by rw [hq]; omega)
      rw [hq] at hno
      first | exact uBg hno.1.symm | (rw [hno.2]; done) | (rw [hno.2]; rfl))
    ·have hz : uBX t=0:=by
      simp only [T.rows_len,decide_eq_false_iff_not] at hc2
      rw [uBX,if_pos hj,if_pos hc,if_neg (by omega)]
     have hchk : t.chk lv n d=T.chks t.kids (lv + 1) (n + 1) (max d lv):=by rw [T.chk_eq,if_neg (by simpa using hz)]
     have hE : t.nodesE=T.nodesEs t.kids:=by rw [T.nodesE_eq,if_neg (by simpa using hz)]
     have hsE:=t.size_eq
     refine uAq ?_;refine uAe ?_;refine uAe (uAb ?_);refine uAa rfl rfl rfl (uAg rfl gU rfl rfl) ?_;refine uAa rfl rfl rfl (uAl rfl gU rfl rfl rfl rfl) ?_;refine uAU rfl rfl rfl rfl rfl gU rfl rfl ?_ (fun hh=>by simp at hh); intro hlen;refine uAa rfl rfl rfl (uAc rfl gU) ?_;refine uAf ?_;refine uAx ?_
     have hlk : t.kids.length≤9223372036854775807:=by rw [T.rows_len] at hlen; exact hlen
     refine uDb (uNy t lv n d) (fun k=>k≤t.kids.length∧(T.chks (t.kids.take k) (lv + 1) (n + 1) (max d lv)).e=0) (fun k=>t.kids.length - k) 0 ⟨Nat.zero_le _,by simp [T.chks]⟩ ?_ ?_
     ·refine uAj ⟨⟨_,rfl,rfl⟩,⟨_,rfl,rfl⟩,⟨_,rfl,rfl⟩,⟨_,rfl,rfl⟩,⟨_,rfl,by rw [T.rows_len]⟩,⟨_,rfl,rfl⟩,trivial⟩ ⟨⟨_,rfl,by simp [T.chks]⟩,⟨_,rfl,by simp [T.chks]⟩,trivial⟩ trivial
     ·rintro k ⟨hk,h0⟩
      have hr:=T.chks_n (t.kids.take k) (lv + 1) (n + 1) (max d lv)
      have hrE:=T.chks_e (t.kids.take k) (lv + 1) (n + 1) (max d lv)
      refine uAe (uAb ?_);refine uAa rfl rfl rfl (uAk rfl rfl gU gU rfl) ?_;refine uAf ?_;refine uAe ?_;refine uAm rfl (fun hc3=>?_) (fun hc3=>?_)
      ·have hlt : k < t.kids.length:=by simpa using hc3
       obtain ⟨x,hx⟩ : ∃ x,t.kids[k]? = some x:=⟨_,List.getElem?_eq_getElem hlt⟩
       have q1:=T.sizes_take _ _ _ hx
       have q2:=T.sizes_take_le t.kids (k + 1)
       have q4:=x.size_pos
       refine uAq ?_;refine uAe ?_;refine uAx ?_;refine uAe (uAb ?_);refine uAa rfl rfl rfl (uAB rfl rfl gU gU rfl rfl rfl (fun _=>T.rows_get hx)) ?_;refine uAa rfl rfl rfl (uAR rfl gU rfl rfl rfl rfl) ?_;refine uAs rfl (uAI rfl rfl rfl) ?_;refine uAs rfl (uAt rfl rfl rfl rfl rfl rfl rfl) ?_;refine uAf ?_;refine uAe (uAb ?_);refine uAa rfl rfl rfl (uAp rfl gU rfl rfl rfl rfl rfl) ?_;refine uAa rfl rfl rfl (uAc rfl gU) ?_;refine uAa rfl rfl rfl (uAu rfl rfl gU gU rfl (IntWalk.i64_in _ (by omega))) ?_;refine uAa rfl rfl rfl (uAc rfl gU) ?_;refine uAa rfl rfl rfl (uAc rfl gU) ?_;refine uGm [⟨.o 0,0,[.i .i64 (T.chks (t.kids.take k) (lv + 1) (n + 1) (max d lv)).n],[.i .i64 (x.chk (lv + 1) (T.chks (t.kids.take k) (lv + 1) (n + 1) (max d lv)).n (T.chks (t.kids.take k) (lv + 1) (n + 1) (max d lv)).d).n]⟩,⟨.o 1,0,[.i .i64 (T.chks (t.kids.take k) (lv + 1) (n + 1) (max d lv)).d],[.i .i64 (x.chk (lv + 1) (T.chks (t.kids.take k) (lv + 1) (n + 1) (max d lv)).n (T.chks (t.kids.take k) (lv + 1) (n + 1) (max d lv)).d).d]⟩] rfl rfl rfl rfl (by rfl) (by rfl) (by intro p hp; simp only [List.mem_cons,List.not_mem_nil,or_false] at hp; first | (subst hp; rfl) | (rcases hp with hp | hp <;> subst hp <;> rfl)) (by rfl) (ih x (lv + 1) (T.chks (t.kids.take k) (lv + 1) (n + 1) (max d lv)).n (T.chks (t.kids.take k) (lv + 1) (n + 1) (max d lv)).d (by omega) (by omega) (by omega) (by omega) (by omega) (by omega)) rfl rfl rfl ?_
       refine uAa rfl rfl rfl (uAd rfl gU) ?_;refine uAf ?_;refine uAn (s:=⟨[(1,_,_),(2,_,_),(3,_,_),(11,_,_),(57,_,_),(58,_,_),(59,_,_)],[(.o 0,_),(.o 1,_)],[],[]⟩) (uAj (⟨sx rfl,sx rfl,sx rfl,sx rfl,sx rfl,sx rfl,sx rfl,trivial⟩) (⟨sx rfl,sx rfl,trivial⟩) trivial) ?_;refine uAe (uAb ?_);refine uAa rfl rfl rfl (uAc rfl gU) ?_;refine uAa rfl rfl rfl (uAk rfl rfl gU gU rfl) ?_;refine uAf ?_;refine uAm rfl (fun hc4=>?_) (fun hc4=>?_)
       ·refine uAe (uAb ?_)
        refine uAa rfl rfl rfl (uAc rfl gU) ?_;refine uAa rfl rfl rfl (uAd rfl gU) ?_;refine uAf ?_;refine uAo ?_
        repeat (first | refine tR ?_ | refine bR ?_)
        refine uAr rfl ?_ (⟨⟨_,rfl,?_⟩,⟨⟨_,rfl,?_⟩,trivial⟩⟩)
        ·have := T.chks_hit (lv := lv + 1) (n := n + 1) (d := max d lv) hx h0 (by simpa using hc4)
         refine uBg ?_
         rw [hE,← T.chks_e t.kids (lv + 1) (n + 1) (max d lv),this,T.chk_e]
        ·have := T.chks_hit (lv := lv + 1) (n := n + 1) (d := max d lv) hx h0 (by simpa using hc4)
         rw [hchk,this]; rfl
        ·have := T.chks_hit (lv := lv + 1) (n := n + 1) (d := max d lv) hx h0 (by simpa using hc4)
         rw [hchk,this]; rfl
       ·have hx0 : x.nodesE=0:=by simpa using hc4
        have hst:=T.chks_step (lv:=lv + 1) (n:=n + 1) (d:=max d lv) hx h0 hx0
        refine uAq ?_;refine uAb ?_;refine uAa rfl rfl rfl (uAu rfl rfl gU gU rfl (IntWalk.i64_in _ (by omega))) ?_;refine uAa rfl rfl rfl (uAc rfl gU) ?_;refine uAf ?_;refine ⟨k + 1,⟨by omega,by rw [hst,T.chk_e,hx0]⟩,by omega,?_⟩;refine uAj ⟨⟨_,rfl,rfl⟩,⟨_,rfl,rfl⟩,⟨_,rfl,rfl⟩,⟨_,rfl,rfl⟩,⟨_,rfl,rfl⟩,⟨_,rfl,rfl⟩,trivial⟩ ⟨⟨_,rfl,by rw [hst]; rfl⟩,⟨_,rfl,by rw [hst]; rfl⟩,trivial⟩ trivial
      ·have hk' : k=t.kids.length:=by simp at hc3; omega
       subst hk'
       rw [List.take_length] at h0
       refine uAP ?_
       repeat (first | refine uAH ?_ | refine uAF ?_ | refine uAD rfl ?_)
       refine uAe (uAb ?_);refine uAa rfl rfl rfl (uAd rfl gU) ?_;refine uAf ?_;refine uAo ?_
       repeat (first | refine tR ?_ | refine bR ?_)
       refine uAr rfl ?_ (⟨⟨_,rfl,?_⟩,⟨⟨_,rfl,?_⟩,trivial⟩⟩)
       ·refine uBg ?_
        rw [hE,← T.chks_e t.kids (lv + 1) (n + 1) (max d lv),h0]
       ·rw [hchk,List.take_length]
       ·rw [hchk,List.take_length]
theorem uJr (t : T) (h : t.size≤900000) : Ctr sys 117 [xm t] [] (xi (uCW t)) none []:=by
 have q1:=T.chk_n t 1 0 0
 have q2:=T.chk_d t 1 0 0
 have q3:=t.depth_eq
 refine uAA Tryz.func117 rfl rfl rfl rfl rfl rfl ?_;refine uAe (uAb ?_);refine uAs rfl (uAY rfl rfl rfl rfl) ?_;refine uAa rfl rfl rfl (uAd rfl gU) ?_;refine uAf ?_;refine uAe (uAb ?_);refine uAs rfl (uAI rfl rfl rfl) ?_;refine uAs rfl (uAI rfl rfl rfl) ?_;refine uAs rfl (uAt rfl rfl rfl rfl rfl rfl rfl) ?_;refine uAs rfl (uAt rfl rfl rfl rfl rfl rfl rfl) ?_;refine uAf ?_;refine uAe ?_;refine uAe (uAb ?_);refine uAa rfl rfl rfl (uAp rfl gU rfl rfl rfl rfl rfl) ?_;refine uGm [⟨.l 3,0,[.i .i64 0],[.i .i64 (t.chk 1 0 0).n]⟩,⟨.l 4,0,[.i .i64 0],[.i .i64 (t.chk 1 0 0).d]⟩] rfl rfl rfl rfl (by rfl) (by rfl) (by intro p hp; simp only [List.mem_cons,List.not_mem_nil,or_false] at hp; first | (subst hp; rfl) | (rcases hp with hp | hp <;> subst hp <;> rfl)) (by rfl) (uJK _ t 1 0 0 (Nat.le_refl _) (by omega) (by omega) (by omega) (by omega) (by omega)) rfl rfl rfl ?_;refine uAa rfl rfl rfl (uAd rfl gU) ?_;refine uAf ?_;refine uAn (s:=⟨[(3,_,_),(4,_,_),(5,_,_)],[(.l 3,_),(.l 4,_)],[],[]⟩) (uAj (⟨sx rfl,sx rfl,sx rfl,trivial⟩) (⟨sx rfl,sx rfl,trivial⟩) trivial) ?_;refine uAe (uAb ?_);refine uAa rfl rfl rfl (uAc rfl gU) ?_;refine uAa rfl rfl rfl (uAk rfl rfl gU gU rfl) ?_;refine uAf ?_;refine uAm rfl (fun hc=>?_) (fun hc=>?_)
 ·refine uAe (uAb ?_)
  refine uAa rfl rfl rfl (uAc rfl gU) ?_;refine uAa rfl rfl rfl (uAd rfl gU) ?_;refine uAf ?_;refine uAo ?_
  repeat (first | refine tR ?_ | refine bR ?_)
  refine uAr rfl ?_ trivial;refine uBg ?_
  rw [uCW,if_pos (by simpa using hc)]
 ·have hz : t.nodesE=0:=by simpa using hc
  have q4:=q1.2.2 hz
  have q5:=q2 hz
  refine uAq ?_;refine uAe ?_;refine uAe (uAb ?_);refine uAa rfl rfl rfl (uAl rfl gU rfl rfl rfl rfl) ?_;refine uAa rfl rfl rfl (uAk rfl rfl gU gU rfl) ?_;refine uAa rfl rfl rfl (uAc rfl gU) ?_;refine uAa rfl rfl rfl (uAl rfl gU rfl rfl rfl rfl) ?_;refine uAa rfl rfl rfl (uAk rfl rfl (fun hh=>hh) gU rfl) ?_;refine uAa rfl rfl rfl (uAJ rfl rfl gU (fun _ hi=>gP rfl hi)) ?_;refine uAf ?_;refine uAn (s:=⟨[(16,_,_)],[],[],[]⟩) (uAj (⟨sx rfl,trivial⟩) trivial trivial) ?_;refine uAm rfl (fun hc2=>?_) (fun hc2=>?_)
  ·refine uAe (uAb ?_)
   refine uAa rfl rfl rfl (uAd rfl gU) ?_;refine uAf ?_;refine uAo ?_
   repeat (first | refine tR ?_ | refine bR ?_)
   refine uAr rfl ?_ trivial;refine uBg ?_
   simp only [Bool.or_eq_true,decide_eq_true_eq] at hc2
   rw [uCW,if_neg (by simpa using hz),if_pos (by omega)]
  ·refine uAq ?_
   refine uAe (uAb ?_);refine uAa rfl rfl rfl (uAd rfl gU) ?_;refine uAf ?_;refine uAo ?_
   repeat (first | refine tR ?_ | refine bR ?_)
   refine uAr rfl ?_ trivial;refine uBg ?_
   simp only [Bool.or_eq_false_iff,decide_eq_false_iff_not] at hc2
   rw [uCW,if_neg (by simpa using hz),if_neg (by omega)]
end Go.Proofs.YtnjjdbapadkomaaGreatDoor
namespace Go.Proofs.YtnjjdbapadkomaaGreatDoor
open Go Go.Abs
theorem T.len_sizes : ∀ l : List T,l.length≤T.sizes l
 | []=>by simp [T.sizes]
 | t :: l=>by have h1:=T.len_sizes l; have h2:=t.size_pos; simp only [T.sizes,List.length_cons]; omega
theorem T.rows_succ {ts : List T} {k : Nat} {x : T} (h : ts[k]? = some x) : T.rows (ts.take (k + 1))=T.rows (ts.take k)++[x.cells]:=by
 rw [T.take_succ h,T.rows_eq,T.rows_eq,List.map_append]; rfl
theorem T.rows_take {ts : List T} {k : Nat} (h : k < ts.length) : T.rows (ts.take (k + 1))=T.rows (ts.take k)++[(ts.getD k default).cells]:=T.rows_succ (T.getD_some h)
theorem uKg : ∀ (n : Nat) (t : T),t.size≤n→n≤2000000→Ctr sys 104 [xm t] [] (xi t.size) none []:=by
 intro n
 induction n with
 | zero=>intro t h; have := t.size_pos; omega
 | succ n ih =>
  intro t ht hn
  have hse:=t.size_eq
  have hrl:=T.rows_len t.kids
  have hls:=T.len_sizes t.kids
  refine uAA Tryz.func104 rfl rfl rfl rfl rfl rfl ?_;refine uAe (uAb ?_);refine uAs rfl (uAY rfl rfl rfl rfl) ?_;refine uAa rfl rfl rfl (uAd rfl gU) ?_;refine uAf ?_;refine uAe (uAb ?_);refine uAa rfl rfl rfl (uAd rfl gU) ?_;refine uAf ?_;refine uAe ?_;refine uAe (uAb ?_);refine uAa rfl rfl rfl (uAg rfl gU rfl rfl) ?_;refine uAa rfl rfl rfl (uAl rfl gU rfl rfl rfl rfl) ?_;refine uAU rfl rfl rfl rfl rfl gU rfl rfl ?_ (fun hh=>by simp at hh); intro hlen;refine uAa rfl rfl rfl (uAc rfl gU) ?_;refine uAf ?_;refine uAn (s:=⟨[(3,_,_),(7,_,_),(8,_,_),(9,_,_)],[],[],[]⟩) (uAj (⟨sx rfl,sx rfl,sx rfl,sx rfl,trivial⟩) trivial trivial) ?_;refine uAx ?_;refine uA6 (ι:=Nat) { t:=[(7,_,_),(8,_,_)],bx:=[],ow:=[] } (fun k=>[(9,true,xi (k : Int)),(3,true,xi (1 + T.sizes (t.kids.take k) : Nat))]) (fun k=>[]) (fun k=>k≤t.kids.length) (fun k=>t.kids.length - k) (0) (by simp) (uAj (⟨sx rfl,sx rfl,sx rfl,sx rfl,trivial⟩) trivial trivial) ?_
  intro k hok
  dsimp only [List.cons_append,List.nil_append]
  refine uAe (uAb ?_);refine uAa rfl rfl rfl (uAk rfl rfl gU gU rfl) ?_;refine uAf ?_;refine uAe ?_;refine uAm rfl (fun hc=>?_) (fun hc=>?_)
  ·try simp only [nn,T.rows_len,uAh] at hc
   have hlt : k < t.kids.length:=by omega
   have h1:=T.sizes_take _ _ _ (T.getD_some hlt)
   have h2:=T.getD_size hlt
   refine uAq ?_;refine uAe ?_;refine uAx ?_;refine uAe (uAb ?_);refine uAa rfl rfl rfl (uAB rfl rfl gU gU rfl rfl rfl (fun hh=>T.rows_at (by first | omega | (simp at hh; omega)))) ?_;refine uAa rfl rfl rfl (uAR rfl gU rfl rfl rfl rfl) ?_;refine uAs rfl (uAI rfl rfl rfl) ?_;refine uAs rfl (uAt rfl rfl rfl rfl rfl rfl rfl) ?_;refine uAf ?_;refine uAb ?_;refine uAa rfl rfl rfl (uAc rfl gU) ?_;refine uAa rfl rfl rfl (uAp rfl gU rfl rfl rfl rfl rfl) ?_;refine uAw rfl rfl rfl rfl rfl rfl gU gU (ih (t.kids.getD k default) (by omega) (by omega)) rfl ?_;refine uAa rfl rfl rfl (uAu rfl rfl gU gU rfl (IntWalk.i64_in _ (by omega))) ?_;refine uAa rfl rfl rfl (uAd rfl gU) ?_;refine uAf ?_;refine uAn (s:=⟨[(3,_,_),(7,_,_),(8,_,_),(9,_,_)],[],[],[]⟩) (uAj (⟨sx rfl,sx rfl,sx rfl,sx rfl,trivial⟩) trivial trivial) ?_;refine uAb ?_;refine uAa rfl rfl rfl (uAu rfl rfl gU gU rfl (IntWalk.i64_in _ (by omega))) ?_;refine uAa rfl rfl rfl (uAc rfl gU) ?_;refine uAf ?_;refine ⟨k + 1,?_,?_,uAj (⟨⟨_,rfl,?_⟩,⟨⟨_,rfl,?_⟩,⟨sx rfl,sx rfl,trivial⟩⟩⟩) trivial trivial⟩
   all_goals first | rfl | omega | exact tx (uBg (by rw [h1]; push_cast; omega))
  ·try simp only [nn,T.rows_len,uAh] at hc
   have : k=t.kids.length:=by omega
   subst this
   rw [List.take_length]
   refine uAP ?_
   repeat (first | refine uAH ?_ | refine uAF ?_ | refine uAD rfl ?_)
   refine uAe (uAb ?_);refine uAa rfl rfl rfl (uAc rfl gU) ?_;refine uAa rfl rfl rfl (uAd rfl gU) ?_;refine uAf ?_;refine uAo ?_
   repeat (first | refine tR ?_ | refine bR ?_)
   refine uAr rfl ?_ trivial;exact uBg (by omega)
theorem uJX : ∀ (n : Nat) (t : T),t.size≤n→n≤2000000→Ctr sys 174 [xm t] [] (xm t) none []:=by
 intro n
 induction n with
 | zero=>intro t h; have := t.size_pos; omega
 | succ n ih =>
  intro t ht hn
  have hse:=t.size_eq
  have hrl:=T.rows_len t.kids
  have hls:=T.len_sizes t.kids
  refine uAA Tryz.func174 rfl rfl rfl rfl rfl rfl ?_;refine uAe (uAb ?_);refine uAs rfl (uAY rfl rfl rfl rfl) ?_;refine uAs rfl (uAI rfl rfl rfl) ?_;refine uAf ?_;refine uAe (uAb ?_);refine uAa rfl rfl rfl (uAg rfl gU rfl rfl) ?_;refine uAa rfl rfl rfl (uAl rfl gU rfl rfl rfl rfl) ?_;refine uAa rfl rfl rfl (uAd rfl gU) ?_;refine uAf ?_;refine uAn (s:=⟨[(1,_,_),(2,_,_),(3,_,_)],[(.l 1,_),(.l 2,_)],[],[]⟩) (uAj (⟨sx rfl,sx rfl,sx rfl,trivial⟩) (⟨sx rfl,sx rfl,trivial⟩) trivial) ?_;refine uAe (uAb ?_);refine uAa rfl rfl rfl (uAg rfl gU rfl rfl) ?_;refine uAs rfl (uHl rfl rfl rfl rfl rfl rfl) ?_;refine uAf ?_;refine uAe ?_;refine uAe (uAb ?_);refine uAa rfl rfl rfl (uAc rfl gU) ?_;refine uAU rfl rfl rfl rfl rfl gU rfl rfl ?_ (fun hh=>by simp at hh); intro hlen;refine uAa rfl rfl rfl (uAc rfl gU) ?_;refine uAf ?_;refine uAx ?_;refine uA6 (ι:=Nat) { t:=[(1,_,_),(2,_,_),(9,_,_),(10,_,_)],bx:=[(.l 2,_)],ow:=[(.b (.l 1) 3,_)] } (fun k=>[(11,true,xi (k : Int))]) (fun k=>[((.l 1),[.i .i64 t.kind, .s t.name, .i .i64 t.sort, .sl 4 (T.rows (t.kids.take k))])]) (fun k=>k≤t.kids.length) (fun k=>t.kids.length - k) (0) (by simp) (uAj (⟨sx rfl,sx rfl,sx rfl,sx rfl,sx rfl,trivial⟩) (⟨sx rfl,sx rfl,trivial⟩) (⟨rfl,trivial⟩)) ?_
  intro k hok
  dsimp only [List.cons_append,List.nil_append]
  have hrk:=T.rows_len (t.kids.take k)
  have htk : (t.kids.take k).length≤t.kids.length:=by rw [List.length_take]; omega
  refine uAe (uAb ?_);refine uAa rfl rfl rfl (uAk rfl rfl gU gU rfl) ?_;refine uAf ?_;refine uAe ?_;refine uAm rfl (fun hc=>?_) (fun hc=>?_)
  ·try simp only [nn,T.rows_len,uAh] at hc
   have hlt : k < t.kids.length:=by omega
   have h2:=T.getD_size hlt
   refine uAq ?_;refine uAe ?_;refine uAx ?_;refine uAe (uAb ?_);refine uAa rfl rfl rfl (uAB rfl rfl gU gU rfl rfl rfl (fun hh=>T.rows_at (by first | omega | (simp at hh; omega)))) ?_;refine uAa rfl rfl rfl (uAR rfl gU rfl rfl rfl rfl) ?_;refine uAs rfl (uAI rfl rfl rfl) ?_;refine uAs rfl (uAt rfl rfl rfl rfl rfl rfl rfl) ?_;refine uAf ?_;refine awp_drawn' (by kernel_rfl) ?_;refine uAi rfl rfl rfl rfl (uAg rfl gU rfl rfl) ?_;refine uB3 rfl rfl rfl rfl rfl rfl rfl rfl rfl rfl rfl rfl ?_;refine uBi rfl rfl rfl rfl rfl rfl rfl gU rfl rfl rfl rfl rfl ?_;refine uBa rfl rfl rfl rfl rfl rfl rfl gU gU (ih (t.kids.getD k default) (by omega) (by omega)) rfl ?_;refine uCh (xs:=[_]) rfl rfl rfl rfl rfl rfl rfl rfl rfl rfl gU rfl ?_;refine uBZ rfl rfl rfl rfl rfl rfl rfl rfl rfl rfl rfl (by first | omega | (simp only [List.length_append,List.length_singleton]; omega)) (by first | omega | (simp only [List.length_append,List.length_singleton]; omega)) ?_;refine uAi rfl rfl rfl rfl (uAg rfl gU rfl rfl) ?_;refine uB5 rfl rfl rfl rfl rfl rfl rfl rfl rfl rfl rfl rfl ?_;refine uBe (by kernel_rfl) ?_;refine uAn (s:=⟨[(1,_,_),(2,_,_),(9,_,_),(10,_,_),(11,_,_)],[(.l 1,_),(.l 2,_)],[(.b (.l 1) 3,_)],[]⟩) (uAj (⟨sx rfl,sx rfl,sx rfl,sx rfl,sx rfl,trivial⟩) (⟨sx rfl,sx rfl,trivial⟩) (⟨rfl,trivial⟩)) ?_
   refine uAb ?_;refine uAa rfl rfl rfl (uAu rfl rfl gU gU rfl (IntWalk.i64_in _ (by omega))) ?_;refine uAa rfl rfl rfl (uAc rfl gU) ?_;refine uAf ?_;refine ⟨k + 1,?_,?_,uAj (⟨⟨_,rfl,?_⟩,⟨sx rfl,sx rfl,sx rfl,sx rfl,trivial⟩⟩) (⟨⟨_,rfl,?_⟩,⟨sx rfl,trivial⟩⟩) (⟨rfl,trivial⟩)⟩
   ·omega
   ·omega
   ·rfl
   ·rw [T.rows_take hlt]; rfl
  ·try simp only [nn,T.rows_len,uAh] at hc
   have : k=t.kids.length:=by omega
   subst this
   rw [List.take_length]
   refine uAP ?_
   repeat (first | refine uAH ?_ | refine uAF ?_ | refine uAD rfl ?_)
   refine uAe (uAb ?_);refine uAa rfl rfl rfl (uAp rfl gU rfl rfl rfl rfl rfl) ?_;refine uAs rfl (uAt rfl rfl rfl rfl rfl rfl rfl) ?_;refine uAf ?_;refine uAo ?_
   repeat (first | refine tR ?_ | refine bR ?_)
   refine uAr rfl ?_ trivial
   rfl
theorem uMD (t : T) (h : t.size≤2000000) : Ctr sys 162 [xm t, .v (.c (.sl 1 []))] [] (.tup [.agg t.cells, .c (.i .i64 0)]) none []:=by
 refine uAA Tryz.func162 rfl rfl rfl rfl rfl rfl ?_;refine uAe (uAb ?_);refine uAs rfl (uAY rfl rfl rfl rfl) ?_;refine uAs rfl (uAI rfl rfl rfl) ?_;refine uAa rfl rfl rfl (uAd rfl gU) ?_;refine uAf ?_;refine uAe ?_;refine uAe (uAb ?_);refine uAa rfl rfl rfl (uAc rfl gU) ?_;refine uAU rfl rfl rfl rfl rfl gU rfl rfl ?_ (fun hh=>by simp at hh); intro hlen;refine uAa rfl rfl rfl (uAc rfl gU) ?_;refine uAf ?_;refine uAn (s:=⟨[(2,_,_),(4,_,_),(8,_,_),(9,_,_),(10,_,_)],[(.l 2,_),(.l 4,_)],[],[]⟩) (uAj (⟨sx rfl,sx rfl,sx rfl,sx rfl,sx rfl,trivial⟩) (⟨sx rfl,sx rfl,trivial⟩) trivial) ?_;refine uAx ?_;refine uA6 (ι:=Nat) { t:=[(2,_,_),(4,_,_),(8,_,_),(9,_,_)],bx:=[(.l 2,_),(.l 4,_)],ow:=[] } (fun k=>[(10,true,xi (k : Int))]) (fun k=>[]) (fun k=>k=0) (fun k=>0) (0) (by simp) (uAj (⟨sx rfl,sx rfl,sx rfl,sx rfl,sx rfl,trivial⟩) (⟨sx rfl,sx rfl,trivial⟩) trivial) ?_
 intro k hok
 dsimp only [List.cons_append,List.nil_append]
 refine uAe (uAb ?_);refine uAa rfl rfl rfl (uAk rfl rfl gU gU rfl) ?_;refine uAf ?_;refine uAe ?_;refine uAm rfl (fun hc=>?_) (fun hc=>?_)
 ·try simp only [nn,T.rows_len,uAh] at hc
  exfalso; simp at hc; omega
 ·try simp only [nn,T.rows_len,uAh] at hc
  refine uAP ?_
  repeat (first | refine uAH ?_ | refine uAF ?_ | refine uAD rfl ?_)
  refine uAe (uAb ?_);refine uAa rfl rfl rfl (uAp rfl gU rfl rfl rfl rfl rfl) ?_;refine uAw rfl rfl rfl rfl rfl rfl gU gU (uJX _ _ (Nat.le_refl _) (by omega)) rfl ?_;refine uAs rfl (uAt rfl rfl rfl rfl rfl rfl rfl) ?_;refine uAa rfl rfl rfl (uAd rfl gU) ?_;refine uAf ?_;refine uAo ?_
  repeat (first | refine tR ?_ | refine bR ?_)
  refine uAr rfl ?_ trivial
  rfl
theorem uFJ (t : T) (h : t.size≤2000000) : Ctr sys 138 [xm t] [] (xm t) none []:=by
 refine uAA Tryz.func138 rfl rfl rfl rfl rfl rfl ?_;refine uAe (uAb ?_);refine uAs rfl (uAY rfl rfl rfl rfl) ?_;refine uAs rfl (uAI rfl rfl rfl) ?_;refine uAf ?_;refine uAe (uAb ?_);refine uAa rfl rfl rfl (uAp rfl gU rfl rfl rfl rfl rfl) ?_;refine uAw rfl rfl rfl rfl rfl rfl gU gU (uMD _ (by omega)) rfl ?_;refine uAa rfl rfl rfl (uAc rfl gU) ?_;refine uAa rfl rfl rfl (uAy rfl gU rfl) ?_;refine uAa rfl rfl rfl (uAy rfl gU rfl) ?_;refine uAs rfl (uAI rfl rfl rfl) ?_;refine uAs rfl (uAt rfl rfl rfl rfl rfl rfl rfl) ?_;refine uAa rfl rfl rfl (uAd rfl gU) ?_;refine uAf ?_;refine uAn (s:=⟨[(2,_,_),(3,_,_)],[(.l 2,_),(.l 3,_)],[],[]⟩) (uAj (⟨sx rfl,sx rfl,trivial⟩) (⟨sx rfl,sx rfl,trivial⟩) trivial) ?_;refine uAe (uAb ?_);refine uAa rfl rfl rfl (uAp rfl gU rfl rfl rfl rfl rfl) ?_;refine uAs rfl (uAt rfl rfl rfl rfl rfl rfl rfl) ?_;refine uAf ?_;refine uAo ?_
 repeat (first | refine tR ?_ | refine bR ?_)
 refine uAr rfl ?_ trivial
 rfl
end Go.Proofs.YtnjjdbapadkomaaGreatDoor
namespace Go.Proofs.YtnjjdbapadkomaaGreatDoor
open Go Go.Abs
namespace T
def cmp0 (a b : T) : Int :=
 if uBL a.size b.size≠0 then uBL a.size b.size else if uBL a.kind b.kind≠0 then uBL a.kind b.kind
 else if Op.bytesLess a.name b.name=true then -1 else if (!(Op.bytesLess a.name b.name || a.name == b.name))=true then 1
 else if uBL a.sort b.sort≠0 then uBL a.sort b.sort else uBL a.kids.length b.kids.length
mutual
def cmp : T→T→Int
 | mk k n s ks,b=>if cmp0 (mk k n s ks) b≠0 then cmp0 (mk k n s ks) b else cmps ks b.kids
def cmps : List T→List T→Int
 | [],_=>0
 | _ :: _,[]=>0
 | x :: xs,y :: ys=>if cmp x y≠0 then cmp x y else cmps xs ys
end
theorem cmp_eq (a b : T) : a.cmp b=if cmp0 a b≠0 then cmp0 a b else cmps a.kids b.kids:=by cases a; rw [cmp]; rfl
theorem cmps_hit : ∀ (a b : List T) (k : Nat) (x y : T),a[k]? = some x→b[k]? = some y→cmps (a.take k) (b.take k)=0→x.cmp y≠0→cmps a b=x.cmp y
 | [],b,k,x,y,h,_,_,_=>by simp at h
 | _ :: _,[],k,x,y,_,h,_,_=>by simp at h
 | a :: ar,b :: br,0,x,y,h,h',_,hx=>by simp at h h'; subst h; subst h'; rw [cmps,if_pos hx]
 | a :: ar,b :: br,k + 1,x,y,h,h',h0,hx=>by
  rw [List.take_succ_cons,List.take_succ_cons,cmps] at h0
  rw [cmps]
  by_cases ht : a.cmp b=0
  ·rw [if_neg (by simpa using ht)] at h0
   rw [if_neg (by simpa using ht)]
   exact cmps_hit ar br k x y (by simpa using h) (by simpa using h') h0 hx
  ·rw [if_pos ht] at h0; exact absurd h0 ht
theorem cmps_step : ∀ (a b : List T) (k : Nat) (x y : T),a[k]? = some x→b[k]? = some y→cmps (a.take k) (b.take k)=0→x.cmp y=0→cmps (a.take (k + 1)) (b.take (k + 1))=0
 | [],b,k,x,y,h,_,_,_=>by simp at h
 | _ :: _,[],k,x,y,_,h,_,_=>by simp at h
 | a :: ar,b :: br,0,x,y,h,h',_,hx=>by simp at h h'; subst h; subst h'; simp [cmps,hx]
 | a :: ar,b :: br,k + 1,x,y,h,h',h0,hx=>by
  rw [List.take_succ_cons,List.take_succ_cons,cmps] at h0
  rw [List.take_succ_cons,List.take_succ_cons,cmps]
  by_cases ht : a.cmp b=0
  ·rw [if_neg (by simpa using ht)] at h0
   rw [if_neg (by simpa using ht)]
   exact cmps_step ar br k x y (by simpa using h) (by simpa using h') h0 hx
  ·rw [if_pos ht] at h0; exact absurd h0 ht
end T
theorem uJp {a b : Int} (h : uBL a b=0) : a=b:=by
 unfold uBL at h; split at h
 ·omega
 ·split at h <;> omega
def uNX (a b : T) (k : Nat) : St:={ t:=[(2,true, .v (.ptr (.l 2) 0)),(3,true, .v (.ptr (.l 3) 0)),(9,true,xi k)],bx:=[(.l 2,a.cells),(.l 3,b.cells)],ow:=[] }
theorem uIm : ∀ (n : Nat) (a b : T),a.size≤n→n≤2000000→b.size≤2000000→Ctr sys 71 [xm a,xm b] [] (xi (a.cmp b)) none []:=by
 intro n
 induction n with
 | zero=>intro t _ h; have := t.size_pos; omega
 | succ n ih =>
  intro a b ha hn hb
  have hls:=T.len_sizes a.kids
  have hse:=a.size_eq
  refine uAA Tryz.func71 rfl rfl rfl rfl rfl rfl ?_;refine uAe (uAb ?_);refine uAs rfl (uAY rfl rfl rfl rfl) ?_;refine uAs rfl (uAY rfl rfl rfl rfl) ?_;refine uAa rfl rfl rfl (uAd rfl gU) ?_;refine uAf ?_;refine uAe ?_;refine uAe ?_;refine awp_drawn' (by kernel_rfl) ?_;refine uBi rfl rfl rfl rfl rfl rfl rfl gU rfl rfl rfl rfl rfl ?_;refine uBa rfl rfl rfl rfl rfl rfl rfl gU gU (uFm _ a (Nat.le_refl _) (by omega)) rfl ?_;refine uBi rfl rfl rfl rfl rfl rfl rfl gU rfl rfl rfl rfl rfl ?_;refine uBa rfl rfl rfl rfl rfl rfl rfl gU gU (uFm _ b (Nat.le_refl _) hb) rfl ?_;refine uBa rfl rfl rfl rfl rfl rfl rfl gU gU (uEe _ _) rfl ?_;refine uAi rfl rfl rfl rfl (uAd rfl gU) ?_;refine uBe (by kernel_rfl) ?_;refine uAn (s:=⟨[(2,_,_),(3,_,_),(5,_,_)],[(.l 2,_),(.l 3,_)],[],[]⟩) (uAj (⟨sx rfl,sx rfl,sx rfl,trivial⟩) (⟨sx rfl,sx rfl,trivial⟩) trivial) ?_;refine uAe (uAb ?_);refine uAa rfl rfl rfl (uAc rfl gU) ?_;refine uAa rfl rfl rfl (uAk rfl rfl gU gU rfl) ?_;refine uAf ?_;refine uAm rfl (fun hc=>?_) (fun hc=>?_)
  ·refine uAe (uAb ?_)
   refine uAa rfl rfl rfl (uAc rfl gU) ?_;refine uAa rfl rfl rfl (uAd rfl gU) ?_;refine uAf ?_;refine uAo ?_
   repeat (first | refine tR ?_ | refine bR ?_)
   refine uAr rfl ?_ trivial;refine uBg ?_
   rw [T.cmp_eq]
   have h0 : T.cmp0 a b=uBL a.size b.size:=by rw [T.cmp0,if_pos (by simpa using hc)]
   rw [h0,if_pos (by simpa using hc)]
  ·have e1 : ¬ uBL (a.size : Int) (b.size : Int)≠0:=by simpa using hc
   refine uAq ?_;refine uAe ?_;refine uAe (uAb ?_);refine uAa rfl rfl rfl (uAg rfl gU rfl rfl) ?_;refine uAa rfl rfl rfl (uAl rfl gU rfl rfl rfl rfl) ?_;refine uAa rfl rfl rfl (uAg rfl gU rfl rfl) ?_;refine uAa rfl rfl rfl (uAl rfl gU rfl rfl rfl rfl) ?_;refine uAw rfl rfl rfl rfl rfl rfl gU gU (uEe _ _) rfl ?_;refine uAa rfl rfl rfl (uAd rfl gU) ?_;refine uAf ?_;refine uAn (s:=⟨[(2,_,_),(3,_,_),(6,_,_)],[(.l 2,_),(.l 3,_)],[],[]⟩) (uAj (⟨sx rfl,sx rfl,sx rfl,trivial⟩) (⟨sx rfl,sx rfl,trivial⟩) trivial) ?_;refine uAe (uAb ?_);refine uAa rfl rfl rfl (uAc rfl gU) ?_;refine uAa rfl rfl rfl (uAk rfl rfl gU gU rfl) ?_;refine uAf ?_;refine uAm rfl (fun hc2=>?_) (fun hc2=>?_)
   ·refine uAe (uAb ?_)
    refine uAa rfl rfl rfl (uAc rfl gU) ?_;refine uAa rfl rfl rfl (uAd rfl gU) ?_;refine uAf ?_;refine uAo ?_
    repeat (first | refine tR ?_ | refine bR ?_)
    refine uAr rfl ?_ trivial;refine uBg ?_
    have h0 : T.cmp0 a b=uBL a.kind b.kind:=by rw [T.cmp0,if_neg e1,if_pos (by simpa using hc2)]
    rw [T.cmp_eq,h0,if_pos (by simpa using hc2)]
   ·have e2 : ¬ uBL a.kind b.kind≠0:=by simpa using hc2
    refine uAq ?_;refine uAe ?_;refine uAe (uAb ?_);refine uAa rfl rfl rfl (uAg rfl gU rfl rfl) ?_;refine uAa rfl rfl rfl (uAl rfl gU rfl rfl rfl rfl) ?_;refine uAa rfl rfl rfl (uAg rfl gU rfl rfl) ?_;refine uAa rfl rfl rfl (uAl rfl gU rfl rfl rfl rfl) ?_;refine uAa rfl rfl rfl (uA4 rfl rfl gU gU rfl) ?_;refine uAf ?_;refine uAn (s:=⟨[(2,_,_),(3,_,_),(31,_,_)],[(.l 2,_),(.l 3,_)],[],[]⟩) (uAj (⟨sx rfl,sx rfl,sx rfl,trivial⟩) (⟨sx rfl,sx rfl,trivial⟩) trivial) ?_;refine uAm rfl (fun hc3=>?_) (fun hc3=>?_)
    ·refine uAe (uAb ?_)
     refine uAa rfl rfl rfl (uAd rfl gU) ?_;refine uAf ?_;refine uAo ?_
     repeat (first | refine tR ?_ | refine bR ?_)
     refine uAr rfl ?_ trivial;refine uBg ?_
     have h0 : T.cmp0 a b = -1:=by rw [T.cmp0,if_neg e1,if_neg e2,if_pos hc3]
     rw [T.cmp_eq,h0]; rfl
    ·refine uAq ?_
     refine uAe ?_;refine uAe (uAb ?_);refine uAa rfl rfl rfl (uAg rfl gU rfl rfl) ?_;refine uAa rfl rfl rfl (uAl rfl gU rfl rfl rfl rfl) ?_;refine uAa rfl rfl rfl (uAg rfl gU rfl rfl) ?_;refine uAa rfl rfl rfl (uAl rfl gU rfl rfl rfl rfl) ?_;refine uAa rfl rfl rfl (uA4 rfl rfl gU gU rfl) ?_;refine uAf ?_;refine uAn (s:=⟨[(2,_,_),(3,_,_),(36,_,_)],[(.l 2,_),(.l 3,_)],[],[]⟩) (uAj (⟨sx rfl,sx rfl,sx rfl,trivial⟩) (⟨sx rfl,sx rfl,trivial⟩) trivial) ?_;refine uAm rfl (fun hc4=>?_) (fun hc4=>?_)
     ·refine uAe (uAb ?_)
      refine uAa rfl rfl rfl (uAd rfl gU) ?_;refine uAf ?_;refine uAo ?_
      repeat (first | refine tR ?_ | refine bR ?_)
      refine uAr rfl ?_ trivial;refine uBg ?_
      have h0 : T.cmp0 a b=1:=by rw [T.cmp0,if_neg e1,if_neg e2,if_neg (by rw [hc3]; simp),if_pos hc4]
      rw [T.cmp_eq,h0]; rfl
     ·refine uAq ?_
      refine uAe ?_;refine uAe (uAb ?_);refine uAa rfl rfl rfl (uAg rfl gU rfl rfl) ?_;refine uAa rfl rfl rfl (uAl rfl gU rfl rfl rfl rfl) ?_;refine uAa rfl rfl rfl (uAg rfl gU rfl rfl) ?_;refine uAa rfl rfl rfl (uAl rfl gU rfl rfl rfl rfl) ?_;refine uAw rfl rfl rfl rfl rfl rfl gU gU (uEe _ _) rfl ?_;refine uAa rfl rfl rfl (uAd rfl gU) ?_;refine uAf ?_;refine uAn (s:=⟨[(2,_,_),(3,_,_),(7,_,_)],[(.l 2,_),(.l 3,_)],[],[]⟩) (uAj (⟨sx rfl,sx rfl,sx rfl,trivial⟩) (⟨sx rfl,sx rfl,trivial⟩) trivial) ?_;refine uAe (uAb ?_);refine uAa rfl rfl rfl (uAc rfl gU) ?_;refine uAa rfl rfl rfl (uAk rfl rfl gU gU rfl) ?_;refine uAf ?_;refine uAm rfl (fun hc5=>?_) (fun hc5=>?_)
      ·refine uAe (uAb ?_)
       refine uAa rfl rfl rfl (uAc rfl gU) ?_;refine uAa rfl rfl rfl (uAd rfl gU) ?_;refine uAf ?_;refine uAo ?_
       repeat (first | refine tR ?_ | refine bR ?_)
       refine uAr rfl ?_ trivial;refine uBg ?_
       have h0 : T.cmp0 a b=uBL a.sort b.sort:=by rw [T.cmp0,if_neg e1,if_neg e2,if_neg (by rw [hc3]; simp),if_neg (by rw [hc4]; simp),if_pos (by simpa using hc5)]
       rw [T.cmp_eq,h0,if_pos (by simpa using hc5)]
      ·have e5 : ¬ uBL a.sort b.sort≠0:=by simpa using hc5
       have h0 : T.cmp0 a b=uBL a.kids.length b.kids.length:=by rw [T.cmp0,if_neg e1,if_neg e2,if_neg (by rw [hc3]; simp),if_neg (by rw [hc4]; simp),if_neg e5]
       refine uAq ?_;refine uAe ?_;refine uAe (uAb ?_);refine uAa rfl rfl rfl (uAg rfl gU rfl rfl) ?_;refine uAa rfl rfl rfl (uAl rfl gU rfl rfl rfl rfl) ?_;refine uAU rfl rfl rfl rfl rfl gU rfl rfl ?_ (fun hh=>by simp at hh); intro hlen;refine uAa rfl rfl rfl (uAg rfl gU rfl rfl) ?_;refine uAa rfl rfl rfl (uAl rfl gU rfl rfl rfl rfl) ?_;refine uAU rfl rfl rfl rfl rfl gU rfl rfl ?_ (fun hh=>by simp at hh); intro hlen;refine uAw rfl rfl rfl rfl rfl rfl gU gU (uEe _ _) rfl ?_;refine uAa rfl rfl rfl (uAd rfl gU) ?_;refine uAf ?_;refine uAn (s:=⟨[(2,_,_),(3,_,_),(8,_,_)],[(.l 2,_),(.l 3,_)],[],[]⟩) (uAj (⟨sx rfl,sx rfl,sx rfl,trivial⟩) (⟨sx rfl,sx rfl,trivial⟩) trivial) ?_;refine uAe (uAb ?_);refine uAa rfl rfl rfl (uAc rfl gU) ?_;refine uAa rfl rfl rfl (uAk rfl rfl gU gU rfl) ?_;refine uAf ?_;refine uAm rfl (fun hc6=>?_) (fun hc6=>?_)
       ·refine uAe (uAb ?_)
        refine uAa rfl rfl rfl (uAc rfl gU) ?_;refine uAa rfl rfl rfl (uAd rfl gU) ?_;refine uAf ?_;refine uAo ?_
        repeat (first | refine tR ?_ | refine bR ?_)
        refine uAr rfl ?_ trivial;refine uBg ?_
        simp only [T.rows_len] at hc6 ⊢
        rw [T.cmp_eq,h0,if_pos (by simpa using hc6)]
       ·simp only [T.rows_len] at hc6
        have e6 : uBL (a.kids.length : Int) (b.kids.length : Int)=0:=by simpa using hc6
        have hll:=uJp e6
        have hll' : a.kids.length=b.kids.length:=by omega
        have hC : a.cmp b=T.cmps a.kids b.kids:=by rw [T.cmp_eq,h0,if_neg (by simpa using e6)]
        refine uAq ?_;refine uAe ?_;refine uAe (uAb ?_);refine uAa rfl rfl rfl (uAd rfl gU) ?_;refine uAf ?_;refine uAx ?_;refine uDb (uNX a b) (fun k=>k≤a.kids.length∧T.cmps (a.kids.take k) (b.kids.take k)=0) (fun k=>a.kids.length - k) 0 ⟨Nat.zero_le _,by simp [T.cmps]⟩ ?_ ?_
        ·refine uAj ⟨⟨_,rfl,rfl⟩,⟨_,rfl,rfl⟩,⟨_,rfl,rfl⟩,trivial⟩ ⟨⟨_,rfl,rfl⟩,⟨_,rfl,rfl⟩,trivial⟩ trivial
        ·rintro k ⟨hk,hz⟩
         refine uAe ?_;refine uAe (uAb ?_);refine uAa rfl rfl rfl (uAc rfl gU) ?_;refine uAa rfl rfl rfl (uAg rfl gU rfl rfl) ?_;refine uAa rfl rfl rfl (uAl rfl gU rfl rfl rfl rfl) ?_;refine uAU rfl rfl rfl rfl rfl gU rfl rfl ?_ (fun hh=>by simp at hh); intro hlen;refine uAa rfl rfl rfl (uAk rfl rfl gU gU rfl) ?_;refine uAf ?_;refine uAn (s:=⟨[(2,_,_),(3,_,_),(9,_,_),(59,_,_)],[(.l 2,_),(.l 3,_)],[],[]⟩) (uAj (⟨sx rfl,sx rfl,sx rfl,sx rfl,trivial⟩) (⟨sx rfl,sx rfl,trivial⟩) trivial) ?_;refine uAm rfl (fun hc7=>?_) (fun hc7=>?_)
         ·rw [T.rows_len] at hc7
          have hlt : k < a.kids.length:=by simpa using hc7
          obtain ⟨x,hx⟩ : ∃ x,a.kids[k]? = some x:=⟨_,List.getElem?_eq_getElem hlt⟩
          obtain ⟨y,hy⟩ : ∃ y,b.kids[k]? = some y:=⟨_,List.getElem?_eq_getElem (by omega)⟩
          have q1:=T.size_kid hx
          have q2:=T.size_kid hy
          refine uAq ?_;refine uAe ?_;refine uAx ?_;refine uAe ?_;refine awp_drawn' (by kernel_rfl) ?_;refine uAi rfl rfl rfl rfl (uAg rfl gU rfl rfl) ?_;refine uAW rfl rfl rfl rfl rfl rfl rfl gU rfl rfl rfl rfl ?_;refine uAi rfl rfl rfl rfl (uAc rfl gU) ?_;refine uAi rfl rfl rfl rfl (uAB rfl rfl gU gU rfl rfl rfl (fun _=>T.rows_get hx)) ?_;refine uAi rfl rfl rfl rfl (uAR rfl gU rfl rfl rfl rfl) ?_;refine uAi rfl rfl rfl rfl (uAg rfl gU rfl rfl) ?_;refine uAW rfl rfl rfl rfl rfl rfl rfl gU rfl rfl rfl rfl ?_;refine uAi rfl rfl rfl rfl (uAc rfl gU) ?_;refine uAi rfl rfl rfl rfl (uAB rfl rfl gU gU rfl rfl rfl (fun _=>T.rows_get hy)) ?_;refine uAi rfl rfl rfl rfl (uAR rfl gU rfl rfl rfl rfl) ?_;refine uBa rfl rfl rfl rfl rfl rfl rfl gU gU (ih x y (by omega) (by omega) (by omega)) rfl ?_;refine uAi rfl rfl rfl rfl (uAd rfl gU) ?_;refine uBe (by kernel_rfl) ?_;refine uAn (s:=⟨[(2,_,_),(3,_,_),(9,_,_),(10,_,_)],[(.l 2,_),(.l 3,_)],[],[]⟩) (uAj (⟨sx rfl,sx rfl,sx rfl,sx rfl,trivial⟩) (⟨sx rfl,sx rfl,trivial⟩) trivial) ?_;refine uAe (uAb ?_);refine uAa rfl rfl rfl (uAc rfl gU) ?_;refine uAa rfl rfl rfl (uAk rfl rfl gU gU rfl) ?_;refine uAf ?_;refine uAm rfl (fun hc8=>?_) (fun hc8=>?_)
          ·refine uAe (uAb ?_)
           refine uAa rfl rfl rfl (uAc rfl gU) ?_;refine uAa rfl rfl rfl (uAd rfl gU) ?_;refine uAf ?_;refine uAo ?_
           repeat (first | refine tR ?_ | refine bR ?_)
           refine uAr rfl ?_ trivial;exact uBg (by rw [hC,T.cmps_hit _ _ _ _ _ hx hy hz (by simpa using hc8)])
          ·refine uAq ?_
           refine uAb ?_;refine uAa rfl rfl rfl (uAc rfl gU) ?_;refine uAa rfl rfl rfl (uAu rfl rfl gU gU rfl (IntWalk.i64_in _ (by omega))) ?_;refine uAa rfl rfl rfl (uAd rfl gU) ?_;refine uAf ?_;refine ⟨k + 1,⟨by omega,T.cmps_step _ _ _ _ _ hx hy hz (by simpa using hc8)⟩,by omega,?_⟩;refine uAj ⟨⟨_,rfl,rfl⟩,⟨_,rfl,rfl⟩,⟨_,rfl,rfl⟩,trivial⟩ ⟨⟨_,rfl,rfl⟩,⟨_,rfl,rfl⟩,trivial⟩ trivial
         ·refine uAP ?_
          repeat (first | refine uAH ?_ | refine uAF ?_ | refine uAD rfl ?_)
          refine uAe (uAb ?_);refine uAa rfl rfl rfl (uAd rfl gU) ?_;refine uAf ?_;refine uAo ?_
          repeat (first | refine tR ?_ | refine bR ?_)
          refine uAr rfl ?_ trivial
          rw [T.rows_len] at hc7
          have hke : k=a.kids.length:=by simp at hc7; omega
          subst hke
          rw [List.take_length,hll',List.take_length] at hz
          exact uBg (by rw [hC,hz])
theorem uEh (a b : T) (ha : a.size≤2000000) (hb : b.size≤2000000) : Ctr sys 20 [xm a,xm b] [] (xb (a.cmp b == 0)) none []:=by
 refine uAA Tryz.func20 rfl rfl rfl rfl rfl rfl ?_;refine uAe (uAb ?_);refine uAs rfl (uAY rfl rfl rfl rfl) ?_;refine uAs rfl (uAY rfl rfl rfl rfl) ?_;refine uAa rfl rfl rfl (uAd rfl gU) ?_;refine uAf ?_;refine uAe (uAb ?_);refine uAa rfl rfl rfl (uAp rfl gU rfl rfl rfl rfl rfl) ?_;refine uAa rfl rfl rfl (uAp rfl gU rfl rfl rfl rfl rfl) ?_;refine uAw rfl rfl rfl rfl rfl rfl gU gU (uIm _ a b (Nat.le_refl _) ha hb) rfl ?_;refine uAa rfl rfl rfl (uAk rfl rfl gU gU rfl) ?_;refine uAa rfl rfl rfl (uAd rfl gU) ?_;refine uAf ?_;refine uAo ?_
 repeat (first | refine tR ?_ | refine bR ?_)
 refine uAr rfl ?_ trivial
 rfl
end Go.Proofs.YtnjjdbapadkomaaGreatDoor
namespace Go.Proofs.YtnjjdbapadkomaaGreatDoor
open Go Go.Abs
end Go.Proofs.YtnjjdbapadkomaaGreatDoor
namespace Go.Proofs.YtnjjdbapadkomaaGreatDoor
open Go Go.Abs
def Tk.nl (t : Tk) (b : Bool) : Tk:=if b=true then t else t.onl 0
def uBG (s : List UInt8) : List UInt8:=s.take (uCb true s)
theorem uDO {i : Bool} {c : UInt8} {r : List UInt8} (h1 : ¬(i=true∧c.toNat=92)) (h2 : ¬((if c.toNat=34 then !i else i)=false∧c.toNat=35∧(r.getD 0 0).toNat=35)) :
  uCb i (c :: r)=uCb (if c.toNat=34 then !i else i) r + 1:=by
 cases r with
 | nil=>simp [uCb]
 | cons d l =>
  rw [List.getD_cons_zero] at h2
  rw [uCb,if_neg h1,if_neg h2]
theorem uCi {c : UInt8} {r : List UInt8} (hc : c.toNat≠34) (h2 : ¬(c.toNat=35∧(r.getD 0 0).toNat=35)) : uA8 (c :: r)=c :: uA8 r:=by
 unfold uA8
 rw [uDO (by simp) (by rw [if_neg hc]; rintro ⟨-, q⟩; exact h2 q),if_neg hc,List.take_succ_cons]
theorem uCU {c : UInt8} {r : List UInt8} (hc : c.toNat=34) : uA8 (c :: r)=c :: uBG r:=by
 unfold uA8 uBG
 rw [uDO (by simp) (by rintro ⟨-, q,-⟩; omega),if_pos hc,List.take_succ_cons]; rfl
theorem uFB {c : UInt8} {r : List UInt8} (hc : c.toNat=35) (hd : (r.getD 0 0).toNat=35) : uA8 (c :: r)=[]:=by
 cases r with
 | nil=>simp at hd
 | cons d l =>
  rw [List.getD_cons_zero] at hd
  unfold uA8
  rw [uCb,if_neg (by simp),if_pos ⟨by rw [if_neg (by omega)],hc,hd⟩]; rfl
theorem uII {c : UInt8} {r : List UInt8} (hc : c.toNat=34) : uBG (c :: r)=c :: uA8 r:=by
 unfold uA8 uBG
 rw [uDO (by rintro ⟨-, q⟩; omega) (by rintro ⟨-, q,-⟩; omega),if_pos hc,List.take_succ_cons]; rfl
theorem uC7 {c : UInt8} {r : List UInt8} (h1 : c.toNat≠34) (h2 : c.toNat≠92) : uBG (c :: r)=c :: uBG r:=by
 unfold uBG
 rw [uDO (by rintro ⟨-, q⟩; omega) (by rw [if_neg h1]; rintro ⟨q,-⟩; simp at q),if_neg h1,List.take_succ_cons]
theorem uKY {c d : UInt8} {r : List UInt8} (h : c.toNat=92) : uBG (c :: d :: r)=c :: d :: uBG r:=by
 unfold uBG
 rw [uCb,if_pos ⟨rfl,h⟩]; rfl
theorem uLh (c : UInt8) : uBG [c]=[c]:=by unfold uBG; rw [uCb]; rfl
theorem uFs : uA8 []=[]:=rfl
theorem uK7 : uBG []=[]:=rfl
theorem uKC (b : UInt8) (l : List UInt8) : ([35,35] : List UInt8).isPrefixOf (b :: l)=(decide (b.toNat=35) && decide ((l.getD 0 0).toNat=35)):=by
 have hb : ∀ x : UInt8,((35 : UInt8) == x)=decide (x.toNat=35):=by
  intro x
  rw [Bool.eq_iff_iff]
  simp only [beq_iff_eq,decide_eq_true_eq]
  exact ⟨fun h=>by subst h; rfl,fun h=>UInt8.toNat_inj.1 (by rw [h]; rfl)⟩
 cases l with
 | nil=>simp [List.isPrefixOf,hb]
 | cons c r=>simp [List.isPrefixOf,hb]
theorem uH2 : ∀ (l : List UInt8),wdN (uA8 l)=nmP l∧(uA8 l).take (nmP l)=l.take (nmP l)∧(uA8 l).drop (nmP l)=uA8 (l.drop (nmP l))
 | []=>by simp [uFs,wdN,nmP]
 | b :: r=>by
  by_cases h : uBM (b.toNat : Int)=true ∧ ¬(b.toNat=35∧(r.getD 0 0).toNat=35)
  ·have h34 : b.toNat≠34:=by
    intro q
    have := h.1
    rw [q] at this
    revert this; decide
   obtain ⟨i1,i2,i3⟩:=uH2 r
   rw [uCi h34 h.2,wdN,if_pos h.1,nmP,if_pos h,i1]
   exact ⟨rfl,by rw [List.take_succ_cons,List.take_succ_cons,i2],by rw [List.drop_succ_cons,List.drop_succ_cons,i3]⟩
  ·have hn : nmP (b :: r)=0:=by rw [nmP,if_neg h]
   rw [hn]
   refine ⟨?_,by simp,by simp⟩
   by_cases hq : b.toNat=35∧(r.getD 0 0).toNat=35
   ·rw [uFB hq.1 hq.2]; rfl
   ·have hp : ¬uBM (b.toNat : Int)=true:=fun q=>h ⟨q,hq⟩
    by_cases h34 : b.toNat=34
    ·rw [uCU h34,wdN,if_neg hp]
    ·rw [uCi h34 hq,wdN,if_neg hp]
theorem uIK : ∀ (l : List UInt8) (n : Nat) (v : Int),numA (uA8 l) n v=numA l n v∧((numA l n v).1=true → ∃ j,(numA l n v).2.1=n + j∧(uA8 l).drop j=uA8 (l.drop j))
 | [],n,v=>by rw [uFs]; exact ⟨rfl,fun _=>⟨0,rfl,rfl⟩⟩
 | b :: r,n,v=>by
  by_cases h : uBu (b.toNat : Int)=true
  ·have hd : (48 : Int)≤b.toNat∧(b.toNat : Int)≤57:=by simpa [uBu] using h
   rw [uCi (by omega) (by omega),numA,if_pos h,numA,if_pos h]
   split
   ·exact ⟨rfl,fun q=>by simp at q⟩
   ·obtain ⟨i1,i2⟩:=uIK r (n + 1) (10 * v + ((b.toNat : Int) - 48))
    refine ⟨i1,fun q=>?_⟩
    obtain ⟨j,q1,q2⟩:=i2 q
    exact ⟨j + 1,by omega,by rw [List.drop_succ_cons,List.drop_succ_cons,q2]⟩
  ·have e : numA (b :: r) n v=(true,n,v):=by rw [numA,if_neg h]
   rw [e]
   refine ⟨?_,fun _=>⟨0,rfl,rfl⟩⟩
   by_cases hq : b.toNat=35∧(r.getD 0 0).toNat=35
   ·rw [uFB hq.1 hq.2]; rfl
   ·by_cases h34 : b.toNat=34
    ·rw [uCU h34,numA,if_neg h]
    ·rw [uCi h34 hq,numA,if_neg h]
theorem uD6 {c : UInt8} (h : hexB c=true) : c.toNat≠34∧c.toNat≠92:=by
 simp [hexB] at h
 omega
theorem take_getD' {α : Type} {l : List α} {d : α} {k j : Nat} (h : j < (l.take k).length) : (l.take k).getD j d=l.getD j d∧j < l.length:=by
 rw [List.length_take] at h
 refine ⟨?_,by omega⟩
 simp only [List.getD_eq_getElem?_getD]; rw [List.getElem?_take,if_pos (by omega)]
theorem uMH (d : UInt8) (r : List UInt8) : escE (d :: uBG r)=escE (d :: r)∧((escE (d :: r)).2≠0→(d :: uBG r).drop (escE (d :: r)).2=uBG ((d :: r).drop (escE (d :: r)).2)):=by
 have hx : (2≤(uBG r).length∧hexB ((uBG r).getD 0 0)=true∧hexB ((uBG r).getD 1 0)=true) ↔ (2≤r.length∧hexB (r.getD 0 0)=true∧hexB (r.getD 1 0)=true):=by
  constructor
  ·rintro ⟨q1,q2,q3⟩
   obtain ⟨e1,e2⟩:=take_getD' (l:=r) (d:=0) (k:=uCb true r) (j:=0) (by show 0 < (uBG r).length; omega)
   obtain ⟨e3,e4⟩:=take_getD' (l:=r) (d:=0) (k:=uCb true r) (j:=1) (by show 1 < (uBG r).length; omega)
   exact ⟨by omega,by rw [← e1]; exact q2,by rw [← e3]; exact q3⟩
  ·rintro ⟨q1,q2,q3⟩
   match r,q1 with
   | a :: b :: r,_ =>
    simp only [List.getD_cons_zero,List.getD_cons_succ] at q2 q3
    rw [uC7 (uD6 q2).1 (uD6 q2).2,uC7 (uD6 q3).1 (uD6 q3).2]
    exact ⟨by simp,q2,q3⟩
 by_cases hh : 2≤r.length∧hexB (r.getD 0 0)=true∧hexB (r.getD 1 0)=true
 ·have hb : ∃ a b t,r=a :: b :: t∧uBG r=a :: b :: uBG t:=by
   match r,hh with
   | a :: b :: t,⟨_,q2,q3⟩ =>
    simp only [List.getD_cons_zero,List.getD_cons_succ] at q2 q3
    exact ⟨a,b,t,rfl,by rw [uC7 (uD6 q2).1 (uD6 q2).2,uC7 (uD6 q3).1 (uD6 q3).2]⟩
  obtain ⟨a,b,t,rfl,hb⟩:=hb
  have e : escE (d :: uBG (a :: b :: t))=escE (d :: a :: b :: t):=by
   rw [hb,escE,escE]
   simp
  refine ⟨e,fun _=>?_⟩
  have h3 : (escE (d :: a :: b :: t)).2=1∨(escE (d :: a :: b :: t)).2=3∨(escE (d :: a :: b :: t)).2=0:=by
   rw [escE]
   repeat' split
   all_goals simp
  rcases h3 with h | h | h
  ·rw [h]; rfl
  ·rw [h,hb]; rfl
  ·contradiction
 ·have hh' : ¬(2≤(uBG r).length∧hexB ((uBG r).getD 0 0)=true∧hexB ((uBG r).getD 1 0)=true):=fun q=>hh (hx.1 q)
  have key : ∀ l : List UInt8,¬(2≤l.length∧hexB (l.getD 0 0)=true∧hexB (l.getD 1 0)=true)→escE (d :: l)=if d.toNat=110 then (10,1) else if d.toNat=116 then (9,1) else if d.toNat=34∨d.toNat=92 then (d,1) else (0,0):=by
   intro l hl
   rw [escE]
   repeat' (split <;> try rfl)
   rename_i q
   exact absurd q.2 hl
  rw [key _ hh',key _ hh]
  refine ⟨rfl,fun q=>?_⟩
  have h1 : (if d.toNat=110 then ((10 : UInt8),1) else if d.toNat=116 then (9,1) else if d.toNat=34∨d.toNat=92 then (d,1) else (0,0)).2=1:=by
   revert q
   repeat' split
   all_goals simp
  rw [h1]; rfl
theorem uGQ : ∀ (N : Nat) (r : List UInt8),r.length≤N → ∀ (n m i : Nat) (out : List UInt8),r.length < n→(uBG r).length < m →
  litA m (uBG r) i out=litA n r i out∧((litA n r i out).2≠0 → ∃ j,(litA n r i out).2=i + j∧(uBG r).drop j=uA8 (r.drop j))
 | N,[],_,n,m,i,out,hn,hm=>by
  obtain ⟨n,rfl⟩ : ∃ k,n=k + 1:=⟨n - 1,by simp at hn; omega⟩
  obtain ⟨m,rfl⟩ : ∃ k,m=k + 1:=⟨m - 1,by omega⟩
  rw [uK7]
  exact ⟨rfl,fun q=>by simp [litA] at q⟩
 | 0,c :: r,h,_,_,_,_,_,_=>by simp at h
 | N + 1,c :: r,h,n,m,i,out,hn,hm=>by
  obtain ⟨n,rfl⟩ : ∃ k,n=k + 1:=⟨n - 1,by omega⟩
  obtain ⟨m,rfl⟩ : ∃ k,m=k + 1:=⟨m - 1,by omega⟩
  simp only [List.length_cons] at h hn
  by_cases h34 : c.toNat=34
  ·rw [uII h34,litA,if_pos h34,litA,if_pos h34]
   exact ⟨rfl,fun _=>⟨1,rfl,rfl⟩⟩
  by_cases h92 : c.toNat=92
  ·cases r with
   | nil =>
    rw [uLh,litA,if_neg h34,if_pos h92,litA,if_neg h34,if_pos h92]
    exact ⟨rfl,fun q=>by simp [escE] at q⟩
   | cons d r =>
    obtain ⟨e1,e2⟩:=uMH d r
    rw [uKY h92] at hm ⊢
    rw [litA,if_neg h34,if_pos h92,litA,if_neg h34,if_pos h92,e1]
    split
    ·exact ⟨rfl,fun q=>by simp at q⟩
    ·rename_i hz
     rw [e2 hz]
     have hle:=uIj (d :: r)
     have hl2 : (uBG ((d :: r).drop (escE (d :: r)).2)).length < m:=by
      rw [← e2 hz,List.length_drop]
      simp only [List.length_cons] at hm ⊢
      omega
     obtain ⟨i1,i2⟩:=uGQ N ((d :: r).drop (escE (d :: r)).2) (by rw [List.length_drop]; omega) n m (i + 1 + (escE (d :: r)).2) (out++[(escE (d :: r)).1]) (by rw [List.length_drop]; omega) hl2
     refine ⟨i1,fun q=>?_⟩
     obtain ⟨j,q1,q2⟩:=i2 q
     refine ⟨1 + (escE (d :: r)).2 + j,by omega,?_⟩
     rw [show 1 + (escE (d :: r)).2 + j=((escE (d :: r)).2 + j) + 1 by omega,List.drop_succ_cons,List.drop_succ_cons,← List.drop_drop,← List.drop_drop,e2 hz,q2]
  ·rw [uC7 h34 h92] at hm ⊢
   rw [litA,if_neg h34,if_neg h92,litA,if_neg h34,if_neg h92]
   split
   ·exact ⟨rfl,fun q=>by simp at q⟩
   ·obtain ⟨i1,i2⟩:=uGQ N r (by omega) n m (i + 1) (out++[c]) (by omega) (by simp only [List.length_cons] at hm; omega)
    refine ⟨i1,fun q=>?_⟩
    obtain ⟨j,q1,q2⟩:=i2 q
    exact ⟨j + 1,by omega,by rw [List.drop_succ_cons,List.drop_succ_cons,q2]⟩
theorem uLd {c : UInt8} {r : List UInt8} (hc : c.toNat=34) : litE (uA8 (c :: r))=litE (c :: r)∧((litE (c :: r)).2≠0→(uA8 (c :: r)).drop (litE (c :: r)).2=uA8 ((c :: r).drop (litE (c :: r)).2)):=by
 rw [uCU hc]
 unfold litE
 simp only [List.drop_succ_cons,List.drop_zero,List.length_cons]
 obtain ⟨i1,i2⟩:=uGQ r.length r (Nat.le_refl _) (r.length + 1 + 1) ((uBG r).length + 1 + 1) 1 [] (by omega) (by omega)
 refine ⟨i1,fun q=>?_⟩
 obtain ⟨j,q1,q2⟩:=i2 q
 rw [q1,Nat.add_comm,List.drop_succ_cons,List.drop_succ_cons,q2]
theorem uLH {c : UInt8} {r : List UInt8} (k : Int) (h : ¬(c.toNat=35∧(r.getD 0 0).toNat=35)) :
  (uBv (uA8 (c :: r)) k).2.2=(uBA (c :: r)).2.2∧((uBA (c :: r)).2.2=0→(uBv (uA8 (c :: r)) k).1=(uBA (c :: r)).1.onl k∧(uBv (uA8 (c :: r)) k).2.1=(uBA (c :: r)).2.1 ∧
   (uA8 (c :: r)).drop (uBA (c :: r)).2.1=uA8 ((c :: r).drop (uBA (c :: r)).2.1)):=by
 have h0 : (uA8 (c :: r)).getD 0 0=c:=by
  by_cases h34 : c.toNat=34
  ·rw [uCU h34]; rfl
  ·rw [uCi h34 h]; rfl
 unfold uBv uBA
 rw [h0,List.getD_cons_zero]
 by_cases hl : uBf (c.toNat : Int)=true
 ·have hnl : nlE (c :: r)=nmP (c :: r):=by
   rw [nlE,nmP,if_pos ⟨by simp [uBM,hl],h⟩]; simp; omega
  obtain ⟨i1,i2,i3⟩:=uH2 (c :: r)
  rw [if_pos hl,if_pos hl,i1,hnl]
  split
  ·exact ⟨rfl,fun q=>by simp at q⟩
  ·rw [i2]
   exact ⟨rfl,fun _=>⟨rfl,rfl,i3⟩⟩
 rw [if_neg hl,if_neg hl]
 by_cases hd : uBu (c.toNat : Int)=true
 ·obtain ⟨i1,i2⟩:=uIK (c :: r) 0 0
  rw [if_pos hd,if_pos hd,i1]
  split
  ·rename_i hq
   obtain ⟨j,q1,q2⟩:=i2 hq
   refine ⟨rfl,fun _=>⟨rfl,rfl,?_⟩⟩
   dsimp only
   rw [q1,Nat.zero_add,q2]
  ·exact ⟨rfl,fun q=>by simp at q⟩
 rw [if_neg hd,if_neg hd]
 by_cases h34 : c.toNat=34
 ·obtain ⟨i1,i2⟩:=uLd (r:=r) h34
  rw [if_pos h34,if_pos h34,i1]
  split
  ·exact ⟨rfl,fun q=>by simp at q⟩
  ·rename_i hq
   exact ⟨rfl,fun _=>⟨rfl,rfl,i2 hq⟩⟩
 rw [if_neg h34,if_neg h34]
 split
 ·rw [uCi h34 h]
  exact ⟨rfl,fun _=>⟨rfl,rfl,rfl⟩⟩
 ·exact ⟨rfl,fun q=>by simp at q⟩
theorem uC2 : ∀ (N : Nat) (l : List UInt8),l.length≤N→(∀ b ∈ l,b.toNat≠10) → ∀ (n m : Nat) (k : Int) (out : List Tk),l.length < n→(uA8 l).length < m→uCE m (uA8 l) k out=uBk n l k out
 | N,[],_,_,n,m,k,out,hn,hm=>by
  obtain ⟨n,rfl⟩ : ∃ k,n=k + 1:=⟨n - 1,by simp at hn; omega⟩
  obtain ⟨m,rfl⟩ : ∃ k,m=k + 1:=⟨m - 1,by omega⟩
  rw [uFs,uCE,uBk,if_pos (.inl rfl)]
 | 0,c :: r,h,_,_,_,_,_,_,_=>by simp at h
 | N + 1,c :: r,h,hno,n,m,k,out,hn,hm=>by
  obtain ⟨n,rfl⟩ : ∃ k,n=k + 1:=⟨n - 1,by omega⟩
  obtain ⟨m,rfl⟩ : ∃ k,m=k + 1:=⟨m - 1,by omega⟩
  simp only [List.length_cons] at h hn
  have hc10:=hno c (by simp)
  by_cases hw : uCl c=true
  ·have hw2 : c.toNat=32∨c.toNat=9∨c.toNat=13:=by simp [uCl] at hw; omega
   have hin : wsp.contains c=true:=by
    rcases hw2 with q | q | q
    ·rw [show c=32 from UInt8.toNat_inj.1 q]; rfl
    ·rw [show c=9 from UInt8.toNat_inj.1 q]; rfl
    ·rw [show c=13 from UInt8.toNat_inj.1 q]; rfl
   have ht : uBn (c :: r)=uBn r:=by
    unfold uBn
    rw [List.dropWhile_cons,if_pos hin]
   have e1 : uBk (n + 1) (c :: r) k out=uBk (n + 1) r k out:=by rw [uBk,uBk,ht]
   have hb : uA8 (c :: r)=c :: uA8 r:=uCi (by omega) (by omega)
   rw [hb] at hm ⊢
   rw [uCE,if_pos hw,e1]
   exact uC2 N r (by omega) (fun b hb=>hno b (by simp [hb])) (n + 1) m k out (by omega) (by simp only [List.length_cons] at hm; omega)
  ·have hin : ¬wsp.contains c=true:=by
    intro q
    apply hw
    have : c=32∨c=9∨c=13:=by simpa [wsp] using q
    rcases this with rfl | rfl | rfl <;> rfl
   have ht : uBn (c :: r)=c :: r:=by
    unfold uBn
    rw [List.dropWhile_cons,if_neg hin]
   by_cases h35 : c.toNat=35∧(r.getD 0 0).toNat=35
   ·rw [uFB h35.1 h35.2,uCE,uBk,ht,if_pos (.inr (by rw [uKC]; simp only [h35.1,h35.2,decide_true,Bool.and_self]))]
   ·obtain ⟨e1,e2⟩:=uLH (c:=c) (r:=r) k h35
    have hne : 0 < (c :: r).length:=by simp
    have hnx:=uE3 hne
    have hb : ∃ t,uA8 (c :: r)=c :: t:=by
     by_cases h34 : c.toNat=34
     ·exact ⟨_,uCU h34⟩
     ·exact ⟨_,uCi h34 h35⟩
    obtain ⟨t,hb⟩:=hb
    have hb1 : 1≤(uA8 (c :: r)).length:=by rw [hb]; simp
    rw [uBk,ht,if_neg (by
     rintro (q | q)
     ·cases q
     ·rw [uKC] at q; simp at q; exact h35 q)]
    have e3 : uCE (m + 1) (uA8 (c :: r)) k out=if (uBv (uA8 (c :: r)) k).2.2≠0 then ([],(uBv (uA8 (c :: r)) k).2.2) else uCE m ((uA8 (c :: r)).drop (uBv (uA8 (c :: r)) k).2.1) k (out++[(uBv (uA8 (c :: r)) k).1]):=by
     rw [hb,uCE,if_neg hw]
    rw [e3,e1]
    split
    ·rfl
    ·rename_i hz
     have hz:=Decidable.not_not.1 hz
     obtain ⟨q1,q2,q3⟩:=e2 hz
     have hge:=hnx.2 hz
     rw [q1,q2,q3]
     refine uC2 N _ (by rw [List.length_drop]; simp only [List.length_cons]; omega) (fun b hb=>hno b (List.mem_of_mem_drop hb)) n m k _ (by rw [List.length_drop]; simp only [List.length_cons]; omega) ?_
     rw [← q3,List.length_drop]
     omega
def fin : List (List UInt8)→List (List UInt8)
 | []=>[]
 | [x]=>if x=[] then [] else [x]
 | x :: y :: r=>x :: fin (y :: r)
theorem uG5 : ∀ (s line : List UInt8) (out : List (List UInt8)),∀ x r,spl s=x :: r→lnsA s line out=out++fin ((line++x) :: r)
 | [],line,out,x,r,h=>by
  simp only [spl,List.cons.injEq] at h
  obtain ⟨rfl,rfl⟩:=h
  rw [lnsA,fin,List.append_nil]
  split <;> simp
 | b :: l,line,out,x,r,h=>by
  rw [lnsA]
  rw [spl] at h
  split at h
  ·rename_i hb
   rw [if_pos hb]
   simp only [List.cons.injEq] at h
   obtain ⟨rfl,rfl⟩:=h
   cases hs : spl l with
   | nil=>exact absurd hs (uGs l)
   | cons y r =>
    rw [uG5 l [] (out++[line]) y r hs,fin]
    simp
  ·rename_i hb
   rw [if_neg hb]
   split at h
   ·rename_i hs; exact absurd hs (uGs l)
   ·rename_i y t hs
    simp only [List.cons.injEq] at h
    obtain ⟨rfl,rfl⟩:=h
    rw [uG5 l (line++[b]) out y t hs]
    simp
theorem uLU (s : List UInt8) : lnsR s=fin (spl s):=by
 cases hs : spl s with
 | nil=>exact absurd hs (uGs s)
 | cons x r =>
  unfold lnsR
  rw [uG5 s [] [] x r hs]
  simp
theorem uEW : ∀ (s : List UInt8),∀ x ∈ spl s,∀ b ∈ x,b.toNat≠10
 | [],x,hx,b,hb=>by simp [spl] at hx; subst hx; simp at hb
 | c :: l,x,hx,b,hb=>by
  have ih:=uEW l
  rw [spl] at hx
  split at hx
  ·rcases List.mem_cons.1 hx with q | q
   ·subst q; simp at hb
   ·exact ih x q b hb
  ·rename_i hc
   split at hx
   ·simp at hx; subst hx; simp at hb; subst hb; exact hc
   ·rename_i y t hs
    rw [hs] at ih
    rcases List.mem_cons.1 hx with q | q
    ·subst q
     rcases List.mem_cons.1 hb with z | z
     ·subst z; exact hc
     ·exact ih y (by simp) b z
    ·exact ih x (by simp [q]) b hb
theorem uJk : ∀ (L : List (List UInt8)),(∀ x ∈ L,∀ b ∈ x,b.toNat≠10) → ∀ (k : Nat) (out : List Tk),uE7 (fin L) k out=uCv L k out
 | [],_,k,out=>rfl
 | [x],h,k,out=>by
  have hl:=uC2 x.length x (Nat.le_refl _) (h x (by simp)) (x.length + 1) ((uA8 x).length + 1) (k : Int) out (by omega) (by omega)
  rw [fin]
  split
  ·rename_i hx
   subst hx
   rw [uCv,show (uBk (([] : List UInt8).length + 1) [] (k : Int) out)=(out,0) by rw [uBk,if_pos (.inl rfl)]]
   rfl
  ·rw [uCv,uE7,hl]
   rfl
 | x :: y :: r,h,k,out=>by
  have hl:=uC2 x.length x (Nat.le_refl _) (h x (by simp)) (x.length + 1) ((uA8 x).length + 1) (k : Int) out (by omega) (by omega)
  rw [fin,uCv,uE7,hl]
  split
  ·rfl
  ·exact uJk (y :: r) (fun z hz=>h z (List.mem_cons_of_mem _ hz)) (k + 1) _
theorem uMa (s : List UInt8) : tokR s=tokP s:=by
 unfold tokR tokP
 rw [uLU,uJk _ (uEW s)]
end Go.Proofs.YtnjjdbapadkomaaGreatDoor
namespace Go.Proofs.YtnjjdbapadkomaaGreatDoor
open Go Go.Abs
theorem uH6 : ∀ (l : List UInt8),nmP l=l.length→l.all (fun b=>uBM (b.toNat : Int))=true
 | [],_=>rfl
 | b :: l,h=>by
  rw [nmP] at h
  split at h
  ·rename_i hq
   rw [List.all_cons,hq.1,uH6 l (by simpa using h)]; rfl
  ·simp at h
theorem uFi {b : UInt8} (h : uBM (b.toNat : Int)=true) : b.toNat≠10:=by
 intro q
 rw [q] at h
 revert h; decide
theorem uKs : ∀ (s : List UInt8),(∀ b ∈ s,b.toNat≠10)→spl s=[s]
 | [],_=>rfl
 | c :: l,h=>by
  rw [spl,if_neg (h c (by simp)),uKs l fun b hb=>h b (by simp [hb])]
theorem uIe {c : UInt8} (h : uBf (c.toNat : Int)=true) : wsp.contains c=false:=by
 rw [Bool.eq_false_iff]
 intro q
 have : c=32∨c=9∨c=13:=by simpa [wsp] using q
 rcases this with rfl | rfl | rfl <;> revert h <;> decide
theorem uFz (n : Nat) (k : Int) (out : List Tk) : uBk n [] k out=(out,0):=by
 cases n with
 | zero=>rfl
 | succ n=>rw [uBk,if_pos (.inl rfl)]
theorem uHS : ∀ (n : Nat) (l : List UInt8) (k : Int) (out : List Tk),(uBk n l k out).2=0 → ∃ e,(uBk n l k out).1=out++e
 | 0,l,k,out,_=>⟨[],by simp [uBk]⟩
 | n + 1,l,k,out,h=>by
  rw [uBk] at h ⊢
  split
  ·exact ⟨[],by simp⟩
  ·rename_i h1
   rw [if_neg h1] at h
   split at h
   ·rename_i h2; exact absurd h h2
   ·rename_i h2
    rw [if_neg h2]
    obtain ⟨e,he⟩:=uHS n _ k _ h
    exact ⟨[(uBA (uBn l)).1.onl k]++e,by rw [he,List.append_assoc]⟩
def uAL (s : List UInt8) : Bool:=(((decide (s≠[])) && uBf ((s.getD 0 0).toNat : Int)) && decide (nlE s=s.length)) && decide (s.length≤24)
def rnmE (s : List UInt8) : Bool:=(((decide ((tokR s).2.2=0) && decide ((tokR s).1.length=1)) && decide (((tokR s).1.getD 0 tk0).kind=1)) && decide (((tokR s).1.getD 0 tk0).text=s)) && uCC s
theorem uHz {s : List UInt8} (hl : uBf ((s.getD 0 0).toNat : Int)=true) (hne : s≠[]) (hno : ∀ b ∈ s,b.toNat≠10) (h24 : nlE s≤24) (hs : s.length≤65536) :
  ∃ n,tokP s=if (uBk n (s.drop (nlE s)) 1 [⟨1,s.take (nlE s),0,[],1⟩]).2≠0 then ([],1,(uBk n (s.drop (nlE s)) 1 [⟨1,s.take (nlE s),0,[],1⟩]).2) else ((uBk n (s.drop (nlE s)) 1 [⟨1,s.take (nlE s),0,[],1⟩]).1,0,0):=by
 obtain ⟨c,r,rfl⟩ : ∃ c r,s=c :: r:=by
  cases s with
  | nil=>exact absurd rfl hne
  | cons c r=>exact ⟨c,r,rfl⟩
 rw [List.getD_cons_zero] at hl
 have ht : uBn (c :: r)=c :: r:=by
  unfold uBn
  rw [List.dropWhile_cons,uIe hl]; rfl
 have hnx : uBA (c :: r)=(⟨1,(c :: r).take (nlE (c :: r)),0,[],0⟩,nlE (c :: r),0):=by
  rw [uBA,List.getD_cons_zero,if_pos hl,if_neg (by omega)]
 have h35 : c.toNat≠35:=by
  intro q
  rw [q] at hl
  revert hl; decide
 have hq1 : ¬(c :: r=[]∨[35,35].isPrefixOf (c :: r)=true):=by
  rintro (q | q)
  ·cases q
  ·rw [uKC] at q
   simp only [Bool.and_eq_true,decide_eq_true_eq] at q
   exact h35 q.1
 have hL : uBk ((c :: r).length + 1) (c :: r) ((1 : Nat) : Int) []=uBk (c :: r).length ((c :: r).drop (nlE (c :: r))) 1 [⟨1,(c :: r).take (nlE (c :: r)),0,[],1⟩]:=by
  rw [uBk,ht,if_neg hq1,hnx,if_neg (by simp)]; rfl
 refine ⟨(c :: r).length,?_⟩
 unfold tokP
 rw [if_neg (by omega),uKs _ hno,uCv,hL]; rfl
theorem uMm (s : List UInt8) (hs : s.length≤65536) : uAL s=rnmE s:=by
 unfold rnmE
 rw [uMa,Bool.eq_iff_iff]
 constructor
 ·intro h
  simp only [uAL,Bool.and_eq_true,decide_eq_true_eq] at h
  obtain ⟨⟨⟨h1,h2⟩,h3⟩,h4⟩:=h
  have hp:=List.length_pos_iff.2 h1
  have hall : s.all (fun b=>uBM (b.toNat : Int))=true:=by
   obtain ⟨c,r,rfl⟩ : ∃ c r,s=c :: r:=by
    cases s with
    | nil=>exact absurd rfl h1
    | cons c r=>exact ⟨c,r,rfl⟩
   rw [List.getD_cons_zero] at h2
   have := uH6 r (by unfold nlE at h3; simp at h3; omega)
   rw [List.all_cons,this,Bool.and_true]
   simp [uBM,h2]
  have hno : ∀ b ∈ s,b.toNat≠10 := fun b hb=>uFi (by have := List.all_eq_true.1 hall b hb; exact this)
  obtain ⟨n,hn⟩:=uHz h2 h1 hno (by omega) hs
  rw [h3,List.drop_length,List.take_length,uFz] at hn
  rw [if_neg (by simp)] at hn
  rw [hn]
  simp [uCC,hall,h4,h2]
  exact ⟨by omega,by simpa using h2⟩
 ·intro h
  simp only [Bool.and_eq_true,decide_eq_true_eq] at h
  obtain ⟨⟨⟨⟨h1,h2⟩,h3⟩,h4⟩,h5⟩:=h
  simp only [uCC,Bool.and_eq_true,decide_eq_true_eq] at h5
  obtain ⟨⟨⟨g1,g2⟩,g3⟩,g4⟩:=h5
  have hne : s≠[]:=fun q=>by subst q; simp at g1
  have hno : ∀ b ∈ s,b.toNat≠10 := fun b hb=>uFi (by have := List.all_eq_true.1 g4 b hb; exact this)
  have hle:=uKl (s:=s) (by omega)
  obtain ⟨n,hn⟩:=uHz g3 hne hno (by omega) hs
  have hfull : nlE s=s.length:=by
   by_cases hz : (uBk n (s.drop (nlE s)) 1 [⟨1,s.take (nlE s),0,[],1⟩]).2=0
   ·obtain ⟨e,he⟩:=uHS n _ 1 _ hz
    rw [if_neg (by rw [hz]; simp)] at hn
    rw [hn,he] at h4
    have h4 : s.take (nlE s)=s:=h4
    have := congrArg List.length h4
    rw [List.length_take] at this
    omega
   ·rw [if_pos hz] at hn
    rw [hn] at h1
    exact absurd h1 hz
  simp only [uAL,Bool.and_eq_true,decide_eq_true_eq]
  exact ⟨⟨⟨hne,g3⟩,hfull⟩,g2⟩
end Go.Proofs.YtnjjdbapadkomaaGreatDoor
namespace Go.Proofs.YtnjjdbapadkomaaGreatDoor
open Go Go.Abs
def errs {α : Type} (f : α→Int) : List α→Int
 | []=>0
 | x :: r=>if f x≠0 then f x else errs f r
theorem errs_zero {α : Type} {f : α→Int} : ∀ {l : List α},errs f l=0 ↔ ∀ x ∈ l,f x=0
 | []=>by simp [errs]
 | x :: r=>by
  rw [errs]
  split
  ·rename_i h; simp [h]
  ·rename_i h; rw [errs_zero (l:=r)]; simp at h ⊢; exact fun _=>h
abbrev NmB:=List UInt8→Bool
mutual
def rawE (nm : NmB) : T→Int
 | .mk k n s ks=>if k=1∨s≠0 then 10 else if nm n=false then 2 else uEw nm ks
def uEw (nm : NmB) : List T→Int
 | []=>0
 | t :: ts=>if rawE nm t≠0 then rawE nm t else uEw nm ts
end
theorem uKI (nm : NmB) (t : T) : rawE nm t=if t.kind=1∨t.sort≠0 then 10 else if nm t.name=false then 2 else uEw nm t.kids:=by cases t; rw [rawE]; rfl
theorem uEz (nm : NmB) : ∀ ts : List T,uEw nm ts=errs (rawE nm) ts
 | []=>by rw [uEw]; rfl
 | t :: ts=>by rw [uEw,uEz nm ts]; rfl
def uCI (nm : NmB) (t : T) : Int:=if uCW t≠0 then uCW t else rawE nm t
def msgE (nm : NmB) (t : T) : Int:=if uCI nm t≠0 then uCI nm t else if 40 < t.size then 3 else 0
def uDg (nm : NmB) (g : Gl) : Int:=if g.kind < 1∨5 < g.kind then 10 else if nm g.role=false∨(uBF g.kind=true∧nm g.wth=false) then 2 else if uBF g.kind=false∧g.wth≠[] then 1
 else if (uBF g.kind=true∧(g.data.length < 1∨4 < g.data.length))∨(uBF g.kind=false∧g.data.length≠1) then 6 else errs (msgE nm) g.data
def frE (nm : NmB) (f : Fs) : Int:=if nm f.role=false∨nm f.name=false then 2 else if f.sort < 2∨4 < f.sort then 10 else 0
def cntE (n : Nar) : Int:=if n.roles.length < 2 then 8 else if 4 < n.roles.length∨12 < n.fresh.length∨8 < n.tags.length then 3 else if n.steps.length=0 then 8 else if 8 < n.steps.length∨8 < n.goals.length then 3 else 0
def uGA (nm : NmB) (n : Nar) : Int:=if nm n.name=false then 2 else if cntE n≠0 then cntE n else if n.roles.all nm=false then 2 else if errs (frE nm) n.fresh≠0 then errs (frE nm) n.fresh else if n.tags.all nm=false then 2 else 0
def spE (nm : NmB) (s : Sp) : Int:=if nm s.frm=false∨nm s.dst=false then 2 else msgE nm s.msg
def narE (nm : NmB) (n : Nar) : Int:=if uGA nm n≠0 then uGA nm n else if errs (spE nm) n.steps≠0 then errs (spE nm) n.steps else errs (uDg nm) n.goals
def uCu (t : T) : Bool:=decide (t.kind=3) && decide (t.name=wPair) && decide (t.kids.length=2)
def untA : Nat→T→List T
 | 0,t=>[t]
 | n + 1,t=>if uCu t=true then t.kids.getD 0 default :: untA n (t.kids.getD 1 default) else [t]
def untE (t : T) : List T:=untA t.size t
def uDh : Nat→T→List UInt8
 | 0,_=>[]
 | n + 1,t=>if t.kind=2 then t.name else if uCu t=true then [60]++Lib.join ((untE t).map (uDh n)) [44,32]++[62] else t.name++[40]++Lib.join (t.kids.map (uDh n)) [44,32]++[41]
def uBs (t : T) : List UInt8:=uDh t.size t
def uCy (l : List T) : List UInt8:=Lib.join (l.map uBs) [44,32]
theorem uJz {t : T} (h : uCu t=true) : ∃ a b,t.kids=[a,b]:=by
 simp only [uCu,Bool.and_eq_true,decide_eq_true_eq] at h
 obtain ⟨_,h⟩:=h
 match hk : t.kids,h with
 | [a,b],_=>exact ⟨a,b,rfl⟩
theorem uCp {t : T} (h : uCu t=true) : t.size=1 + (t.kids.getD 0 default).size + (t.kids.getD 1 default).size:=by
 obtain ⟨a,b,hk⟩:=uJz h
 rw [T.size_eq,hk]
 simp [T.sizes]; omega
theorem uKt : ∀ (n : Nat) (t x : T),x ∈ untA n t→x.size≤t.size
 | 0,t,x,h=>by simp [untA] at h; subst h; omega
 | n + 1,t,x,h=>by
  rw [untA] at h
  split at h
  ·rename_i hp
   have hs:=uCp hp
   rcases List.mem_cons.1 h with q | q
   ·subst q; omega
   ·have := uKt n _ x q; omega
  ·simp at h; subst h; omega
theorem uHO : ∀ (n : Nat) (t : T),T.sizes (untA n t)≤t.size
 | 0,t=>by simp [untA,T.sizes]
 | n + 1,t=>by
  rw [untA]
  split
  ·rename_i hp
   have hs:=uCp hp
   have := uHO n (t.kids.getD 1 default)
   rw [T.sizes]; omega
  ·simp [T.sizes]
theorem uGd : ∀ (n : Nat) (t : T),1≤(untA n t).length∧(untA n t).length≤t.size
 | 0,t=>by have := t.size_pos; simp [untA]; omega
 | n + 1,t=>by
  rw [untA]
  split
  ·rename_i hp
   have hs:=uCp hp
   have := uGd n (t.kids.getD 1 default)
   have := (t.kids.getD 0 default).size_pos
   rw [List.length_cons]; omega
  ·have := t.size_pos; simp; omega
theorem uJd : ∀ (n m : Nat) (t : T),t.size≤n→t.size≤m→untA n t=untA m t
 | 0,_,t,h,_=>by have := t.size_pos; omega
 | _,0,t,_,h=>by have := t.size_pos; omega
 | n + 1,m + 1,t,hn,hm=>by
  rw [untA,untA]
  split
  ·rename_i hp
   have hs:=uCp hp
   have := (t.kids.getD 0 default).size_pos
   rw [uJd n m _ (by omega) (by omega)]
  ·rfl
theorem uE8 (t : T) : untE t=if uCu t=true then t.kids.getD 0 default :: untE (t.kids.getD 1 default) else [t]:=by
 obtain ⟨m,hm⟩ : ∃ m,t.size=m + 1 := ⟨t.size - 1,by have := t.size_pos; omega⟩
 unfold untE
 rw [hm,untA]
 split
 ·rename_i hp
  have hs:=uCp hp
  rw [uJd m _ _ (by omega) (Nat.le_refl _)]
 ·rfl
theorem uDI {t x : T} (hp : uCu t=true) (hx : x ∈ untE t) : x.size < t.size:=by
 have hs:=uCp hp
 have h0:=(t.kids.getD 0 default).size_pos
 rw [uE8,if_pos hp] at hx
 rcases List.mem_cons.1 hx with q | q
 ·subst q; have := (t.kids.getD 1 default).size_pos; omega
 ·have := uKt _ _ _ q; omega
theorem uES {t : T} (hp : uCu t=true) : T.sizes (untE t) < t.size:=by
 have hs:=uCp hp
 rw [uE8,if_pos hp,T.sizes]
 have := uHO (t.kids.getD 1 default).size (t.kids.getD 1 default)
 unfold untE; omega
theorem uGT {x : T} : ∀ {l : List T},x ∈ l→x.size≤T.sizes l
 | [],h=>by simp at h
 | y :: l,h=>by
  rw [T.sizes]
  rcases List.mem_cons.1 h with q | q
  ·subst q; omega
  ·have := uGT q; omega
theorem uCB {t x : T} (h : x ∈ t.kids) : x.size < t.size:=by
 have := uGT h; have := t.size_eq; omega
theorem uDs : ∀ (n m : Nat) (t : T),t.size≤n→t.size≤m→uDh n t=uDh m t
 | 0,_,t,h,_=>by have := t.size_pos; omega
 | _,0,t,_,h=>by have := t.size_pos; omega
 | n + 1,m + 1,t,hn,hm=>by
  rw [uDh,uDh]
  split
  ·rfl
  split
  ·rename_i hp
   have e : (untE t).map (uDh n)=(untE t).map (uDh m):=List.map_congr_left fun x hx=>by
    have := uDI hp hx
    exact uDs n m x (by omega) (by omega)
   rw [e]
  ·have e : t.kids.map (uDh n)=t.kids.map (uDh m):=List.map_congr_left fun x hx=>by
    have := uCB hx
    exact uDs n m x (by omega) (by omega)
   rw [e]
theorem uHa (t : T) : uBs t=if t.kind=2 then t.name else if uCu t=true then [60]++uCy (untE t)++[62] else t.name++[40]++uCy t.kids++[41]:=by
 obtain ⟨m,hm⟩ : ∃ m,t.size=m + 1 := ⟨t.size - 1,by have := t.size_pos; omega⟩
 unfold uCy
 conv=>lhs; unfold uBs
 rw [hm,uDh]
 split
 ·rfl
 split
 ·rename_i hp
  have e : (untE t).map (uDh m)=(untE t).map uBs:=List.map_congr_left fun x hx=>by
   have := uDI hp hx
   exact uDs m x.size x (by omega) (by omega)
  rw [e]
 ·have e : t.kids.map (uDh m)=t.kids.map uBs:=List.map_congr_left fun x hx=>by
   have := uCB hx
   exact uDs m x.size x (by omega) (by omega)
  rw [e]
mutual
def okB : T→Bool
 | .mk k n _ ks=>(decide (k=2) || decide (k=3)) && decide (n.length≤24) && okBs ks
def okBs : List T→Bool
 | []=>true
 | t :: ts=>okB t && okBs ts
end
theorem uMG (t : T) : okB t=((decide (t.kind=2) || decide (t.kind=3)) && decide (t.name.length≤24) && okBs t.kids):=by cases t; rw [okB]; rfl
theorem uJf : ∀ {l : List T},okBs l=true → ∀ x ∈ l,okB x=true
 | [],_,x,h=>by simp at h
 | y :: l,h,x,hx=>by
  rw [okBs,Bool.and_eq_true] at h
  rcases List.mem_cons.1 hx with q | q
  ·subst q; exact h.1
  ·exact uJf h.2 x q
theorem uIr {t : T} (h : okB t=true) : ∀ x ∈ t.kids,okB x=true:=by
 rw [uMG,Bool.and_eq_true] at h
 exact uJf h.2
theorem uGi {t : T} (h : okB t=true) : (t.kind=2∨t.kind=3)∧t.name.length≤24:=by
 rw [uMG] at h
 simp only [Bool.and_eq_true,Bool.or_eq_true,decide_eq_true_eq] at h
 exact h.1
theorem uIv : ∀ (n : Nat) {t : T},okB t=true → ∀ x ∈ untA n t,okB x=true
 | 0,t,h,x,hx=>by simp [untA] at hx; subst hx; exact h
 | n + 1,t,h,x,hx=>by
  rw [untA] at hx
  split at hx
  ·rename_i hp
   obtain ⟨a,b,hk⟩:=uJz hp
   have hkk:=uIr h
   rw [hk] at hx hkk
   rcases List.mem_cons.1 hx with q | q
   ·subst q; exact hkk _ (by simp)
   ·exact uIv n (hkk b (by simp)) x q
  ·simp at hx; subst hx; exact h
theorem uNj {t : T} (h : uBX t=0) : (t.kind=1∨t.kind=2∨t.kind=3)∧t.name.length≤24:=by
 unfold uBX at h
 split at h
 ·split at h
  ·rename_i hq hn
   simp only [uCC,Bool.and_eq_true,decide_eq_true_eq] at hn
   exact ⟨by omega,hn.1.1.2⟩
  ·simp at h
 ·simp at h
mutual
theorem uNp (nm : NmB) : ∀ (t : T),t.nodesE=0→rawE nm t=0→okB t=true
 | .mk k n s ks,h1,h2=>by
  rw [T.nodesE] at h1
  rw [rawE] at h2
  rw [okB]
  split at h1
  ·rename_i hz; exact absurd h1 hz
  ·rename_i hz
   have hz:=Decidable.not_not.1 hz
   split at h2
   ·simp at h2
   ·rename_i hk
    split at h2
    ·simp at h2
    ·rw [uLV nm ks h1 h2]
     have hq:=uNj hz
     have q1 : k=1∨k=2∨k=3:=hq.1
     have q2 : n.length≤24:=hq.2
     simp only [Bool.and_true,Bool.and_eq_true,Bool.or_eq_true,decide_eq_true_eq]
     exact ⟨by omega,q2⟩
theorem uLV (nm : NmB) : ∀ (ts : List T),T.nodesEs ts=0→uEw nm ts=0→okBs ts=true
 | [],_,_=>rfl
 | t :: ts,h1,h2=>by
  rw [T.nodesEs] at h1
  rw [uEw] at h2
  rw [okBs]
  split at h1
  ·rename_i hz; exact absurd h1 hz
  ·rename_i hz
   split at h2
   ·rename_i hy; exact absurd h2 hy
   ·rename_i hy
    rw [uNp nm t (Decidable.not_not.1 hz) (Decidable.not_not.1 hy),uLV nm ts h1 h2]; rfl
end
theorem uIk {nm : NmB} {t : T} (h : uCI nm t=0) : okB t=true∧t.size≤400:=by
 unfold uCI at h
 split at h
 ·rename_i hz; exact absurd h hz
 ·rename_i hz
  have hz:=Decidable.not_not.1 hz
  unfold uCW at hz
  split at hz
  ·rename_i hy; exact absurd hz hy
  ·rename_i hy
   split at hz
   ·simp at hz
   ·exact ⟨uNp nm t (Decidable.not_not.1 hy) h,by omega⟩
def uDZ (L : List (List UInt8)) : Nat:=(L.map fun x=>x.length + 2).sum
theorem uHF : ∀ (L : List (List UInt8)),(Lib.joinTail [44,32] L).length=uDZ L
 | []=>rfl
 | x :: L=>by
  have e : Lib.joinTail [44,32] (x :: L)=[44,32]++(x++Lib.joinTail [44,32] L):=by simp [Lib.joinTail]
  rw [e]
  have := uHF L
  simp only [List.length_append,List.length_cons,List.length_nil,uDZ,List.map_cons,List.sum_cons] at this ⊢
  omega
theorem uEm : ∀ (L : List (List UInt8)),(Lib.join L [44,32]).length≤uDZ L∧(L≠[]→(Lib.join L [44,32]).length + 2=uDZ L)
 | []=>by simp [Lib.join_nil]
 | x :: L=>by
  have := uHF L
  rw [Lib.join_cons,List.length_append]
  simp only [uDZ,List.map_cons,List.sum_cons] at this ⊢
  exact ⟨by omega,fun _=>by omega⟩
theorem uDj : ∀ (l : List T),(∀ x ∈ l,(uBs x).length + 2≤28 * x.size)→uDZ (l.map uBs)≤28 * T.sizes l
 | [],_=>by simp [uDZ,T.sizes]
 | x :: l,h=>by
  have h1:=h x (by simp)
  have h2:=uDj l fun y hy=>h y (by simp [hy])
  simp only [uDZ,List.map_cons,List.sum_cons,T.sizes] at h2 ⊢
  omega
theorem text_len : ∀ (n : Nat) (t : T),t.size≤n→okB t=true→(uBs t).length + 2≤28 * t.size
 | 0,t,h,_=>by have := t.size_pos; omega
 | n + 1,t,h,ho=>by
  have hp:=t.size_pos
  have hn:=(uGi ho).2
  rw [uHa]
  split
  ·omega
  split
  ·rename_i hq
   have h1 := uDj (untE t) fun x hx=>text_len n x (by have := uDI hq hx; omega) (uIv _ ho x hx)
   have h2:=uES hq
   have h3 := (uEm ((untE t).map uBs)).2 (by have := (uGd t.size t).1; intro q; rw [← List.length_map (f := uBs)] at this; show False; unfold untE at q; rw [q] at this; simp at this)
   unfold uCy
   simp only [List.length_append,List.length_cons,List.length_nil]
   omega
  ·have h1 := uDj t.kids fun x hx=>text_len n x (by have := uCB hx; omega) (uIr ho x hx)
   have h2:=t.size_eq
   have h3:=uEm (t.kids.map uBs)
   unfold uCy
   simp only [List.length_append,List.length_cons,List.length_nil]
   by_cases hk : t.kids.map uBs=[]
   ·rw [hk,Lib.join_nil]; simp; omega
   ·have := h3.2 hk; omega
theorem uFf {t : T} (h : okB t=true) : (uBs t).length + 2≤28 * t.size:=text_len t.size t (Nat.le_refl _) h
theorem uI1 {l : List T} (h : ∀ x ∈ l,okB x=true) : (uCy l).length≤28 * T.sizes l:=by
 have h1:=uDj l fun x hx=>uFf (h x hx)
 have h2:=(uEm (l.map uBs)).1
 unfold uCy; omega
def uGY (g : Gl) : List UInt8:=kindW.getD (g.kind - 1).toNat []++[32]++g.role++(if uBF g.kind=true then [32]++g.wth else [])++[58,32]++uCy g.data
def hFresh : List UInt8:=[32,32,102,114,101,115,104,32]
def hProt : List UInt8:=[112,114,111,116,111,99,111,108,32]
def hRole : List UInt8:=[32,32,114,111,108,101,32]
def hTag : List UInt8:=[32,32,116,97,103,32]
def hMsg : List UInt8:=[32,32,109,101,115,115,97,103,101,32]
def hGoal : List UInt8:=[32,32,103,111,97,108,32]
def arrow : List UInt8:=[32,45,62,32]
end Go.Proofs.YtnjjdbapadkomaaGreatDoor
namespace Go.Proofs.YtnjjdbapadkomaaGreatDoor
open Go Go.Proofs Go.Shelf
def uKk : Go.Shelf.Ren:=⟨fun | 99=>25 | 206=>77 | n=>n,fun | 9=>9 | 4=>4 | 3=>3 | n=>n,fun | n=>n⟩
theorem uNE : Go.Proofs.Lays.n99 Tryz.prog uKk:={
 mixed:=by kernel_rfl
 f99:=Tryz.func25.trans (congrArg some (by kernel_rfl))
 f206:=Tryz.func77.trans (congrArg some (by kernel_rfl))
 t3:=Tryz.underlying3
 a3:=Tryz.isAgg3
 z3:=Tryz.sizeOf3
 v3:=Tryz.zeroValue3
 t4:=Tryz.underlying4
 a4:=Tryz.isAgg4
 z4:=Tryz.sizeOf4
 v4:=Tryz.zeroValue4
 t9:=Tryz.underlying9
 a9:=Tryz.isAgg9
 z9:=Tryz.sizeOf9
 v9:=Tryz.zeroValue9 }
def uI4 : Go.Shelf.Ren:=⟨fun | 137=>151 | 217=>167 | 266=>177 | n=>n,fun | 9=>9 | 5=>5 | 3=>3 | n=>n,fun | n=>n⟩
theorem uNi : Go.Proofs.Lays.n137 Tryz.prog uI4:={
 mixed:=by kernel_rfl
 f137:=Tryz.func151.trans (congrArg some (by kernel_rfl))
 f217:=Tryz.func167.trans (congrArg some (by kernel_rfl))
 f266:=Tryz.func177.trans (congrArg some (by kernel_rfl))
 t3:=Tryz.underlying3
 a3:=Tryz.isAgg3
 z3:=Tryz.sizeOf3
 v3:=Tryz.zeroValue3
 t5:=Tryz.underlying5
 a5:=Tryz.isAgg5
 z5:=Tryz.sizeOf5
 v5:=Tryz.zeroValue5
 t9:=Tryz.underlying9
 a9:=Tryz.isAgg9
 z9:=Tryz.sizeOf9
 v9:=Tryz.zeroValue9 }
def uJJ : Go.Shelf.Ren:=⟨fun | 161=>107 | 231=>145 | 227=>146 | 233=>147 | 235=>148 | 228=>163 | 197=>164 | 151=>165 | 260=>175 | 152=>176 | 137=>151 | 119=>182 | 224=>180 | 225=>179 | 217=>167 | 266=>177 | n=>n,fun | 9=>9 | 4=>4 | 3=>3 | 5=>5 | 117=>159 | 116=>158 | 0=>0 | 124=>162 | 105=>178 | 21=>21 | 119=>186 | 46=>185 | 139=>189 | 138=>188 | n=>n,fun | 3=>1 | 4=>2 | n=>n⟩
theorem uNk : Go.Proofs.Lays.n161 Tryz.prog uJJ:={
 mixed:=by kernel_rfl
 f119:=Tryz.func182.trans (congrArg some (by kernel_rfl))
 f137:=Tryz.func151.trans (congrArg some (by kernel_rfl))
 f151:=Tryz.func165.trans (congrArg some (by kernel_rfl))
 f152:=Tryz.func176.trans (congrArg some (by kernel_rfl))
 f161:=Tryz.func107.trans (congrArg some (by kernel_rfl))
 f197:=Tryz.func164.trans (congrArg some (by kernel_rfl))
 f217:=Tryz.func167.trans (congrArg some (by kernel_rfl))
 f224:=Tryz.func180.trans (congrArg some (by kernel_rfl))
 f225:=Tryz.func179.trans (congrArg some (by kernel_rfl))
 f227:=Tryz.func146.trans (congrArg some (by kernel_rfl))
 f228:=Tryz.func163.trans (congrArg some (by kernel_rfl))
 f231:=Tryz.func145.trans (congrArg some (by kernel_rfl))
 f233:=Tryz.func147.trans (congrArg some (by kernel_rfl))
 f235:=Tryz.func148.trans (congrArg some (by kernel_rfl))
 f260:=Tryz.func175.trans (congrArg some (by kernel_rfl))
 f266:=Tryz.func177.trans (congrArg some (by kernel_rfl))
 t0:=Tryz.underlying0
 a0:=Tryz.isAgg0
 z0:=Tryz.sizeOf0
 v0:=Tryz.zeroValue0
 t3:=Tryz.underlying3
 a3:=Tryz.isAgg3
 z3:=Tryz.sizeOf3
 v3:=Tryz.zeroValue3
 t4:=Tryz.underlying4
 a4:=Tryz.isAgg4
 z4:=Tryz.sizeOf4
 v4:=Tryz.zeroValue4
 t5:=Tryz.underlying5
 a5:=Tryz.isAgg5
 z5:=Tryz.sizeOf5
 v5:=Tryz.zeroValue5
 t9:=Tryz.underlying9
 a9:=Tryz.isAgg9
 z9:=Tryz.sizeOf9
 v9:=Tryz.zeroValue9
 t21:=Tryz.underlying21
 a21:=Tryz.isAgg21
 z21:=Tryz.sizeOf21
 v21:=Tryz.zeroValue21
 t46:=Tryz.underlying185
 a46:=Tryz.isAgg185
 z46:=Tryz.sizeOf185
 v46:=Tryz.zeroValue185
 t105:=Tryz.underlying178
 a105:=Tryz.isAgg178
 z105:=Tryz.sizeOf178
 v105:=Tryz.zeroValue178
 t116:=Tryz.underlying158
 a116:=Tryz.isAgg158
 z116:=Tryz.sizeOf158
 t117:=Tryz.underlying159
 a117:=Tryz.isAgg159
 z117:=Tryz.sizeOf159
 v117:=Tryz.zeroValue159
 t119:=Tryz.underlying186
 a119:=Tryz.isAgg186
 z119:=Tryz.sizeOf186
 t124:=Tryz.underlying162
 a124:=Tryz.isAgg162
 z124:=Tryz.sizeOf162
 v124:=Tryz.zeroValue162
 t138:=Tryz.underlying188
 a138:=Tryz.isAgg188
 z138:=Tryz.sizeOf188
 v138:=Tryz.zeroValue188
 t139:=Tryz.underlying189
 a139:=Tryz.isAgg189
 z139:=Tryz.sizeOf189
 v139:=Tryz.zeroValue189
 g3:=by kernel_rfl
 g4:=by kernel_rfl }
def uFW : Go.Shelf.Ren:=⟨fun | 156=>40 | 165=>89 | 166=>90 | 169=>91 | 240=>134 | 241=>135 | 276=>160 | 277=>161 | n=>n,fun | 31=>22 | 9=>9 | 3=>3 | 4=>4 | 0=>0 | 20=>20 | 72=>121 | 76=>125 | 70=>119 | 37=>45 | 75=>124 | 127=>150 | 164=>173 | 5=>5 | 80=>127 | n=>n,fun | n=>n⟩
theorem uKP : Go.Proofs.Lays.n156 Tryz.prog uFW:={
 mixed:=by kernel_rfl
 f156:=Tryz.func40.trans (congrArg some (by kernel_rfl))
 f165:=Tryz.func89.trans (congrArg some (by kernel_rfl))
 f166:=Tryz.func90.trans (congrArg some (by kernel_rfl))
 f169:=Tryz.func91.trans (congrArg some (by kernel_rfl))
 f240:=Tryz.func134.trans (congrArg some (by kernel_rfl))
 f241:=Tryz.func135.trans (congrArg some (by kernel_rfl))
 f276:=Tryz.func160.trans (congrArg some (by kernel_rfl))
 f277:=Tryz.func161.trans (congrArg some (by kernel_rfl))
 t0:=Tryz.underlying0
 a0:=Tryz.isAgg0
 z0:=Tryz.sizeOf0
 v0:=Tryz.zeroValue0
 t3:=Tryz.underlying3
 a3:=Tryz.isAgg3
 z3:=Tryz.sizeOf3
 v3:=Tryz.zeroValue3
 t4:=Tryz.underlying4
 a4:=Tryz.isAgg4
 z4:=Tryz.sizeOf4
 v4:=Tryz.zeroValue4
 t9:=Tryz.underlying9
 a9:=Tryz.isAgg9
 z9:=Tryz.sizeOf9
 v9:=Tryz.zeroValue9
 t20:=Tryz.underlying20
 a20:=Tryz.isAgg20
 z20:=Tryz.sizeOf20
 v20:=Tryz.zeroValue20
 t31:=Tryz.underlying22
 a31:=Tryz.isAgg22
 z31:=Tryz.sizeOf22
 v31:=Tryz.zeroValue22
 t37:=Tryz.underlying45
 a37:=Tryz.isAgg45
 z37:=Tryz.sizeOf45
 v37:=Tryz.zeroValue45
 t70:=Tryz.underlying119
 a70:=Tryz.isAgg119
 z70:=Tryz.sizeOf119
 v70:=Tryz.zeroValue119
 t72:=Tryz.underlying121
 a72:=Tryz.isAgg121
 z72:=Tryz.sizeOf121
 v72:=Tryz.zeroValue121
 t75:=Tryz.underlying124
 a75:=Tryz.isAgg124
 z75:=Tryz.sizeOf124
 v75:=Tryz.zeroValue124
 t76:=Tryz.underlying125
 a76:=Tryz.isAgg125
 z76:=Tryz.sizeOf125
 v76:=Tryz.zeroValue125
 t127:=Tryz.underlying150
 a127:=Tryz.isAgg150
 z127:=Tryz.sizeOf150
 v127:=Tryz.zeroValue150
 t164:=Tryz.underlying173
 a164:=Tryz.isAgg173
 z164:=Tryz.sizeOf173
 v164:=Tryz.zeroValue173 }
def uH9 : Go.Shelf.Ren:=⟨fun | 146=>88 | 221=>133 | 268=>157 | 138=>158 | 143=>159 | 195=>171 | 197=>164 | 218=>172 | 219=>173 | 260=>175 | 217=>167 | 225=>179 | 224=>180 | 267=>181 | 266=>177 | 314=>183 | n=>n,fun | 9=>9 | 31=>22 | 3=>3 | 4=>4 | 0=>0 | 105=>178 | 21=>21 | 5=>5 | 46=>185 | 119=>186 | 139=>189 | 138=>188 | 146=>192 | 51=>191 | n=>n,fun | 1=>0 | 3=>1 | 4=>2 | n=>n⟩
theorem laysM146 : Go.Proofs.LaysM.n146 Tryz.prog uH9:={
 mixed:=by kernel_rfl
 f138:=Tryz.func158.trans (congrArg some (by kernel_rfl))
 f143:=Tryz.func159.trans (congrArg some (by kernel_rfl))
 f146:=Tryz.func88.trans (congrArg some (by kernel_rfl))
 f195:=Tryz.func171.trans (congrArg some (by kernel_rfl))
 f197:=Tryz.func164.trans (congrArg some (by kernel_rfl))
 f217:=Tryz.func167.trans (congrArg some (by kernel_rfl))
 f218:=Tryz.func172.trans (congrArg some (by kernel_rfl))
 f219:=Tryz.func173.trans (congrArg some (by kernel_rfl))
 f221:=Tryz.func133.trans (congrArg some (by kernel_rfl))
 f224:=Tryz.func180.trans (congrArg some (by kernel_rfl))
 f225:=Tryz.func179.trans (congrArg some (by kernel_rfl))
 f260:=Tryz.func175.trans (congrArg some (by kernel_rfl))
 f266:=Tryz.func177.trans (congrArg some (by kernel_rfl))
 f267:=Tryz.func181.trans (congrArg some (by kernel_rfl))
 f268:=Tryz.func157.trans (congrArg some (by kernel_rfl))
 f314:=Tryz.func183.trans (congrArg some (by kernel_rfl))
 t0:=Tryz.underlying0
 a0:=Tryz.isAgg0
 z0:=Tryz.sizeOf0
 v0:=Tryz.zeroValue0
 t3:=Tryz.underlying3
 a3:=Tryz.isAgg3
 z3:=Tryz.sizeOf3
 v3:=Tryz.zeroValue3
 t4:=Tryz.underlying4
 a4:=Tryz.isAgg4
 z4:=Tryz.sizeOf4
 v4:=Tryz.zeroValue4
 t5:=Tryz.underlying5
 a5:=Tryz.isAgg5
 z5:=Tryz.sizeOf5
 v5:=Tryz.zeroValue5
 t9:=Tryz.underlying9
 a9:=Tryz.isAgg9
 z9:=Tryz.sizeOf9
 v9:=Tryz.zeroValue9
 t21:=Tryz.underlying21
 a21:=Tryz.isAgg21
 z21:=Tryz.sizeOf21
 v21:=Tryz.zeroValue21
 t31:=Tryz.underlying22
 a31:=Tryz.isAgg22
 z31:=Tryz.sizeOf22
 v31:=Tryz.zeroValue22
 t46:=Tryz.underlying185
 a46:=Tryz.isAgg185
 z46:=Tryz.sizeOf185
 v46:=Tryz.zeroValue185
 t51:=Tryz.underlying191
 a51:=Tryz.isAgg191
 z51:=Tryz.sizeOf191
 v51:=Tryz.zeroValue191
 t105:=Tryz.underlying178
 a105:=Tryz.isAgg178
 z105:=Tryz.sizeOf178
 v105:=Tryz.zeroValue178
 t119:=Tryz.underlying186
 a119:=Tryz.isAgg186
 z119:=Tryz.sizeOf186
 t138:=Tryz.underlying188
 a138:=Tryz.isAgg188
 z138:=Tryz.sizeOf188
 v138:=Tryz.zeroValue188
 t139:=Tryz.underlying189
 a139:=Tryz.isAgg189
 z139:=Tryz.sizeOf189
 v139:=Tryz.zeroValue189
 t146:=Tryz.underlying192
 a146:=Tryz.isAgg192
 z146:=Tryz.sizeOf192
 v146:=Tryz.zeroValue192
 g1:=by kernel_rfl
 g3:=by kernel_rfl
 g4:=by kernel_rfl
 i0:=by kernel_rfl
 i3:=by kernel_rfl
 i4:=by kernel_rfl
 i5:=by kernel_rfl
 i9:=by kernel_rfl
 i21:=by kernel_rfl
 i31:=by kernel_rfl
 i46:=by kernel_rfl
 i51:=by kernel_rfl
 i105:=by kernel_rfl
 i138:=by kernel_rfl
 i139:=by kernel_rfl
 i146:=by kernel_rfl
 m1:=by kernel_rfl
 s1_3:=fun w h=>Go.Proofs.cell_of_shapedOpen_int (zero:=#[.int .i64 0]) (t:=3) h (of_decide_eq_true (by kernel_rfl)) (by kernel_rfl) rfl (by kernel_rfl) (by kernel_rfl) Tryz.underlying3
 m3:=by kernel_rfl
 m4:=by kernel_rfl }
theorem uDR : Builder.Extra Tryz.prog uFW:={
 sizeBuilder:=by kernel_rfl
 liesBuilder:=by kernel_rfl
 t5:=Tryz.underlying5
 a5:=Tryz.isAgg5
 z5:=Tryz.sizeOf5
 v5:=Tryz.zeroValue5
 infoByte:=by kernel_rfl
 cellsByte:=by kernel_rfl
 sizeByte:=by kernel_rfl
 neB5:=by decide }
end Go.Proofs.YtnjjdbapadkomaaGreatDoor
namespace Go.Proofs.YtnjjdbapadkomaaGreatDoor
open Go Go.Abs
open Go.RowKit (Below)
theorem uD7 (s p : List UInt8) : Ctr sys 25 [xs s,xs p] [] (xb (p.isPrefixOf s)) none []:=by
 refine uIH [.string ⟨s.toArray⟩, .string ⟨p.toArray⟩] ⟨_,Tryz.func25,by kernel_rfl,by kernel_rfl⟩ (fun w G vs h=>?_) (fun w=>Any.strings_HasPrefix uNE ⟨s.toArray⟩ ⟨p.toArray⟩ w) (fun w G=>CRep.b _)
 match vs,h with
 | [u,v],⟨h1,h2,_⟩=>rw [XRep.str h1,XRep.str h2]
theorem uMT {c : UInt8} {n : Int} (h : n=(c.toNat : Int)) : n.toNat.toUInt8=c:=by
 subst h
 rw [Int.toNat_natCast]
 exact UInt8.ofNat_toNat
theorem uDc (s : List UInt8) (c : UInt8) (n : Int) (h : n=(c.toNat : Int)) : Ctr sys 151 [xs s,xu n] [] (xi (Lib.indexByte s c)) none []:=by
 refine uIH [.string ⟨s.toArray⟩, .int .u8 n] ⟨_,Tryz.func151,by kernel_rfl,by kernel_rfl⟩ (fun w G vs hv=>?_) (fun w=>by
  have := Any.strings_IndexByte uNi ⟨s.toArray⟩ n w
  rw [uMT h] at this
  exact this) (fun w G=>CRep.i _ _)
 match vs,hv with
 | [u,v],⟨h1,h2,_⟩=>rw [XRep.str h1,XRep.int h2]
theorem uHi (s : List UInt8) (hs : s.length≤2000000) : Ctr sys 107 [xs s,xs [32,9,13]] [] (xs (uBn s)) none []:=by
 have hl:=uFt s
 refine uHL (v:=.string ⟨(uBn s).toArray⟩) ⟨_,Tryz.func107,by kernel_rfl,by kernel_rfl⟩ (fun w G vs hv hwf hgl=>?_) (fun w G=>CRep.s _ (by omega))
 have := Any.strings_TrimLeft_laid uNk (by kernel_rfl) ⟨s.toArray⟩ ⟨#[32,9,13]⟩ w (by decide) (fun j b hj=>by
  match j,hj with
  | 0,hj=>simp at hj; subst hj; decide
  | 1,hj=>simp at hj; subst hj; decide
  | 2,hj=>simp at hj; subst hj; decide
  | j + 3,hj=>simp at hj)
 match vs,hv with
 | [u,v],⟨h1,h2,_⟩ =>
  rw [XRep.str h1,XRep.str h2]
  exact this
theorem uJi {b : UInt8} {l : List UInt8} (hb : b≠10) : ∀ (k : Nat),Lib.splitK [10] 0 k (b :: l)=match Lib.splitK [10] 0 k l with
  | []=>[[b]]
  | x :: r=>(b :: x) :: r
 | 0=>rfl
 | k + 1=>by
  have hp : ([10] : List UInt8).isPrefixOf (b :: l)=false:=by simp [List.isPrefixOf,Ne.symm hb]
  have hix : Lib.index (b :: l) [10]=if Lib.index l [10] == -1 then -1 else Lib.index l [10] + 1:=by rw [Lib.index,hp]; simp
  have hge:=Lib.index_ge l [10]
  rw [Lib.splitK,Lib.splitK,hix]
  by_cases hm : Lib.index l [10] = -1
  ·rw [hm]; rfl
  ·rw [if_neg (c:=(Lib.index l [10] == -1)=true) (by simpa using hm),if_neg (c:=(Lib.index l [10] + 1 == -1)=true) (by simp; omega),if_neg (c:=(Lib.index l [10] == -1)=true) (by simpa using hm)]
   have e : (Lib.index l [10] + 1).toNat=(Lib.index l [10]).toNat + 1:=by omega
   rw [e]
   simp only [Nat.add_zero,List.take_succ_cons,List.length_cons,List.length_nil,Nat.zero_add]
   congr 1
theorem uIS : ∀ (s : List UInt8),Lib.splitK [10] 0 (Lib.count s [10]) s=spl s
 | []=>rfl
 | b :: l=>by
  have ih:=uIS l
  by_cases hb : b=10
  ·subst hb
   have hix : Lib.index (10 :: l) [10]=0:=by rw [Lib.index]; simp [List.isPrefixOf]
   rw [Lib.count_cons_eq,Nat.add_comm,Lib.splitK,hix]
   simp only [spl]
   rw [if_neg (by decide),if_pos (by rfl)]
   simp only [List.length_cons,List.length_nil,Int.toNat_zero,Nat.zero_add,List.take_zero,List.drop_succ_cons,List.drop_zero]
   rw [ih]
  ·rw [Lib.count_cons_ne b 10 l hb,uJi hb,ih,spl,if_neg (c:=b.toNat=10) (fun q=>hb (UInt8.toNat_inj.1 q))]
   all_goals (cases spl l <;> rfl)
theorem uLy (s : List UInt8) : (Lib.splitB ⟨#[10]⟩ 0 (Lib.countB ⟨s.toArray⟩ ⟨#[10]⟩) ⟨s.toArray⟩).map (·.data.toList)=spl s:=by
 rw [Lib.splitB_data]
 exact uIS s
theorem uJy {w : World} {S : Nat→Nat→Prop} : ∀ (bs : List ByteArray),(∀ b ∈ bs,b.data.toList.length≤9223372036854775807)→All2 (CRep w S) (bs.map fun b=>C.s b.data.toList) (bs.map Value.string)
 | [],_=>trivial
 | b :: bs,h=>⟨CRep.s b.data.toList (h b (by simp)),uJy bs fun x hx=>h x (by simp [hx])⟩
theorem uG1 (s : List UInt8) (hs : s.length≤2000000) : Ctr sys 88 [xs s,xs [10]] [] (xss (spl s)) none []:=by
 have hsp:=uLy s
 have hlen:=uF7 s
 have hl2 : (Lib.splitB ⟨#[10]⟩ 0 (Lib.countB ⟨s.toArray⟩ ⟨#[10]⟩) ⟨s.toArray⟩).length=(spl s).length:=by rw [← hsp,List.length_map]
 have hcnt:=Lib.splitB_all ⟨#[10]⟩ (by decide) 0 (Lib.countB ⟨s.toArray⟩ ⟨#[10]⟩) ⟨s.toArray⟩ rfl
 have key:=uLA (Z:=sys) (f:=88) (args:=[xs s,xs [10]]) (cs:=(Lib.splitB ⟨#[10]⟩ 0 (Lib.countB ⟨s.toArray⟩ ⟨#[10]⟩) ⟨s.toArray⟩).map fun b=>C.s b.data.toList) (vals:=(Lib.splitB ⟨#[10]⟩ 0 (Lib.countB ⟨s.toArray⟩ ⟨#[10]⟩) ⟨s.toArray⟩).map Value.string) (ty:=9)
  ⟨_,Tryz.func88,by kernel_rfl,by kernel_rfl⟩ (by rw [List.length_map]; omega) (fun w S=>uJy _ fun b hb=>by
   have h1 : b.data.toList ∈ spl s:=by rw [← hsp]; exact List.mem_map_of_mem (f:=(·.data.toList)) hb
   have := uH7 s _ h1
   omega) (fun w G vs hv hgl=>by
   obtain ⟨m,hm⟩:=(hgl (0,intAt) (by simp [sys])).2.1.cell
   have := Any.strings_Split { laysM146 with } (by kernel_rfl) ⟨s.toArray⟩ ⟨#[10]⟩ m w (by show s.length < _; omega) hm (by decide)
   match vs,hv with
   | [u,v],⟨h1,h2,_⟩ =>
    rw [XRep.str h1,XRep.str h2]
    refine this.mono ?_
    rintro e w' ⟨he,hw⟩
    refine ⟨?_,hw⟩
    rw [he,List.length_map,hcnt])
 have e : ((Lib.splitB ⟨#[10]⟩ 0 (Lib.countB ⟨s.toArray⟩ ⟨#[10]⟩) ⟨s.toArray⟩).map fun b=>C.s b.data.toList).map (fun c=>[c])=strR (spl s):=by
  rw [← hsp,strR,List.map_map,List.map_map]
  rfl
 rw [e] at key
 exact key
end Go.Proofs.YtnjjdbapadkomaaGreatDoor
namespace Go.Proofs.YtnjjdbapadkomaaGreatDoor
open Go Go.Proofs Go.RowKit
open Go.Abs (uCT BdSys)
theorem uNG : (Tryz.prog.info? 121).map (·.size)=some 2:=by kernel_rfl
theorem uNl : ∃ j,Tryz.prog.info? 121=some j∧j.size=2:=Option.map_eq_some_iff.1 uNG
set_option maxHeartbeats 2000000 in
set_option maxRecDepth 100000 in
theorem uGM (b : Nat) (w : World) (h0 : w.cell? ⟨b,0,none⟩=some (.pointer (some ⟨b,0,none⟩))) :
  Calls Tryz.prog 134 #[.pointer (some ⟨b,0,none⟩)] w fun e w'=>e = .returned (.tuple #[])∧w'=w:=by
 obtain ⟨j,hj,_⟩:=uNl
 go_enter Tryz.func134,Tryz.ntmps134
 go_wp2
 rw [Lib.run_neq_ptr_same w _ Tryz.underlying119 hj]
 go_wp2
 go_end0
 exact ⟨rfl,rfl⟩
set_option maxHeartbeats 2000000 in
set_option maxRecDepth 100000 in
theorem uF1 (b : Nat) (w : World) (h0 : w.cell? ⟨b,0,none⟩=some (.pointer none)) (hsh : w.shape? b=some (121,2)) (hfz : w.frozen? ⟨b,0,none⟩=false) :
  Calls Tryz.prog 134 #[.pointer (some ⟨b,0,none⟩)] w fun e w'=>e = .returned (.tuple #[])∧w'=w.setCell ⟨b,0,none⟩ (.pointer (some ⟨b,0,none⟩)):=by
 obtain ⟨j,hj,hjs⟩:=uNl
 go_enter Tryz.func134,Tryz.ntmps134
 go_wp2
 rw [Lib.run_to_unsafe w ⟨b,0,none⟩ Tryz.underlying119 Tryz.underlying173 hj (by rw [hjs]; decide) hsh (Nat.zero_lt_succ 1)]
 simp only [Result.andThen]
 rw [Oper.upon_value]
 go_wp2
 rw [run_callFunc_extern Tryz.func160 (by kernel_rfl) (by kernel_rfl) (by kernel_rfl) (e:=Extern.AbiNoEscape.same) (by kernel_rfl)]
 rw [Lib.run_noEscape]
 simp only [Result.andThen]
 rw [Oper.upon_value]
 go_wp2
 rw [Lib.run_from_unsafe w ⟨b,0,none⟩ Tryz.underlying173 Tryz.underlying119 hj hsh (by kernel_rfl)]
 simp only [Result.andThen]
 rw [Oper.upon_value]
 go_wp2
 go_end0
 exact ⟨rfl,rfl⟩
theorem uGS {P : Program} {ops : Array Oper} {rest : List Oper} {o : Oper} {a : Act} {w w1 : World} {Q : Exit→Act→World→Prop} {v : Value} (hgd : o.guard=none)
  (hrun : (execOp a.eval o).run P w = .ok (.value v) w1) (h : wpList P ops Q rest (a.put o.dst v) w1) : wpList P ops Q (o :: rest) a w:=by
 unfold wpList
 have hw : Region.wanted o (yielded ops a.tmps)=true:=by simp [Region.wanted,hgd]
 rw [hw]
 simp only [if_true]
 refine .inl ?_
 unfold Oper.wp
 rw [hrun,Oper.upon_value]
 exact h
theorem uEu (b : Nat) (w w0 : World) (h : uCT b w w0) (hsh : w.shape? b=some (121,2)) (hfz : w.frozen? ⟨b,0,none⟩=false) :
  Calls Tryz.prog 134 #[.pointer (some ⟨b,0,none⟩)] w fun e w'=>e = .returned (.tuple #[])∧w'=w0:=by
 rcases h with ⟨h,rfl⟩ | ⟨h,rfl⟩
 ·exact uF1 b w h hsh hfz
 ·exact uGM b _ h
set_option maxHeartbeats 2000000 in
set_option maxRecDepth 100000 in
theorem uFy (b : Nat) (w w0 w1 : World) (v' : Value) (uo : Option Addr) (un uc : Nat) (s : ByteArray) (h : uCT b w w0) (hsh : w.shape? b=some (121,2)) (hfz : w.frozen? ⟨b,0,none⟩=false)
  (h1 : w0.cell? ⟨b,1,none⟩=some v') (hap : (Builtin.append_ #[45,9] 45 #[v', .string s]).run Tryz.prog w0 = .ok (.slice uo un uc) w1) (h2 : w1.cell? ⟨b,1,none⟩=some v') (hf1 : w1.frozen? ⟨b,1,none⟩=false) :
  Calls Tryz.prog 90 #[.pointer (some ⟨b,0,none⟩), .string s] w fun e w'=>e = .returned (.tuple #[.int .i64 s.size, .nilIface])∧w'=w1.setCell ⟨b,1,none⟩ (.slice uo un uc):=by
 go_enter Tryz.func90,Tryz.ntmps90
 go_wp2_with (go_at_call 134; refine (uEu b w w0 h hsh hfz).mono ?_)
 rintro e w' ⟨rfl,rfl⟩
 go_wp2_with (at_builtin; refine uGS rfl (v:=.slice uo un uc) (w1:=w1) ?hr ?_)
 case hr=>simp [execOp,Go.resolve,invoke,builtin,Act.eval,Act.put,hap]
 go_wp2
 go_ret2
 exact ⟨rfl,rfl⟩
set_option maxHeartbeats 2000000 in
set_option maxRecDepth 100000 in
theorem uGK (b : Nat) (w w0 w1 : World) (v' : Value) (uo : Option Addr) (un uc : Nat) (c : Int) (h : uCT b w w0) (hsh : w.shape? b=some (121,2)) (hfz : w.frozen? ⟨b,0,none⟩=false)
  (h1 : w0.cell? ⟨b,1,none⟩=some v') (hap : (Builtin.append_ #[45,45] 45 #[v', .slice (some ⟨w0.heap.size,0,none⟩) 1 1]).run Tryz.prog (w0.alloc (.cells #[.int .u8 c] 5)) = .ok (.slice uo un uc) w1) (h2 : w1.cell? ⟨b,1,none⟩=some v') (hf1 : w1.frozen? ⟨b,1,none⟩=false) :
  Calls Tryz.prog 166 #[.pointer (some ⟨b,0,none⟩), .int .u8 c] w fun e w'=>e = .returned .nilIface∧w'=w1.setCell ⟨b,1,none⟩ (.slice uo un uc):=by
 go_enter Tryz.func166,Tryz.ntmps166
 go_wp2_with (go_at_call 134; refine (uEu b w w0 h hsh hfz).mono ?_)
 rintro e w' ⟨rfl,rfl⟩
 go_wp2_with (at_builtin; refine uGS rfl (v:=.slice uo un uc) (w1:=w1) ?hr ?_)
 case hr=>simp [execOp,Go.resolve,invoke,builtin,Act.eval,Act.put,hap]
 go_wp2
 go_ret
 exact ⟨rfl,rfl⟩
set_option maxHeartbeats 2000000 in
set_option maxRecDepth 100000 in
theorem uIX (b : Nat) (w w1 w2 : World) (ao : Option Addr) (n cap : Nat) (p : Value) (s : ByteArray) (h1 : w.cell? ⟨b,1,none⟩=some (.slice ao n cap))
  (hsd : (Builtin.unsafeSliceData_ #[45] 150 #[.slice ao n cap]).run Tryz.prog w.drew = .ok p w1) (h2 : w1.cell? ⟨b,1,none⟩=some (.slice ao n cap))
  (hus : (Builtin.unsafeString_ #[150,3] 9 #[p, .int .i64 n]).run Tryz.prog w1 = .ok (.string s) w2) :
  Calls Tryz.prog 91 #[.pointer (some ⟨b,0,none⟩)] w fun e w'=>e = .returned (.string s)∧w'=w2:=by
 have c1 : w.drew.cell? ⟨b,1,none⟩=some (.slice ao n cap):=h1
 go_enter Tryz.func91,Tryz.ntmps91
 go_wp2
 go_region
 all_goals (go_wp2; go_ret; exact ⟨rfl,rfl⟩)
theorem uNI : (Tryz.prog.info? 5).map (fun j=>(j.size,j.bytes,j.zero))=some (1,1,some (.int .u8 0)):=by kernel_rfl
theorem infoU : ∃ j,Tryz.prog.info? 5=some j∧j.size=1∧j.bytes=1∧j.zero=some (.int .u8 0):=by
 obtain ⟨j,h1,h2⟩:=Option.map_eq_some_iff.1 uNI
 simp only [Prod.mk.injEq] at h2
 exact ⟨j,h1,h2⟩
theorem enW0 : Abs.Enters sys 90:=⟨_,Tryz.func90,by kernel_rfl,by kernel_rfl⟩
theorem enB0 : Abs.Enters sys 166:=⟨_,Tryz.func166,by kernel_rfl,by kernel_rfl⟩
theorem enS0 : Abs.Enters sys 91:=⟨_,Tryz.func91,by kernel_rfl,by kernel_rfl⟩
noncomputable def bds : BdSys sys where
 tB:=121
 tS:=45
 tStr:=9
 tU:=5
 tPU:=150
 tI:=3
 tN:=121 * 4096 + 5
 hN1:=rfl
 hN2:=rfl
 fW:=90
 fB:=166
 hasB:=true
 fS:=91
 jf:=infoU.choose
 hu:=Tryz.underlying45
 hstr:=Tryz.underlying9
 hpu:=Tryz.underlying150
 hinfo:=infoU.choose_spec.1
 hsz:=infoU.choose_spec.2.1
 hby:=infoU.choose_spec.2.2.1
 hze:=infoU.choose_spec.2.2.2
 hcells:=(show Tryz.prog.cellsOf 5=1 by kernel_rfl)
 enW:=enW0
 enB:=fun _=>enB0
 enS:=enS0
 ws:=fun b w w0 w1 v' uo un uc s h1 h2 h3 h4 h5 h6 h7=>uFy b w w0 w1 v' uo un uc s h1 h2 h3 h4 h5 h6 h7
 wb:=fun _ b w w0 w1 v' uo un uc c h1 h2 h3 h4 h5 h6 h7=>uGK b w w0 w1 v' uo un uc c h1 h2 h3 h4 h5 h6 h7
 st:=fun b w w1 w2 ao n cap p s h1 h2 h3 h4=>uIX b w w1 w2 ao n cap p s h1 h2 h3 h4
end Go.Proofs.YtnjjdbapadkomaaGreatDoor
namespace Go.Proofs.YtnjjdbapadkomaaGreatDoor
open Go Go.Abs
theorem uDw (n : Int) : Ctr sys 141 [xu n] [] (xb (uBf n)) none []:=by
 refine uAA Tryz.func141 rfl rfl rfl rfl rfl rfl ?_;refine uAe (uAb ?_);refine uAa rfl rfl rfl (uAd rfl gU) ?_;refine uAf ?_;refine uAe (uAb ?_);refine uAa rfl rfl rfl (uAc rfl gU) ?_;refine uAa rfl rfl rfl (uAk rfl rfl gU gU rfl) ?_;refine uAa rfl rfl rfl (uAc rfl gU) ?_;refine uAa rfl rfl rfl (uAc rfl gU) ?_;refine uAa rfl rfl rfl (uAk rfl rfl (fun hh=>hh) gU rfl) ?_;refine uAa rfl rfl rfl (uAQ rfl rfl gU (fun _ hi=>gP rfl hi)) ?_;refine uAa rfl rfl rfl (uAc rfl gU) ?_;refine uAa rfl rfl rfl (uAc rfl gU) ?_;refine uAa rfl rfl rfl (uAk rfl rfl (fun hh=>hh) gU rfl) ?_;refine uAa rfl rfl rfl (uAc rfl (fun hh=>hh)) ?_;refine uAa rfl rfl rfl (uAc rfl gU) ?_;refine uAa rfl rfl rfl (uAk rfl rfl (fun hh=>hh) gU rfl) ?_;refine uAa rfl rfl rfl (uAQ rfl rfl (fun hh=>hh) (fun hh hi=>gP hh hi)) ?_;refine uAa rfl rfl rfl (uAJ rfl rfl gU (fun _ hi=>gP rfl hi)) ?_;refine uAa rfl rfl rfl (uAd rfl gU) ?_;refine uAf ?_;refine uAo ?_
 repeat (first | refine tR ?_ | refine bR ?_)
 refine uAr rfl ?_ trivial
 rfl
theorem uD0 (n : Int) : Ctr sys 149 [xu n] [] (xb (uBu n)) none []:=by
 refine uAA Tryz.func149 rfl rfl rfl rfl rfl rfl ?_;refine uAe (uAb ?_);refine uAa rfl rfl rfl (uAd rfl gU) ?_;refine uAf ?_;refine uAe (uAb ?_);refine uAa rfl rfl rfl (uAc rfl gU) ?_;refine uAa rfl rfl rfl (uAk rfl rfl gU gU rfl) ?_;refine uAa rfl rfl rfl (uAc rfl gU) ?_;refine uAa rfl rfl rfl (uAc rfl gU) ?_;refine uAa rfl rfl rfl (uAk rfl rfl (fun hh=>hh) gU rfl) ?_;refine uAa rfl rfl rfl (uAQ rfl rfl gU (fun _ hi=>gP rfl hi)) ?_;refine uAa rfl rfl rfl (uAd rfl gU) ?_;refine uAf ?_;refine uAo ?_
 repeat (first | refine tR ?_ | refine bR ?_)
 refine uAr rfl ?_ trivial
 rfl
theorem pre2 (b : UInt8) (l : List UInt8) : ([35,35] : List UInt8).isPrefixOf (b :: l)=(decide (b.toNat=35) && decide ((l.getD 0 0).toNat=35)):=by
 have hb : ∀ x : UInt8,((35 : UInt8) == x)=decide (x.toNat=35):=by
  intro x
  rw [Bool.eq_iff_iff]
  simp only [beq_iff_eq,decide_eq_true_eq]
  exact ⟨fun h=>by subst h; rfl,fun h=>UInt8.toNat_inj.1 (by rw [h]; rfl)⟩
 cases l with
 | nil=>simp [List.isPrefixOf,hb]
 | cons c r=>simp [List.isPrefixOf,hb]
theorem uDS (s : List UInt8) (hs : s.length≤9223372036854775807) : Ctr sys 142 [xs s] [] (xi (nlE s : Nat)) none []:=by
 refine uAA Tryz.func142 rfl rfl rfl rfl rfl rfl ?_;refine uAe (uAb ?_);refine uAa rfl rfl rfl (uAd rfl gU) ?_;refine uAf ?_;refine uAe (uAb ?_);refine uAa rfl rfl rfl (uAd rfl gU) ?_;refine uAf ?_;refine uAe ?_;refine uAx ?_;refine uA6 (ι:=Nat) { t:=[(0,_,_)],bx:=[],ow:=[] } (fun k=>[(3,true,xi (k : Int))]) (fun k=>[]) (fun k=>1≤k∧(k≤s.length∨k=1)∧nmP (s.drop k) + k=nlE s) (fun k=>s.length - k) (1) (⟨by omega,by omega,by unfold nlE; omega⟩) (uAj (⟨sx rfl,sx rfl,trivial⟩) trivial trivial) ?_
 intro k hok
 dsimp only [List.cons_append,List.nil_append]
 obtain ⟨hk1,hk,hi⟩:=hok
 refine uAe ?_;refine uAe (uAb ?_);refine uAa rfl rfl rfl (uAc rfl gU) ?_;refine uAa rfl rfl rfl (uAc rfl gU) ?_;refine uBl rfl rfl rfl rfl rfl gU (Tryz.underlying9) ?_ (fun hh=>by simp at hh); intro hlen;refine uAa rfl rfl rfl (uAk rfl rfl gU gU rfl) ?_;refine uAa rfl rfl rfl (uAc rfl gU) ?_;refine uAa rfl rfl rfl (uAc rfl gU) ?_;refine uAa rfl rfl rfl (uAc rfl gU) ?_;refine uAa rfl rfl rfl (uAC (j:=k) rfl rfl (fun hh=>hh) (fun hh=>hh) Tryz.underlying9 (by first | omega | (simp at hh ⊢; omega)) (fun hh=>by first | omega | (simp at hh ⊢; omega))) ?_;refine uAw rfl rfl rfl rfl rfl rfl gU (fun hh=>gA ((fun hh=>hh) hh) (rfl)) (uDw _) rfl ?_;refine uAa rfl rfl rfl (uAc rfl (fun hh=>hh)) ?_;refine uAa rfl rfl rfl (uAc rfl gU) ?_;refine uAa rfl rfl rfl (uAc rfl gU) ?_;refine uBo (s:=⟨[(0,_,_),(3,_,_),(8,_,_),(13,_,_),(14,_,_),(15,_,_)],[],[],[]⟩) (uAj (⟨sx rfl,sx rfl,sx rfl,sx rfl,sx rfl,sx rfl,trivial⟩) trivial trivial) ?_;refine uAa rfl rfl rfl (uAC (j:=k) rfl rfl (fun hh=>hh) (fun hh=>hh) Tryz.underlying9 (by first | omega | (simp at hh ⊢; omega)) (fun hh=>by first | omega | (simp at hh ⊢; omega))) ?_;refine uAw rfl rfl rfl rfl rfl rfl gU (fun hh=>gA ((fun hh=>hh) hh) (rfl)) (uD0 _) rfl ?_;refine uAa rfl rfl rfl (uAJ rfl rfl (fun hh=>hh) (fun hh hi=>gP hh hi)) ?_
 refine uAa rfl rfl rfl (uAc rfl (fun hh=>hh)) ?_;refine uAa rfl rfl rfl (uAc rfl gU) ?_;refine uAa rfl rfl rfl (uAc rfl gU) ?_;refine uAa rfl rfl rfl (uAC (j:=k) rfl rfl (fun hh=>hh) (fun hh=>hh) Tryz.underlying9 (by first | omega | (simp at hh ⊢; omega)) (fun hh=>by first | omega | (simp at hh ⊢; omega))) ?_;refine uAa rfl rfl rfl (uAk rfl rfl (fun hh=>hh) gU rfl) ?_;refine uAa rfl rfl rfl (uAJ rfl rfl (fun hh=>hh) (fun hh hi=>gP hh hi)) ?_;refine uAa rfl rfl rfl (uAc rfl (fun hh=>hh)) ?_;refine uAa rfl rfl rfl (uAc rfl gU) ?_;refine uAa rfl rfl rfl (uAc rfl gU) ?_;refine uBo (s:=⟨[(0,_,_),(3,_,_),(8,_,_),(25,_,_),(26,_,_),(27,_,_)],[],[],[]⟩) (uAj (⟨sx rfl,sx rfl,sx rfl,sx rfl,sx rfl,sx rfl,trivial⟩) trivial trivial) ?_;refine uAa rfl rfl rfl (uAC (j:=k) rfl rfl (fun hh=>hh) (fun hh=>hh) Tryz.underlying9 (by first | omega | (simp at hh ⊢; omega)) (fun hh=>by first | omega | (simp at hh ⊢; omega))) ?_;refine uAa rfl rfl rfl (uAk rfl rfl (fun hh=>hh) gU rfl) ?_;refine uAa rfl rfl rfl (uAJ rfl rfl (fun hh=>hh) (fun hh hi=>gP hh hi)) ?_;refine uAa rfl rfl rfl (uAQ rfl rfl gU (fun _ hi=>gP rfl hi)) ?_;refine uAf ?_;refine uAm rfl (fun hc=>?_) (fun hc=>?_)
 ·try simp only [nn] at hc
  rw [uA9 (by omega),nmP] at hi
  refine uAq ?_;refine uAx ?_;refine uAe ?_;refine uAe (uAb ?_);refine uAa rfl rfl rfl (uAc rfl gU) ?_;refine uAa rfl rfl rfl (uAc rfl gU) ?_;refine uAa rfl rfl rfl (uBh (l:=k) rfl gU Tryz.underlying9 (fun _=>⟨_,_,_,rfl,gU,by first | omega | (simp at hh ⊢; omega)⟩) (fun _=>rfl) (fun hh=>by first | omega | (simp at hh ⊢; omega)) (fun hh=>by first | omega | (simp at hh ⊢; omega))) ?_;refine uAw rfl rfl rfl rfl rfl rfl gU gU (uD7 _ _) rfl ?_;refine uAf ?_;refine uAn (s:=⟨[(0,_,_),(3,_,_),(35,_,_)],[],[],[]⟩) (uAj (⟨sx rfl,sx rfl,sx rfl,trivial⟩) trivial trivial) ?_;refine uAm rfl (fun hc2=>?_) (fun hc2=>?_)
  ·try simp only [nn] at hc2
   rw [List.take_length,uA9 (by omega),pre2] at hc2
   refine uAP ?_
   repeat (first | refine uAH ?_ | refine uAF ?_ | refine uAD rfl ?_)
   refine uAe (uAb ?_);refine uAa rfl rfl rfl (uAc rfl gU) ?_;refine uAa rfl rfl rfl (uAd rfl gU) ?_;refine uAf ?_;refine uAo ?_
   repeat (first | refine tR ?_ | refine bR ?_)
   refine uAr rfl ?_ trivial
   (have hn:=hi; rw [if_neg (by intro q; simp only [Bool.and_eq_true,decide_eq_true_eq] at hc2; exact q.2 hc2)] at hn; exact uBg (by omega))
  ·try simp only [nn] at hc2
   rw [List.take_length,uA9 (by omega),pre2] at hc2
   have hn:=hi
   rw [if_pos ⟨by simp only [uBM]; grind,by simpa using hc2⟩] at hn
   refine uAq ?_;refine uAb ?_;refine uAa rfl rfl rfl (uAc rfl gU) ?_;refine uAa rfl rfl rfl (uAu rfl rfl gU gU rfl (IntWalk.i64_in _ (by omega))) ?_;refine uAa rfl rfl rfl (uAd rfl gU) ?_;refine uAf ?_;refine ⟨k + 1,?_,?_,uAj (⟨⟨_,rfl,?_⟩,⟨sx rfl,trivial⟩⟩) trivial trivial⟩
   all_goals (first | rfl | omega | exact ⟨by omega,by omega,by omega⟩)
 ·try simp only [nn] at hc
  refine uAP ?_
  repeat (first | refine uAH ?_ | refine uAF ?_ | refine uAD rfl ?_)
  refine uAe (uAb ?_);refine uAa rfl rfl rfl (uAc rfl gU) ?_;refine uAa rfl rfl rfl (uAd rfl gU) ?_;refine uAf ?_;refine uAo ?_
  repeat (first | refine tR ?_ | refine bR ?_)
  refine uAr rfl ?_ trivial
  (have hn : nmP (s.drop k)=0:=by { by_cases hlt : k < s.length; { rw [uA9 hlt,nmP,if_neg (by simp only [uBM]; grind)] }; { rw [List.drop_of_length_le (by omega)]; rfl } }; exact uBg (by omega))
theorem hexI : ∀ n : Fin 256,Lib.indexByte hexs (UInt8.ofNat n.val)=if hexB (UInt8.ofNat n.val)=true then hexV (UInt8.ofNat n.val) else -1:=by decide +kernel
theorem uH5 (c : UInt8) : Lib.indexByte hexs c=if hexB c=true then hexV c else -1:=by
 have := hexI ⟨c.toNat,c.toNat_lt⟩
 rwa [show UInt8.ofNat c.toNat=c from UInt8.ofNat_toNat] at this
theorem uDC {c : UInt8} (h : hexB c=true) : 0≤hexV c∧hexV c≤15:=by
 simp [hexB] at h
 unfold hexV
 split <;> omega
theorem symI : ∀ n : Fin 256,(decide (0≤Lib.indexByte syms (UInt8.ofNat n.val)))=symB (UInt8.ofNat n.val):=by decide +kernel
theorem uLI (c : UInt8) : decide (0≤Lib.indexByte syms c)=symB c:=by
 have := symI ⟨c.toNat,c.toNat_lt⟩
 rwa [show UInt8.ofNat c.toNat=c from UInt8.ofNat_toNat] at this
theorem uL1 {x : Int} {n : Nat} (h : x=n) (hn : n < 256) : x=((UInt8.ofNat n).toNat : Int):=by
 rw [h,UInt8.toNat_ofNat']; omega
theorem uJa {n i : Nat} {l out : List UInt8} (h : l=[]) : litA n l i out=([],0):=by subst h; cases n <;> rfl
end Go.Proofs.YtnjjdbapadkomaaGreatDoor
namespace Go.Proofs.YtnjjdbapadkomaaGreatDoor
open Go Go.Abs
theorem uKM {s : List UInt8} {k : Nat} (h : k < s.length) : escE (s.drop k)=if (s.getD k 0).toNat=110 then (10,1) else if (s.getD k 0).toNat=116 then (9,1) else if (s.getD k 0).toNat=34∨(s.getD k 0).toNat=92 then (s.getD k 0,1)
  else if (s.getD k 0).toNat=120∧k + 2 < s.length∧hexB (s.getD (k + 1) 0)=true∧hexB (s.getD (k + 2) 0)=true then (UInt8.ofNat (16 * hexV (s.getD (k + 1) 0) + hexV (s.getD (k + 2) 0)).toNat,3) else (0,0):=by
 have e : (2≤s.length - (k + 1))=(k + 2 < s.length):=propext (by omega)
 rw [uA9 h,escE,uHP,uHP,List.length_drop]
 simp only [e,Nat.add_zero]
theorem uL8 {s : List UInt8} {k : Nat} (h : s.length≤k) : escE (s.drop k)=(0,0):=by
 rw [List.drop_of_length_le h]; rfl
theorem uHt {s out : List UInt8} {n k : Nat} (h : k < s.length) : litA (n + 1) (s.drop k) k out=if (s.getD k 0).toNat=34 then (out,k + 1)
  else if (s.getD k 0).toNat=92 then (if (escE (s.drop (k + 1))).2=0 then ([],0) else litA n (s.drop (k + 1 + (escE (s.drop (k + 1))).2)) (k + 1 + (escE (s.drop (k + 1))).2) (out++[(escE (s.drop (k + 1))).1]))
  else if (s.getD k 0).toNat < 32∨126 < (s.getD k 0).toNat then ([],0) else litA n (s.drop (k + 1)) (k + 1) (out++[s.getD k 0]):=by
 rw [uA9 h,litA,List.drop_drop]
theorem uKx {c : UInt8} (h : ¬Lib.indexByte hexs c < 0) : hexB c=true∧Lib.indexByte hexs c=hexV c:=by
 rw [uH5] at h ⊢
 by_cases hb : hexB c=true
 ·rw [if_pos hb]; exact ⟨hb,rfl⟩
 ·rw [if_neg hb] at h; omega
theorem hex_neg' {c : UInt8} (h : Lib.indexByte hexs c < 0) : hexB c≠true:=by
 intro hb
 rw [uH5,if_pos hb] at h
 have := uDC hb
 omega
theorem uK8 (s : List UInt8) (h : 0 < s.length) (hs : s.length≤2000000) : Ctr sys 150 [xs s] [] (xsn (litE s)) none []:=by
 refine uAA Tryz.func150 rfl rfl rfl rfl rfl rfl ?_;refine uAe (uAb ?_);refine uAa rfl rfl rfl (uAd rfl gU) ?_;refine uAa rfl rfl rfl (uAd rfl gU) ?_;refine uAf ?_;refine uAe (uAb ?_);refine uAs rfl (uIc (u:=495621) rfl rfl rfl rfl rfl) ?_;refine uAf ?_;refine uAe ?_;refine uAe (uAb ?_);refine uAa rfl rfl rfl (uAd rfl gU) ?_;refine uAf ?_;refine uAx ?_;refine uA6 (ι:=Nat × List UInt8) { t:=[(0,_,_),(4,_,_)],bx:=[],ow:=[((.b (.bd 495621 4) 1),_)] } (fun p=>[(5,true,xi (p.1 : Int))]) (fun p=>[((.bd 495621 4),[.bl, .sl 1 (uBj p.2)])]) (fun p=>p.1≤s.length∧p.2.length≤p.1 ∧ ∃ n,s.length < n + p.1∧litA n (s.drop p.1) p.1 p.2=litE s) (fun p=>s.length - p.1) ((1,[])) (⟨by dsimp only; omega,by simp,s.length + 1,by dsimp only; omega,rfl⟩) (uAj (⟨sx rfl,sx rfl,sx rfl,trivial⟩) (⟨sx rfl,trivial⟩) (⟨rfl,trivial⟩)) ?_
 intro p hok
 dsimp only [List.cons_append,List.nil_append] at *
 obtain ⟨k,out⟩:=p
 dsimp only at hok ⊢
 obtain ⟨hk,ho,n,hn,hi⟩:=hok
 obtain ⟨n,rfl⟩ : ∃ m,n=m + 1:=⟨n - 1,by omega⟩
 have hu:=(s.getD k 0).toNat_lt
 have hu1:=(s.getD (k + 1) 0).toNat_lt
 refine uAe ?_;refine uAe (uAb ?_);refine uAa rfl rfl rfl (uAc rfl gU) ?_;refine uAa rfl rfl rfl (uAc rfl gU) ?_;refine uBl rfl rfl rfl rfl rfl gU (Tryz.underlying9) ?_ (fun hh=>by simp at hh); intro hlen;refine uAa rfl rfl rfl (uAk rfl rfl gU gU rfl) ?_;refine uAf ?_;refine uAm rfl (fun hc=>?_) (fun hc=>?_)
 ·try simp only [nn] at hc
  rw [uHt (by omega)] at hi
  refine uAq ?_;refine uAe ?_;refine uAx ?_;refine uAe (uAb ?_);refine uAa rfl rfl rfl (uAc rfl gU) ?_;refine uAa rfl rfl rfl (uAc rfl gU) ?_;refine uAa rfl rfl rfl (uAC (j:=k) rfl rfl gU gU Tryz.underlying9 (by omega) (fun hh=>by omega)) ?_;refine uAa rfl rfl rfl (uAd rfl gU) ?_;refine uAf ?_;refine uAn (s:=⟨[(0,_,_),(4,_,_),(5,_,_),(6,_,_)],[(.bd 495621 4,_)],[((.b (.bd 495621 4) 1),_)],[]⟩) (uAj (⟨sx rfl,sx rfl,sx rfl,sx rfl,trivial⟩) (⟨sx rfl,trivial⟩) (⟨rfl,trivial⟩)) ?_;refine uAx ?_;refine uAe (uAb ?_);refine uAa rfl rfl rfl (uAc rfl gU) ?_;refine uAa rfl rfl rfl (uAk rfl rfl gU gU rfl) ?_;refine uAa rfl rfl rfl (uAd rfl gU) ?_;refine uAf ?_;refine uAm rfl (fun hc2=>?_) (fun hc2=>?_)
  ·try simp only [nn] at hc2
   rw [if_pos (by omega)] at hi
   refine uAe (uAb ?_);refine uNF bds rfl rfl rfl rfl rfl rfl rfl rfl ?_;refine uAa rfl rfl rfl (uAc rfl gU) ?_;refine uAa rfl rfl rfl (uAu rfl rfl gU gU rfl (IntWalk.i64_in _ (by omega))) ?_;refine uAa rfl rfl rfl (uAd rfl gU) ?_;refine uAa rfl rfl rfl (uAd rfl gU) ?_;refine uAf ?_;refine uAo ?_
   repeat (first | refine tR ?_ | refine bR ?_)
   refine uAr rfl ?_ trivial
   (rw [← hi]; rfl)
  ·try simp only [nn] at hc2
   rw [if_neg (by omega)] at hi
   refine uAe (uAb ?_);refine uAa rfl rfl rfl (uAc rfl gU) ?_;refine uAa rfl rfl rfl (uAk rfl rfl gU gU rfl) ?_;refine uAa rfl rfl rfl (uAd rfl gU) ?_;refine uAf ?_;refine uAn (s:=⟨[(0,_,_),(4,_,_),(5,_,_),(6,_,_),(24,_,_)],[(.bd 495621 4,_)],[((.b (.bd 495621 4) 1),_)],[]⟩) (uAj (⟨sx rfl,sx rfl,sx rfl,sx rfl,sx rfl,trivial⟩) (⟨sx rfl,trivial⟩) (⟨rfl,trivial⟩)) ?_;refine uAm rfl (fun hc3=>?_) (fun hc3=>?_)
   ·try simp only [nn] at hc3
    rw [if_pos (by omega)] at hi
    refine uAe (uAb ?_);refine uAa rfl rfl rfl (uAc rfl gU) ?_;refine uAa rfl rfl rfl (uAu rfl rfl gU gU rfl (IntWalk.i64_in _ (by omega))) ?_;refine uAa rfl rfl rfl (uAd rfl gU) ?_;refine uAf ?_;refine uAe ?_;refine uAe (uAb ?_);refine uAa rfl rfl rfl (uAc rfl gU) ?_;refine uAa rfl rfl rfl (uAc rfl gU) ?_;refine uBl rfl rfl rfl rfl rfl gU (Tryz.underlying9) ?_ (fun hh=>by simp at hh); intro hlen;refine uAa rfl rfl rfl (uAk rfl rfl gU gU rfl) ?_;refine uAf ?_;refine uAn (s:=⟨[(0,_,_),(4,_,_),(5,_,_),(32,_,_)],[(.bd 495621 4,_)],[((.b (.bd 495621 4) 1),_)],[]⟩) (uAj (⟨sx rfl,sx rfl,sx rfl,sx rfl,trivial⟩) (⟨sx rfl,trivial⟩) (⟨rfl,trivial⟩)) ?_;refine uAm rfl (fun hc4=>?_) (fun hc4=>?_)
    ·try simp only [nn] at hc4
     rw [uL8 (by omega),if_pos rfl] at hi
     refine uAe (uAb ?_);refine uAa rfl rfl rfl (uAd rfl gU) ?_;refine uAa rfl rfl rfl (uAd rfl gU) ?_;refine uAf ?_;refine uAo ?_
     repeat (first | refine tR ?_ | refine bR ?_)
     refine uAr rfl ?_ trivial
     (rw [← hi]; rfl)
    ·try simp only [nn] at hc4
     have he:=uKM (s:=s) (k:=k + 1) (by omega)
     refine uAq ?_;refine uAe (uAb ?_);refine uAa rfl rfl rfl (uAc rfl gU) ?_;refine uAa rfl rfl rfl (uAc rfl gU) ?_;refine uAa rfl rfl rfl (uAC (j:=k + 1) rfl rfl gU gU Tryz.underlying9 (by omega) (fun hh=>by omega)) ?_;refine uAf ?_;refine uAx ?_;refine uAe (uAb ?_);refine uAa rfl rfl rfl (uAk rfl rfl gU gU rfl) ?_;refine uAa rfl rfl rfl (uAd rfl gU) ?_;refine uAf ?_;refine uAn (s:=⟨[(0,_,_),(4,_,_),(5,_,_),(35,_,_),(36,_,_)],[(.bd 495621 4,_)],[((.b (.bd 495621 4) 1),_)],[]⟩) (uAj (⟨sx rfl,sx rfl,sx rfl,sx rfl,sx rfl,trivial⟩) (⟨sx rfl,trivial⟩) (⟨rfl,trivial⟩)) ?_;refine uAm rfl (fun hc5=>?_) (fun hc5=>?_)
     ·try simp only [nn] at hc5
      rw [if_pos (by omega)] at he
      rw [he,if_neg (by simp)] at hi
      refine uAb ?_;refine uFk bds (c:=10) rfl rfl rfl rfl rfl rfl rfl rfl rfl (by (try simp only [List.length_append,List.length_singleton]); omega) ?_;refine uAf ?_;refine uAb ?_;refine uAa rfl rfl rfl (uAc rfl gU) ?_;refine uAa rfl rfl rfl (uAu rfl rfl gU gU rfl (IntWalk.i64_in _ (by omega))) ?_;refine uAa rfl rfl rfl (uAd rfl gU) ?_;refine uAf ?_;refine ⟨(k + 2,out++[10]),?_,?_,uAj (⟨⟨_,rfl,?_⟩,⟨sx rfl,sx rfl,trivial⟩⟩) (⟨⟨_,rfl,?_⟩,trivial⟩) (⟨rfl,trivial⟩)⟩
      all_goals (first | rfl | omega | (refine ⟨by omega,by simp; omega,n,by omega,hi⟩))
     ·try simp only [nn] at hc5
      rw [if_neg (by omega)] at he
      refine uAe (uAb ?_);refine uAa rfl rfl rfl (uAk rfl rfl gU gU rfl) ?_;refine uAa rfl rfl rfl (uAd rfl gU) ?_;refine uAf ?_;refine uAm rfl (fun hc6=>?_) (fun hc6=>?_)
      ·try simp only [nn] at hc6
       rw [if_pos (by omega)] at he
       rw [he,if_neg (by simp)] at hi
       refine uAb ?_;refine uFk bds (c:=9) rfl rfl rfl rfl rfl rfl rfl rfl rfl (by (try simp only [List.length_append,List.length_singleton]); omega) ?_;refine uAf ?_;refine uAb ?_;refine uAa rfl rfl rfl (uAc rfl gU) ?_;refine uAa rfl rfl rfl (uAu rfl rfl gU gU rfl (IntWalk.i64_in _ (by omega))) ?_;refine uAa rfl rfl rfl (uAd rfl gU) ?_;refine uAf ?_;refine ⟨(k + 2,out++[9]),?_,?_,uAj (⟨⟨_,rfl,?_⟩,⟨sx rfl,sx rfl,trivial⟩⟩) (⟨⟨_,rfl,?_⟩,trivial⟩) (⟨rfl,trivial⟩)⟩
       all_goals (first | rfl | omega | (refine ⟨by omega,by simp; omega,n,by omega,hi⟩))
      ·try simp only [nn] at hc6
       rw [if_neg (by omega)] at he
       refine uAe ?_;refine uAe (uAb ?_);refine uAa rfl rfl rfl (uAk rfl rfl gU gU rfl) ?_;refine uAa rfl rfl rfl (uAd rfl gU) ?_;refine uAf ?_;refine uAm rfl (fun hc7=>?_) (fun hc7=>?_)
       ·try simp only [nn] at hc7
        rw [if_pos (by omega)] at he
        rw [he,if_neg (by simp)] at hi
        refine uAq ?_;refine uAm rfl (fun hc8=>?_) (fun hc8=>?_)
        ·try simp only [nn] at hc8
         refine uAb ?_;refine uAa rfl rfl rfl (uAc rfl gU) ?_;refine uAa rfl rfl rfl (uAc rfl gU) ?_;refine uAa rfl rfl rfl (uAC (j:=k + 1) rfl rfl gU gU Tryz.underlying9 (by omega) (fun hh=>by omega)) ?_;refine uFk bds (c:=s.getD (k + 1) 0) rfl rfl rfl rfl rfl rfl (by rfl) rfl rfl (by (try simp only [List.length_append,List.length_singleton]); omega) ?_;refine uAf ?_;refine uAn (s:=⟨[(0,_,_),(4,_,_),(5,_,_)],[(.bd 495621 4,_)],[((.b (.bd 495621 4) 1),_)],[]⟩) (uAj (⟨sx rfl,sx rfl,sx rfl,trivial⟩) (⟨sx rfl,trivial⟩) (⟨rfl,trivial⟩)) ?_;refine uAb ?_;refine uAa rfl rfl rfl (uAc rfl gU) ?_;refine uAa rfl rfl rfl (uAu rfl rfl gU gU rfl (IntWalk.i64_in _ (by omega))) ?_;refine uAa rfl rfl rfl (uAd rfl gU) ?_;refine uAf ?_;refine ⟨(k + 2,out++[s.getD (k + 1) 0]),?_,?_,uAj (⟨⟨_,rfl,?_⟩,⟨sx rfl,sx rfl,trivial⟩⟩) (⟨⟨_,rfl,?_⟩,trivial⟩) (⟨rfl,trivial⟩)⟩
         all_goals (first | rfl | omega | (refine ⟨by omega,by simp; omega,n,by omega,hi⟩))
        ·try simp only [nn] at hc8
         exfalso; omega
       ·try simp only [nn] at hc7
        refine uAb ?_;refine uAa rfl rfl rfl (uAk rfl rfl gU gU rfl) ?_;refine uAa rfl rfl rfl (uAd rfl gU) ?_;refine uAf ?_;refine uAn (s:=⟨[(0,_,_),(4,_,_),(5,_,_),(35,_,_),(42,_,_)],[(.bd 495621 4,_)],[((.b (.bd 495621 4) 1),_)],[]⟩) (uAj (⟨sx rfl,sx rfl,sx rfl,sx rfl,sx rfl,trivial⟩) (⟨sx rfl,trivial⟩) (⟨rfl,trivial⟩)) ?_;refine uAm rfl (fun hc8=>?_) (fun hc8=>?_)
        ·try simp only [nn] at hc8
         rw [if_pos (by omega)] at he
         rw [he,if_neg (by simp)] at hi
         refine uAb ?_;refine uAa rfl rfl rfl (uAc rfl gU) ?_;refine uAa rfl rfl rfl (uAc rfl gU) ?_;refine uAa rfl rfl rfl (uAC (j:=k + 1) rfl rfl gU gU Tryz.underlying9 (by omega) (fun hh=>by omega)) ?_;refine uFk bds (c:=s.getD (k + 1) 0) rfl rfl rfl rfl rfl rfl (by rfl) rfl rfl (by (try simp only [List.length_append,List.length_singleton]); omega) ?_;refine uAf ?_;refine uAb ?_;refine uAa rfl rfl rfl (uAc rfl gU) ?_;refine uAa rfl rfl rfl (uAu rfl rfl gU gU rfl (IntWalk.i64_in _ (by omega))) ?_;refine uAa rfl rfl rfl (uAd rfl gU) ?_;refine uAf ?_;refine ⟨(k + 2,out++[s.getD (k + 1) 0]),?_,?_,uAj (⟨⟨_,rfl,?_⟩,⟨sx rfl,sx rfl,trivial⟩⟩) (⟨⟨_,rfl,?_⟩,trivial⟩) (⟨rfl,trivial⟩)⟩
         all_goals (first | rfl | omega | (refine ⟨by omega,by simp; omega,n,by omega,hi⟩))
        ·try simp only [nn] at hc8
         rw [if_neg (by omega)] at he
         refine uAe (uAb ?_);refine uAa rfl rfl rfl (uAk rfl rfl gU gU rfl) ?_;refine uAa rfl rfl rfl (uAd rfl gU) ?_;refine uAf ?_;refine uAm rfl (fun hc9=>?_) (fun hc9=>?_)
         ·try simp only [nn] at hc9
          refine uAe ?_;refine uAe (uAb ?_);refine uAa rfl rfl rfl (uAc rfl gU) ?_;refine uAa rfl rfl rfl (uAu rfl rfl gU gU rfl (IntWalk.i64_in _ (by omega))) ?_;refine uAa rfl rfl rfl (uAc rfl gU) ?_;refine uBl rfl rfl rfl rfl rfl gU (Tryz.underlying9) ?_ (fun hh=>by simp at hh); intro hlen;refine uAa rfl rfl rfl (uAk rfl rfl gU gU rfl) ?_;refine uAf ?_;refine uAn (s:=⟨[(0,_,_),(4,_,_),(5,_,_),(55,_,_)],[(.bd 495621 4,_)],[((.b (.bd 495621 4) 1),_)],[]⟩) (uAj (⟨sx rfl,sx rfl,sx rfl,sx rfl,trivial⟩) (⟨sx rfl,trivial⟩) (⟨rfl,trivial⟩)) ?_;refine uAm rfl (fun hca=>?_) (fun hca=>?_)
          ·try simp only [nn] at hca
           rw [if_neg (by omega)] at he
           rw [he,if_pos rfl] at hi
           refine uAe (uAb ?_);refine uAa rfl rfl rfl (uAd rfl gU) ?_;refine uAa rfl rfl rfl (uAd rfl gU) ?_;refine uAf ?_;refine uAo ?_
           repeat (first | refine tR ?_ | refine bR ?_)
           refine uAr rfl ?_ trivial
           (rw [← hi]; rfl)
          ·try simp only [nn] at hca
           refine uAq ?_;refine uAe ?_;refine awp_drawn' (by kernel_rfl) ?_;refine uAi rfl rfl rfl rfl (uAc rfl gU) ?_;refine uAi rfl rfl rfl rfl (uAc rfl gU) ?_;refine uAi rfl rfl rfl rfl (uAu rfl rfl gU gU rfl (IntWalk.i64_in _ (by omega))) ?_;refine uAi rfl rfl rfl rfl (uAC (j:=k + 1 + 1) rfl rfl gU gU Tryz.underlying9 (by omega) (fun hh=>by omega)) ?_;refine uBa rfl rfl rfl rfl rfl rfl rfl gU gU (uDc hexs _ _ rfl) rfl ?_;refine uAi rfl rfl rfl rfl (uAc rfl gU) ?_;refine uAi rfl rfl rfl rfl (uAc rfl gU) ?_;refine uAi rfl rfl rfl rfl (uAu rfl rfl gU gU rfl (IntWalk.i64_in _ (by omega))) ?_;refine uAi rfl rfl rfl rfl (uAC (j:=k + 1 + 2) rfl rfl gU gU Tryz.underlying9 (by omega) (fun hh=>by omega)) ?_;refine uBa rfl rfl rfl rfl rfl rfl rfl gU gU (uDc hexs _ _ rfl) rfl ?_;refine uAi rfl rfl rfl rfl (uAd rfl gU) ?_;refine uAi rfl rfl rfl rfl (uAd rfl gU) ?_;refine uBe (by kernel_rfl) ?_;refine uAn (s:=⟨[(0,_,_),(4,_,_),(5,_,_),(7,_,_),(8,_,_)],[(.bd 495621 4,_)],[((.b (.bd 495621 4) 1),_)],[]⟩) (uAj (⟨sx rfl,sx rfl,sx rfl,sx rfl,sx rfl,trivial⟩) (⟨sx rfl,trivial⟩) (⟨(ak rfl (ak rfl (ak rfl (ak rfl (ak rfl (ak rfl (ak rfl (ak rfl (ak rfl (ak rfl (ak rfl (ak rfl (rfl))))))))))))),trivial⟩)) ?_;refine uAe ?_;refine uAe (uAb ?_);refine uAa rfl rfl rfl (uAc rfl gU) ?_
           refine uAa rfl rfl rfl (uAk rfl rfl gU gU rfl) ?_;refine uAa rfl rfl rfl (uAc rfl gU) ?_;refine uAa rfl rfl rfl (uAc rfl gU) ?_;refine uAa rfl rfl rfl (uAk rfl rfl (fun hh=>hh) gU rfl) ?_;refine uAa rfl rfl rfl (uAJ rfl rfl gU (fun _ hi=>gP rfl hi)) ?_;refine uAf ?_;refine uAn (s:=⟨[(0,_,_),(4,_,_),(5,_,_),(7,_,_),(8,_,_),(71,_,_)],[(.bd 495621 4,_)],[((.b (.bd 495621 4) 1),_)],[]⟩) (uAj (⟨sx rfl,sx rfl,sx rfl,sx rfl,sx rfl,sx rfl,trivial⟩) (⟨sx rfl,trivial⟩) (⟨rfl,trivial⟩)) ?_;refine uAm rfl (fun hcb=>?_) (fun hcb=>?_)
           ·try simp only [nn] at hcb
            have hx : ¬(hexB (s.getD (k + 1 + 1) 0)=true∧hexB (s.getD (k + 1 + 2) 0)=true):=by
             intro q
             rcases hcb with hq | hq
             ·exact hex_neg' hq q.1
             ·exact hex_neg' hq q.2
            rw [if_neg (fun q=>hx q.2.2)] at he
            rw [he,if_pos rfl] at hi
            refine uAe (uAb ?_);refine uAa rfl rfl rfl (uAd rfl gU) ?_;refine uAa rfl rfl rfl (uAd rfl gU) ?_;refine uAf ?_;refine uAo ?_
            repeat (first | refine tR ?_ | refine bR ?_)
            refine uAr rfl ?_ trivial
            (rw [← hi]; rfl)
           ·try simp only [nn] at hcb
            obtain ⟨x1,x2⟩:=uKx (c:=s.getD (k + 1 + 1) 0) (by omega)
            obtain ⟨y1,y2⟩:=uKx (c:=s.getD (k + 1 + 2) 0) (by omega)
            have x3:=uDC x1
            have y3:=uDC y1
            rw [if_pos ⟨by omega,by omega,x1,y1⟩] at he
            rw [he,if_neg (by simp)] at hi
            refine uAq ?_;refine uAe (uAb ?_);refine uAa rfl rfl rfl (uAc rfl gU) ?_;refine uAa rfl rfl rfl (uAu rfl rfl gU gU rfl (IntWalk.i64_in _ (by omega))) ?_;refine uAa rfl rfl rfl (uAc rfl gU) ?_;refine uAa rfl rfl rfl (uAu rfl rfl gU gU rfl (IntWalk.i64_in _ (by omega))) ?_;refine uAa rfl rfl rfl (uCZ rfl gU ⟨_,Tryz.underlying3⟩ (Tryz.underlying5) (IntWalk.u8_in _ (by omega))) ?_;refine uFk bds (c:=UInt8.ofNat (16 * hexV (s.getD (k + 1 + 1) 0) + hexV (s.getD (k + 1 + 2) 0)).toNat) rfl rfl rfl rfl rfl rfl (by exact uL1 (by omega) (by omega)) rfl rfl (by (try simp only [List.length_append,List.length_singleton]); omega) ?_;refine uAf ?_;refine uAn (s:=⟨[(0,_,_),(4,_,_),(5,_,_)],[(.bd 495621 4,_)],[((.b (.bd 495621 4) 1),_)],[]⟩) (uAj (⟨sx rfl,sx rfl,sx rfl,trivial⟩) (⟨sx rfl,trivial⟩) (⟨rfl,trivial⟩)) ?_;refine uAb ?_;refine uAa rfl rfl rfl (uAc rfl gU) ?_;refine uAa rfl rfl rfl (uAu rfl rfl gU gU rfl (IntWalk.i64_in _ (by omega))) ?_;refine uAa rfl rfl rfl (uAd rfl gU) ?_;refine uAf ?_;refine uAb ?_;refine uAa rfl rfl rfl (uAc rfl gU) ?_;refine uAa rfl rfl rfl (uAu rfl rfl gU gU rfl (IntWalk.i64_in _ (by omega))) ?_;refine uAa rfl rfl rfl (uAd rfl gU) ?_;refine uAf ?_;refine ⟨(k + 4,out++[UInt8.ofNat (16 * hexV (s.getD (k + 1 + 1) 0) + hexV (s.getD (k + 1 + 2) 0)).toNat]),?_,?_,uAj (⟨⟨_,rfl,?_⟩,⟨sx rfl,sx rfl,trivial⟩⟩) (⟨⟨_,rfl,?_⟩,trivial⟩) (⟨rfl,trivial⟩)⟩
            all_goals (first | rfl | omega | (refine ⟨by omega,by simp; omega,n,by omega,hi⟩))
         ·try simp only [nn] at hc9
          rw [if_neg (by omega)] at he
          rw [he,if_pos rfl] at hi
          refine uAe (uAb ?_);refine uAa rfl rfl rfl (uAd rfl gU) ?_;refine uAa rfl rfl rfl (uAd rfl gU) ?_;refine uAf ?_;refine uAo ?_
          repeat (first | refine tR ?_ | refine bR ?_)
          refine uAr rfl ?_ trivial
          (rw [← hi]; rfl)
   ·try simp only [nn] at hc3
    rw [if_neg (by omega)] at hi
    refine uAe (uAb ?_);refine uAa rfl rfl rfl (uAc rfl gU) ?_;refine uAa rfl rfl rfl (uAk rfl rfl gU gU rfl) ?_;refine uAa rfl rfl rfl (uAc rfl gU) ?_;refine uAa rfl rfl rfl (uAc rfl gU) ?_;refine uAa rfl rfl rfl (uAk rfl rfl (fun hh=>hh) gU rfl) ?_;refine uAa rfl rfl rfl (uAQ rfl rfl gU (fun _ hi=>gP rfl hi)) ?_;refine uAa rfl rfl rfl (uAd rfl gU) ?_;refine uAf ?_;refine uAn (s:=⟨[(0,_,_),(4,_,_),(5,_,_),(6,_,_),(80,_,_)],[(.bd 495621 4,_)],[((.b (.bd 495621 4) 1),_)],[]⟩) (uAj (⟨sx rfl,sx rfl,sx rfl,sx rfl,sx rfl,trivial⟩) (⟨sx rfl,trivial⟩) (⟨rfl,trivial⟩)) ?_;refine uAm rfl (fun hc4=>?_) (fun hc4=>?_)
    ·try simp only [nn] at hc4
     rw [if_neg (by omega)] at hi
     refine uAb ?_;refine uAa rfl rfl rfl (uAc rfl gU) ?_;refine uFk bds (c:=s.getD k 0) rfl rfl rfl rfl rfl rfl (by rfl) rfl rfl (by (try simp only [List.length_append,List.length_singleton]); omega) ?_;refine uAf ?_;refine uAb ?_;refine uAa rfl rfl rfl (uAc rfl gU) ?_;refine uAa rfl rfl rfl (uAu rfl rfl gU gU rfl (IntWalk.i64_in _ (by omega))) ?_;refine uAa rfl rfl rfl (uAd rfl gU) ?_;refine uAf ?_;refine ⟨(k + 1,out++[s.getD k 0]),?_,?_,uAj (⟨⟨_,rfl,?_⟩,⟨sx rfl,sx rfl,trivial⟩⟩) (⟨⟨_,rfl,?_⟩,trivial⟩) (⟨rfl,trivial⟩)⟩
     all_goals (first | rfl | omega | (refine ⟨by omega,by simp; omega,n,by omega,hi⟩))
    ·try simp only [nn] at hc4
     rw [if_pos (by omega)] at hi
     refine uAe (uAb ?_);refine uAa rfl rfl rfl (uAd rfl gU) ?_;refine uAa rfl rfl rfl (uAd rfl gU) ?_;refine uAf ?_;refine uAo ?_
     repeat (first | refine tR ?_ | refine bR ?_)
     refine uAr rfl ?_ trivial
     (rw [← hi]; rfl)
 ·try simp only [nn] at hc
  rw [uJa (List.drop_of_length_le (by omega))] at hi
  refine uAP ?_
  repeat (first | refine uAH ?_ | refine uAF ?_ | refine uAD rfl ?_)
  refine uAe (uAb ?_);refine uAa rfl rfl rfl (uAd rfl gU) ?_;refine uAa rfl rfl rfl (uAd rfl gU) ?_;refine uAf ?_;refine uAo ?_
  repeat (first | refine tR ?_ | refine bR ?_)
  refine uAr rfl ?_ trivial
  (rw [← hi]; rfl)
end Go.Proofs.YtnjjdbapadkomaaGreatDoor
namespace Go.Proofs.YtnjjdbapadkomaaGreatDoor
open Go Go.Abs
theorem uH3 {n : Int} (h : uBu n=true) : 48≤n∧n≤57:=by simpa [uBu] using h
theorem uLa (s : List UInt8) (h : 0 < s.length) (hs : s.length≤2000000) : Ctr sys 108 [xs s] [] (xnx (uBA s)) none []:=by
 have h1:=uKl h
 have h3:=uIl s h
 refine uAA Tryz.func108 rfl rfl rfl rfl rfl rfl ?_;refine uAe (uAb ?_);refine uAs rfl (uAI rfl rfl rfl) ?_;refine uAa rfl rfl rfl (uAd rfl gU) ?_;refine uAa rfl rfl rfl (uAd rfl gU) ?_;refine uAf ?_;refine uAe ?_;refine uAe (uAb ?_);refine uAa rfl rfl rfl (uAc rfl gU) ?_;refine uAa rfl rfl rfl (uAC (j:=0) rfl rfl gU gU Tryz.underlying9 (by first | omega | (simp at hh ⊢; omega)) (fun hh=>by first | omega | (simp at hh ⊢; omega))) ?_;refine uAa rfl rfl rfl (uAd rfl gU) ?_;refine uAf ?_;refine uAn (s:=⟨[(0,_,_),(2,_,_),(5,_,_)],[(.l 2,_)],[],[]⟩) (uAj (⟨sx rfl,sx rfl,sx rfl,trivial⟩) (⟨sx rfl,trivial⟩) trivial) ?_;refine uAx ?_;refine uAe (uAb ?_);refine uAa rfl rfl rfl (uAc rfl gU) ?_;refine uAw rfl rfl rfl rfl rfl rfl gU gU (uDw _) rfl ?_;refine uAa rfl rfl rfl (uAd rfl gU) ?_;refine uAf ?_;refine uAm rfl (fun hc=>?_) (fun hc=>?_)
 ·try simp only [nn] at hc
  rw [uBA,if_pos hc]
  refine uAe (uAb ?_);refine uAa rfl rfl rfl (uAc rfl gU) ?_;refine uAw rfl rfl rfl rfl rfl rfl gU gU (uDS _ (by omega)) rfl ?_;refine uAa rfl rfl rfl (uAd rfl gU) ?_;refine uAf ?_;refine uAn (s:=⟨[(0,_,_),(2,_,_),(6,_,_)],[(.l 2,_)],[],[]⟩) (uAj (⟨sx rfl,sx rfl,sx rfl,trivial⟩) (⟨sx rfl,trivial⟩) trivial) ?_;refine uAe ?_;refine uAe (uAb ?_);refine uAa rfl rfl rfl (uAc rfl gU) ?_;refine uAa rfl rfl rfl (uAk rfl rfl gU gU rfl) ?_;refine uAf ?_;refine uAm rfl (fun hc2=>?_) (fun hc2=>?_)
  ·try simp only [nn] at hc2
   refine uAe (uAb ?_);refine uAa rfl rfl rfl (uAS rfl Tryz.underlying50 rfl gU) ?_;refine uAs rfl (uAt rfl rfl rfl rfl rfl rfl rfl) ?_;refine uAa rfl rfl rfl (uAd rfl gU) ?_;refine uAa rfl rfl rfl (uAd rfl gU) ?_;refine uAf ?_;refine uAo ?_
   repeat (first | refine tR ?_ | refine bR ?_)
   refine uAr rfl ?_ trivial
   (rw [if_pos (by omega)]; rfl)
  ·try simp only [nn] at hc2
   refine uAq ?_;refine uAe (uAb ?_);refine uAa rfl rfl rfl (uAc rfl gU) ?_;refine uAa rfl rfl rfl (uAc rfl gU) ?_;refine uAa rfl rfl rfl (uBh (h':=(nlE s)) rfl gU Tryz.underlying9 (fun _=>rfl) (fun _=>⟨_,_,_,rfl,gU,by first | omega | (simp at hh ⊢; omega)⟩) (fun hh=>by first | omega | (simp at hh ⊢; omega)) (fun hh=>by first | omega | (simp at hh ⊢; omega))) ?_;refine uAa rfl rfl rfl (uAS rfl Tryz.underlying50 rfl gU) ?_;refine uAa rfl rfl rfl (uAc rfl gU) ?_;refine uAs rfl (uAt rfl rfl rfl rfl rfl rfl rfl) ?_;refine uAa rfl rfl rfl (uAd rfl gU) ?_;refine uAa rfl rfl rfl (uAd rfl gU) ?_;refine uAf ?_;refine uAo ?_
   repeat (first | refine tR ?_ | refine bR ?_)
   refine uAr rfl ?_ trivial
   (rw [if_neg (by omega)]; rfl)
 ·try simp only [nn] at hc
  rw [uBA,if_neg (by rw [hc]; exact Bool.false_ne_true)]
  refine uAe (uAb ?_);refine uAa rfl rfl rfl (uAc rfl gU) ?_;refine uAw rfl rfl rfl rfl rfl rfl gU gU (uD0 _) rfl ?_;refine uAa rfl rfl rfl (uAd rfl gU) ?_;refine uAf ?_;refine uAn (s:=⟨[(0,_,_),(2,_,_),(5,_,_),(27,_,_)],[(.l 2,_)],[],[]⟩) (uAj (⟨sx rfl,sx rfl,sx rfl,sx rfl,trivial⟩) (⟨sx rfl,trivial⟩) trivial) ?_;refine uAm rfl (fun hc2=>?_) (fun hc2=>?_)
  ·try simp only [nn] at hc2
   rw [if_pos hc2]
   refine uAe (uAb ?_);refine uAa rfl rfl rfl (uAd rfl gU) ?_;refine uAa rfl rfl rfl (uAd rfl gU) ?_;refine uAf ?_;refine uAe ?_;refine uAx ?_;refine uA6 (ι:=Nat × Int) { t:=[(0,_,_),(2,_,_)],bx:=[(.l 2,_)],ow:=[] } (fun p=>[(7,true,xi (p.1 : Int)),(8,true,xi p.2)]) (fun p=>[]) (fun p=>p.1≤s.length∧0≤p.2∧p.2≤9223372036854775807∧numA (s.drop p.1) p.1 p.2=numA s 0 0) (fun p=>s.length - p.1) ((0,0)) (⟨by simp,by simp,by simp,rfl⟩) (uAj (⟨sx rfl,sx rfl,sx rfl,sx rfl,trivial⟩) (⟨sx rfl,trivial⟩) trivial) ?_
   intro p hok
   dsimp only [List.cons_append,List.nil_append] at *
   obtain ⟨k,v⟩:=p
   dsimp only at hok ⊢
   obtain ⟨hk,hv0,hv1,hi⟩:=hok
   refine uAe ?_;refine uAe (uAb ?_);refine uAa rfl rfl rfl (uAc rfl gU) ?_;refine uAa rfl rfl rfl (uAc rfl gU) ?_;refine uBl rfl rfl rfl rfl rfl gU (Tryz.underlying9) ?_ (fun hh=>by simp at hh); intro hlen;refine uAa rfl rfl rfl (uAk rfl rfl gU gU rfl) ?_;refine uAa rfl rfl rfl (uAc rfl gU) ?_;refine uAa rfl rfl rfl (uAc rfl gU) ?_;refine uAa rfl rfl rfl (uAc rfl gU) ?_;refine uAa rfl rfl rfl (uAC (j:=k) rfl rfl (fun hh=>hh) (fun hh=>hh) Tryz.underlying9 (by first | omega | (simp at hh ⊢; omega)) (fun hh=>by first | omega | (simp at hh ⊢; omega))) ?_;refine uAw rfl rfl rfl rfl rfl rfl gU (fun hh=>gA ((fun hh=>hh) hh) (rfl)) (uD0 _) rfl ?_;refine uAa rfl rfl rfl (uAQ rfl rfl gU (fun _ hi=>gP rfl hi)) ?_;refine uAf ?_;refine uAn (s:=⟨[(0,_,_),(2,_,_),(7,_,_),(8,_,_),(39,_,_)],[(.l 2,_)],[],[]⟩) (uAj (⟨sx rfl,sx rfl,sx rfl,sx rfl,sx rfl,trivial⟩) (⟨sx rfl,trivial⟩) trivial) ?_;refine uAm rfl (fun hc3=>?_) (fun hc3=>?_)
   ·try simp only [nn] at hc3
    have hd:=uH3 hc3.2
    rw [uA9 (by omega),numA,if_pos hc3.2] at hi
    refine uAq ?_;refine uAx ?_;refine uAe (uAb ?_);refine uAa rfl rfl rfl (uAc rfl gU) ?_;refine uAa rfl rfl rfl (uAc rfl gU) ?_;refine uAa rfl rfl rfl (uAC (j:=k) rfl rfl gU gU Tryz.underlying9 (by first | omega | (simp at hh ⊢; omega)) (fun hh=>by first | omega | (simp at hh ⊢; omega))) ?_;refine uAa rfl rfl rfl (uAu rfl rfl gU gU rfl (IntWalk.u8_in _ (by omega))) ?_;refine uAa rfl rfl rfl (uCZ rfl gU ⟨_,Tryz.underlying5⟩ (Tryz.underlying2) (IntWalk.i64_in _ (by omega))) ?_;refine uAa rfl rfl rfl (uAd rfl gU) ?_;refine uAf ?_;refine uAn (s:=⟨[(0,_,_),(2,_,_),(7,_,_),(8,_,_),(9,_,_)],[(.l 2,_)],[],[]⟩) (uAj (⟨sx rfl,sx rfl,sx rfl,sx rfl,sx rfl,trivial⟩) (⟨sx rfl,trivial⟩) trivial) ?_;refine uAe ?_;refine uAe (uAb ?_);refine uAa rfl rfl rfl (uAc rfl gU) ?_;refine uAa rfl rfl rfl (uAc rfl gU) ?_;refine uAa rfl rfl rfl (uAu rfl rfl gU gU rfl (IntWalk.i64_in _ (by omega))) ?_;refine uAa rfl rfl rfl (uHA rfl rfl gU gU (fun hh=>by first | omega | (simp at hh ⊢; omega)) (fun hh=>(congrArg IntKind.i64.wrap (Int.tdiv_eq_ediv_of_nonneg (by first | omega | (simp at hh ⊢; omega)))).trans (IntWalk.i64_in _ (by omega)))) ?_;refine uAa rfl rfl rfl (uAk rfl rfl gU gU rfl) ?_;refine uAf ?_;refine uAn (s:=⟨[(0,_,_),(2,_,_),(7,_,_),(8,_,_),(9,_,_),(49,_,_)],[(.l 2,_)],[],[]⟩) (uAj (⟨sx rfl,sx rfl,sx rfl,sx rfl,sx rfl,sx rfl,trivial⟩) (⟨sx rfl,trivial⟩) trivial) ?_
    refine uAm rfl (fun hc4=>?_) (fun hc4=>?_)
    ·try simp only [nn] at hc4
     rw [if_pos (by omega)] at hi
     refine uAe (uAb ?_);refine uAa rfl rfl rfl (uAS rfl Tryz.underlying50 rfl gU) ?_;refine uAs rfl (uAt rfl rfl rfl rfl rfl rfl rfl) ?_;refine uAa rfl rfl rfl (uAd rfl gU) ?_;refine uAa rfl rfl rfl (uAd rfl gU) ?_;refine uAf ?_;refine uAo ?_
     repeat (first | refine tR ?_ | refine bR ?_)
     refine uAr rfl ?_ trivial
     (rw [← hi]; rfl)
    ·try simp only [nn] at hc4
     rw [if_neg (by omega)] at hi
     refine uAq ?_;refine uAe (uAb ?_);refine uAa rfl rfl rfl (uAc rfl gU) ?_;refine uAa rfl rfl rfl (uAu rfl rfl gU gU rfl (IntWalk.i64_in _ (by omega))) ?_;refine uAa rfl rfl rfl (uAc rfl gU) ?_;refine uAa rfl rfl rfl (uAu rfl rfl gU gU rfl (IntWalk.i64_in _ (by omega))) ?_;refine uAa rfl rfl rfl (uAd rfl gU) ?_;refine uAf ?_;refine uAn (s:=⟨[(0,_,_),(2,_,_),(7,_,_),(8,_,_)],[(.l 2,_)],[],[]⟩) (uAj (⟨sx rfl,sx rfl,sx rfl,sx rfl,trivial⟩) (⟨sx rfl,trivial⟩) trivial) ?_;refine uAb ?_;refine uAa rfl rfl rfl (uAc rfl gU) ?_;refine uAa rfl rfl rfl (uAu rfl rfl gU gU rfl (IntWalk.i64_in _ (by omega))) ?_;refine uAa rfl rfl rfl (uAd rfl gU) ?_;refine uAf ?_;refine ⟨(k + 1,10 * v + (((s.getD k 0).toNat : Int) - 48)),?_,?_,uAj (⟨⟨_,rfl,?_⟩,⟨⟨_,rfl,?_⟩,⟨sx rfl,sx rfl,trivial⟩⟩⟩) (⟨sx rfl,trivial⟩) trivial⟩
     all_goals (first | rfl | omega | exact ⟨by omega,by omega,by omega,hi⟩)
   ·try simp only [nn] at hc3
    have hn : numA (s.drop k) k v=(true,k,v):=by
     by_cases hlt : k < s.length
     ·rw [uA9 hlt,numA,if_neg]
      intro q
      rcases hc3 with z | z
      ·omega
      ·rw [q] at z; simp at z
     ·rw [List.drop_of_length_le (by omega)]; rfl
    rw [hn] at hi
    refine uAP ?_
    repeat (first | refine uAH ?_ | refine uAF ?_ | refine uAD rfl ?_)
    refine uAe (uAb ?_);refine uAa rfl rfl rfl (uAc rfl gU) ?_;refine uAa rfl rfl rfl (uAS rfl Tryz.underlying50 rfl gU) ?_;refine uAa rfl rfl rfl (uAc rfl gU) ?_;refine uAs rfl (uAt rfl rfl rfl rfl rfl rfl rfl) ?_;refine uAa rfl rfl rfl (uAd rfl gU) ?_;refine uAa rfl rfl rfl (uAd rfl gU) ?_;refine uAf ?_;refine uAo ?_
    repeat (first | refine tR ?_ | refine bR ?_)
    refine uAr rfl ?_ trivial
    (rw [← hi]; rfl)
  ·try simp only [nn] at hc2
   rw [if_neg (by rw [hc2]; exact Bool.false_ne_true)]
   refine uAe (uAb ?_);refine uAa rfl rfl rfl (uAc rfl gU) ?_;refine uAa rfl rfl rfl (uAk rfl rfl gU gU rfl) ?_;refine uAa rfl rfl rfl (uAd rfl gU) ?_;refine uAf ?_;refine uAm rfl (fun hc3=>?_) (fun hc3=>?_)
   ·try simp only [nn] at hc3
    rw [if_pos (by omega)]
    refine uAe (uAb ?_);refine uAa rfl rfl rfl (uAc rfl gU) ?_;refine uAw rfl rfl rfl rfl rfl rfl gU gU (uK8 _ (by omega) (by omega)) rfl ?_;refine uAa rfl rfl rfl (uAc rfl gU) ?_;refine uAa rfl rfl rfl (uAy rfl gU rfl) ?_;refine uAa rfl rfl rfl (uAy rfl gU rfl) ?_;refine uAa rfl rfl rfl (uAd rfl gU) ?_;refine uAa rfl rfl rfl (uAd rfl gU) ?_;refine uAf ?_;refine uAn (s:=⟨[(2,_,_),(10,_,_),(11,_,_)],[(.l 2,_)],[],[]⟩) (uAj (⟨sx rfl,sx rfl,sx rfl,trivial⟩) (⟨sx rfl,trivial⟩) trivial) ?_;refine uAe ?_;refine uAe (uAb ?_);refine uAa rfl rfl rfl (uAc rfl gU) ?_;refine uAa rfl rfl rfl (uAk rfl rfl gU gU rfl) ?_;refine uAf ?_;refine uAm rfl (fun hc4=>?_) (fun hc4=>?_)
    ·try simp only [nn] at hc4
     refine uAe (uAb ?_);refine uAa rfl rfl rfl (uAS rfl Tryz.underlying50 rfl gU) ?_;refine uAs rfl (uAt rfl rfl rfl rfl rfl rfl rfl) ?_;refine uAa rfl rfl rfl (uAd rfl gU) ?_;refine uAa rfl rfl rfl (uAd rfl gU) ?_;refine uAf ?_;refine uAo ?_
     repeat (first | refine tR ?_ | refine bR ?_)
     refine uAr rfl ?_ trivial
     (rw [if_pos (by omega)]; rfl)
    ·try simp only [nn] at hc4
     refine uAq ?_;refine uAe (uAb ?_);refine uAa rfl rfl rfl (uAc rfl gU) ?_;refine uAa rfl rfl rfl (uAS rfl Tryz.underlying50 rfl gU) ?_;refine uAa rfl rfl rfl (uAc rfl gU) ?_;refine uAs rfl (uAt rfl rfl rfl rfl rfl rfl rfl) ?_;refine uAa rfl rfl rfl (uAd rfl gU) ?_;refine uAa rfl rfl rfl (uAd rfl gU) ?_;refine uAf ?_;refine uAo ?_
     repeat (first | refine tR ?_ | refine bR ?_)
     refine uAr rfl ?_ trivial
     (rw [if_neg (by omega)]; rfl)
   ·try simp only [nn] at hc3
    rw [if_neg (by omega)]
    have hs4:=uLI (s.getD 0 0)
    refine uAe (uAb ?_);refine uAa rfl rfl rfl (uAc rfl gU) ?_;refine uAw rfl rfl rfl rfl rfl rfl gU gU (uDc syms (s.getD 0 0) _ rfl) rfl ?_;refine uAa rfl rfl rfl (uAk rfl rfl gU gU rfl) ?_;refine uAa rfl rfl rfl (uAd rfl gU) ?_;refine uAf ?_;refine uAn (s:=⟨[(0,_,_),(2,_,_),(74,_,_)],[(.l 2,_)],[],[]⟩) (uAj (⟨sx rfl,sx rfl,sx rfl,trivial⟩) (⟨sx rfl,trivial⟩) trivial) ?_;refine uAm rfl (fun hc4=>?_) (fun hc4=>?_)
    ·try simp only [nn] at hc4
     rw [if_pos (by rw [← hs4]; exact decide_eq_true (by omega))]
     refine uAe (uAb ?_);refine uAa rfl rfl rfl (uAc rfl gU) ?_;refine uAa rfl rfl rfl (uBh (h':=1) rfl gU Tryz.underlying9 (fun _=>rfl) (fun _=>⟨_,_,_,rfl,gU,by first | omega | (simp at hh ⊢; omega)⟩) (fun hh=>by first | omega | (simp at hh ⊢; omega)) (fun hh=>by first | omega | (simp at hh ⊢; omega))) ?_;refine uAa rfl rfl rfl (uAS rfl Tryz.underlying50 rfl gU) ?_;refine uAs rfl (uAt rfl rfl rfl rfl rfl rfl rfl) ?_;refine uAa rfl rfl rfl (uAd rfl gU) ?_;refine uAa rfl rfl rfl (uAd rfl gU) ?_;refine uAf ?_;refine uAo ?_
     repeat (first | refine tR ?_ | refine bR ?_)
     refine uAr rfl ?_ trivial
     rfl
    ·try simp only [nn] at hc4
     rw [if_neg (by rw [← hs4,decide_eq_false (by omega)]; exact Bool.false_ne_true)]
     refine uAq ?_;refine uAe (uAb ?_);refine uAa rfl rfl rfl (uAS rfl Tryz.underlying50 rfl gU) ?_;refine uAs rfl (uAt rfl rfl rfl rfl rfl rfl rfl) ?_;refine uAa rfl rfl rfl (uAd rfl gU) ?_;refine uAa rfl rfl rfl (uAd rfl gU) ?_;refine uAf ?_;refine uAo ?_
     repeat (first | refine tR ?_ | refine bR ?_)
     refine uAr rfl ?_ trivial
     rfl
end Go.Proofs.YtnjjdbapadkomaaGreatDoor
namespace Go.Proofs.YtnjjdbapadkomaaGreatDoor
open Go Go.Abs
theorem uKp {n : Nat} {l : List UInt8} {k : Int} {out : List Tk} (h : ¬(uBn l=[]∨[35,35].isPrefixOf (uBn l)=true)) (he : (uBA (uBn l)).2.2=0) :
  uBk (n + 1) l k out=uBk n ((uBn l).drop (uBA (uBn l)).2.1) k (out++[(uBA (uBn l)).1.onl k]):=by
 rw [uBk,if_neg h,if_neg (by rw [he]; exact fun q=>q rfl)]
theorem uFI (s : List UInt8) (hs : s.length≤9223372036854775807) : Ctr sys 58 [xs s] [] (uL6 (tokP s)) none []:=by
 have hsl:=uF7 s
 refine uAA Tryz.func58 rfl rfl rfl rfl rfl rfl ?_;refine uAe (uAb ?_);refine uAs rfl (uBz (.inr rfl) rfl rfl) ?_;refine uAa rfl rfl rfl (uAd rfl gU) ?_;refine uAa rfl rfl rfl (uAd rfl gU) ?_;refine uAf ?_;refine uAe ?_;refine uAe (uAb ?_);refine uAa rfl rfl rfl (uAc rfl gU) ?_;refine uBl rfl rfl rfl rfl rfl gU (Tryz.underlying9) ?_ (fun hh=>by simp at hh); intro hlen;refine uAa rfl rfl rfl (uAk rfl rfl gU gU rfl) ?_;refine uAf ?_;refine uAn (s:=⟨[(0,_,_),(13,_,_)],[],[],[]⟩) (uAj (⟨sx rfl,sx rfl,trivial⟩) trivial trivial) ?_;refine uAm rfl (fun hc=>?_) (fun hc=>?_)
 ·try simp only [nn,uAh,Tk.rows_len] at hc
  refine uAe (uAb ?_);refine uAs rfl (uBz (.inr rfl) rfl rfl) ?_;refine uAa rfl rfl rfl (uAd rfl gU) ?_;refine uAa rfl rfl rfl (uAd rfl gU) ?_;refine uAf ?_;refine uAo ?_
  repeat (first | refine tR ?_ | refine bR ?_)
  refine uAr rfl ?_ trivial
  (rw [tokP,if_pos (by omega)]; rfl)
 ·try simp only [nn,uAh,Tk.rows_len] at hc
  rw [tokP,if_neg (by omega)]
  refine uAq ?_;refine uAe (uAb ?_);refine uAs rfl (uBz (.inr rfl) rfl rfl) ?_;refine uAf ?_;refine uAe ?_;refine uAe (uAb ?_);refine uAa rfl rfl rfl (uAc rfl gU) ?_;refine uAw rfl rfl rfl rfl rfl rfl gU gU (uG1 _ (by omega)) rfl ?_;refine uAU rfl rfl rfl rfl rfl gU rfl rfl ?_ (fun hh=>by simp at hh); intro hlen;refine uAa rfl rfl rfl (uAc rfl gU) ?_;refine uAf ?_;refine uAn (s:=⟨[(5,_,_),(15,_,_),(16,_,_),(17,_,_)],[],[(.t 5,_)],[]⟩) (uAj (⟨sx rfl,sx rfl,sx rfl,sx rfl,trivial⟩) trivial (⟨rfl,trivial⟩)) ?_;refine uAx ?_;refine uA6 (ι:=Nat × List Tk) { t:=[(15,_,_),(16,_,_)],bx:=[],ow:=[(.t 5,_)] } (fun p=>[(17,true,xi (p.1 : Int)),(5,true,xts p.2)]) (fun p=>[]) (fun p=>p.1≤(spl s).length∧p.2.length≤70000 * p.1∧uCv ((spl s).drop p.1) (p.1 + 1) p.2=uCv (spl s) 1 []) (fun p=>(spl s).length - p.1) ((0,[])) (⟨by simp,by simp,rfl⟩) (uAj (⟨sx rfl,sx rfl,sx rfl,sx rfl,trivial⟩) trivial (⟨rfl,trivial⟩)) ?_
  intro p hok
  dsimp only [List.cons_append,List.nil_append] at *
  obtain ⟨k,out⟩:=p
  dsimp only at hok ⊢
  obtain ⟨hk,ho,hi⟩:=hok
  refine uAe (uAb ?_);refine uAa rfl rfl rfl (uAk rfl rfl gU gU rfl) ?_;refine uAf ?_;refine uAe ?_;refine uAm rfl (fun hc2=>?_) (fun hc2=>?_)
  ·try simp only [nn,uAh,Tk.rows_len] at hc2
   rw [uIN (d:=[]) (by omega),uCv] at hi
   have hL:=uM7 s k
   refine uAq ?_;refine uAe ?_;refine uAx ?_;refine uAe (uAb ?_);refine uAa rfl rfl rfl (uAc rfl gU) ?_;refine uAa rfl rfl rfl (uAB rfl rfl gU gU rfl rfl rfl (fun hh=>uDA (by first | omega | (simp at hh ⊢; omega)))) ?_;refine uAa rfl rfl rfl (uA1 rfl gU rfl rfl rfl) ?_;refine uAa rfl rfl rfl (uAd rfl gU) ?_;refine uAa rfl rfl rfl (uAd rfl gU) ?_;refine uAf ?_;refine uAn (s:=⟨[(5,_,_),(6,_,_),(7,_,_),(15,_,_),(16,_,_),(17,_,_)],[],[(.t 5,_)],[]⟩) (uAj (⟨sx rfl,sx rfl,sx rfl,sx rfl,sx rfl,sx rfl,trivial⟩) trivial (⟨rfl,trivial⟩)) ?_;refine uAx ?_;refine uA6 (ι:=List UInt8 × List Tk) { t:=[(6,_,_),(15,_,_),(16,_,_),(17,_,_)],bx:=[],ow:=[(.t 5,_)] } (fun q=>[(7,true,xs q.1),(5,true,xts q.2)]) (fun q=>[]) (fun q=>q.1.length≤((spl s).getD k []).length∧q.2.length + q.1.length≤out.length + ((spl s).getD k []).length ∧ ∃ n,q.1.length < n∧uBk n q.1 ((k + 1 : Nat) : Int) q.2=uBk (((spl s).getD k []).length + 1) ((spl s).getD k []) ((k + 1 : Nat) : Int) out) (fun q=>q.1.length) (((spl s).getD k [],out)) (⟨by simp,by simp,_,by dsimp only; omega,rfl⟩) (uAj (⟨sx rfl,sx rfl,sx rfl,sx rfl,sx rfl,sx rfl,trivial⟩) trivial (⟨rfl,trivial⟩)) ?_
   intro q hokq
   dsimp only [List.cons_append,List.nil_append] at *
   obtain ⟨l,o2⟩:=q
   dsimp only at hokq ⊢
   obtain ⟨hl,ho2,n,hn,hi2⟩:=hokq
   obtain ⟨n,rfl⟩ : ∃ m,n=m + 1:=⟨n - 1,by omega⟩
   have htl:=uFt l
   refine uAx ?_;refine uAe (uAb ?_);refine uAa rfl rfl rfl (uAc rfl gU) ?_;refine uAw rfl rfl rfl rfl rfl rfl gU gU (uHi _ (by omega)) rfl ?_;refine uAa rfl rfl rfl (uAd rfl gU) ?_;refine uAf ?_;refine uAe ?_;refine uAe (uAb ?_);refine uAa rfl rfl rfl (uAc rfl gU) ?_;refine uAa rfl rfl rfl (uA4 rfl rfl gU gU rfl) ?_;refine uAa rfl rfl rfl (uAc rfl gU) ?_;refine uAa rfl rfl rfl (uAc rfl gU) ?_;refine uAw rfl rfl rfl rfl rfl rfl gU (fun hh=>gA ((fun hh=>hh) hh) (gA rfl (rfl))) (uD7 _ _) rfl ?_;refine uAa rfl rfl rfl (uAJ rfl rfl gU (fun _ hi=>gP rfl hi)) ?_;refine uAf ?_;refine uAn (s:=⟨[(5,_,_),(6,_,_),(7,_,_),(15,_,_),(16,_,_),(17,_,_),(29,_,_)],[],[(.t 5,_)],[]⟩) (uAj (⟨sx rfl,sx rfl,sx rfl,sx rfl,sx rfl,sx rfl,sx rfl,trivial⟩) trivial (⟨rfl,trivial⟩)) ?_;refine uAm rfl (fun hc3=>?_) (fun hc3=>?_)
   ·try simp only [nn,uAh,Tk.rows_len] at hc3
    rw [uBk,if_pos hc3] at hi2
    rw [← hi2] at hi
    refine uAP ?_
    repeat (first | refine uAH ?_ | refine uAF ?_ | refine uAD rfl ?_)
    refine uAb ?_;refine uAa rfl rfl rfl (uAu rfl rfl gU gU rfl (IntWalk.i64_in _ (by omega))) ?_;refine uAa rfl rfl rfl (uAc rfl gU) ?_;refine uAf ?_;refine ⟨(k + 1,o2),?_,?_,uAj (⟨⟨_,rfl,?_⟩,⟨⟨_,rfl,?_⟩,⟨sx rfl,sx rfl,trivial⟩⟩⟩) trivial (⟨rfl,trivial⟩)⟩
    all_goals first | rfl | omega | (refine ⟨by dsimp only; omega,by dsimp only; omega,?_⟩; exact hi)
   ·try simp only [nn,uAh,Tk.rows_len] at hc3
    have hne : 0 < (uBn l).length:=List.length_pos_iff.2 fun q=>hc3.1 q
    have hnx:=uE3 hne
    refine uAq ?_;refine uAe (uAb ?_);refine uAa rfl rfl rfl (uAc rfl gU) ?_;refine uAw rfl rfl rfl rfl rfl rfl gU gU (uLa _ hne (by omega)) rfl ?_;refine uAa rfl rfl rfl (uAc rfl gU) ?_;refine uAa rfl rfl rfl (uAy rfl gU rfl) ?_;refine uAa rfl rfl rfl (uAy rfl gU rfl) ?_;refine uAa rfl rfl rfl (uAy rfl gU rfl) ?_;refine uAs rfl (uAI rfl rfl rfl) ?_;refine uAs rfl (uAt rfl rfl rfl rfl rfl rfl rfl) ?_;refine uAa rfl rfl rfl (uAd rfl gU) ?_;refine uAa rfl rfl rfl (uAd rfl gU) ?_;refine uAf ?_;refine uAn (s:=⟨[(5,_,_),(6,_,_),(7,_,_),(8,_,_),(9,_,_),(10,_,_),(15,_,_),(16,_,_),(17,_,_)],[(.l 8,_)],[(.t 5,_)],[]⟩) (uAj (⟨sx rfl,sx rfl,sx rfl,sx rfl,sx rfl,sx rfl,sx rfl,sx rfl,sx rfl,trivial⟩) (⟨sx rfl,trivial⟩) (⟨rfl,trivial⟩)) ?_;refine uAe ?_;refine uAe (uAb ?_);refine uAa rfl rfl rfl (uAc rfl gU) ?_;refine uAa rfl rfl rfl (uAk rfl rfl gU gU rfl) ?_;refine uAf ?_;refine uAm rfl (fun hc4=>?_) (fun hc4=>?_)
    ·try simp only [nn,uAh,Tk.rows_len] at hc4
     rw [uBk,if_neg (by intro q; rcases q with q | q; exact hc3.1 q; rw [q] at hc3; simp at hc3),if_pos hc4] at hi2
     rw [← hi2,if_pos hc4] at hi
     refine uAe (uAb ?_);refine uAa rfl rfl rfl (uAc rfl gU) ?_;refine uAa rfl rfl rfl (uAu rfl rfl gU gU rfl (IntWalk.i64_in _ (by omega))) ?_;refine uAa rfl rfl rfl (uAc rfl gU) ?_;refine uAs rfl (uBz (.inr rfl) rfl rfl) ?_;refine uAa rfl rfl rfl (uAd rfl gU) ?_;refine uAa rfl rfl rfl (uAd rfl gU) ?_;refine uAf ?_;refine uAo ?_
     repeat (first | refine tR ?_ | refine bR ?_)
     refine uAr rfl ?_ trivial
     (rw [← hi]; rfl)
    ·try simp only [nn,uAh,Tk.rows_len] at hc4
     have h4:=hnx.2 hc4
     rw [uKp (by intro q; rcases q with q | q; exact hc3.1 q; rw [q] at hc3; simp at hc3) hc4] at hi2
     refine uAq ?_;refine uAe (uAb ?_);refine uAa rfl rfl rfl (uAc rfl gU) ?_;refine uAa rfl rfl rfl (uAu rfl rfl gU gU rfl (IntWalk.i64_in _ (by omega))) ?_;refine uAa rfl rfl rfl (uAg rfl gU rfl rfl) ?_;refine uAs rfl (uAt rfl rfl rfl rfl rfl rfl rfl) ?_;refine uAf ?_;refine uAn (s:=⟨[(5,_,_),(6,_,_),(7,_,_),(8,_,_),(9,_,_),(15,_,_),(16,_,_),(17,_,_)],[(.l 8,_)],[(.t 5,_)],[]⟩) (uAj (⟨sx rfl,sx rfl,sx rfl,sx rfl,sx rfl,sx rfl,sx rfl,sx rfl,trivial⟩) (⟨sx rfl,trivial⟩) (⟨rfl,trivial⟩)) ?_;refine uAe (uAb ?_);refine uAs rfl (uAK (.inl rfl) rfl rfl rfl) ?_;refine uAa rfl rfl rfl (uAp rfl gU rfl rfl rfl rfl rfl) ?_;refine uAM (xs:=[_]) rfl rfl rfl rfl rfl rfl rfl rfl rfl gU rfl ?_;refine uAs rfl (uA5 rfl rfl rfl rfl rfl rfl rfl (by first | omega | (simp only [List.length_append,List.length_singleton,Tk.rows_len,uAh]; omega)) (by first | omega | (simp only [List.length_append,List.length_singleton,Tk.rows_len,uAh]; omega))) ?_;refine uAs rfl (uAK (.inr rfl) rfl rfl rfl) ?_;refine uAf ?_;refine uAn (s:=⟨[(5,_,_),(6,_,_),(7,_,_),(9,_,_),(15,_,_),(16,_,_),(17,_,_)],[],[(.t 5,_)],[]⟩) (uAj (⟨sx rfl,sx rfl,sx rfl,sx rfl,sx rfl,sx rfl,sx rfl,trivial⟩) trivial (⟨rfl,trivial⟩)) ?_;refine uAb ?_
     refine uAa rfl rfl rfl (uAc rfl gU) ?_;refine uAa rfl rfl rfl (uAc rfl gU) ?_;refine uAa rfl rfl rfl (uBh (l:=(uBA (uBn l)).2.1) rfl gU Tryz.underlying9 (fun _=>⟨_,_,_,rfl,gU,by first | omega | (simp at hh ⊢; omega)⟩) (fun _=>rfl) (fun hh=>by first | omega | (simp at hh ⊢; omega)) (fun hh=>by first | omega | (simp at hh ⊢; omega))) ?_;refine uAa rfl rfl rfl (uAd rfl gU) ?_;refine uAf ?_;refine ⟨((uBn l).drop (uBA (uBn l)).2.1,o2++[(uBA (uBn l)).1.onl ((k + 1 : Nat) : Int)]),?_,?_,uAj (⟨⟨_,rfl,?_⟩,⟨⟨_,rfl,?_⟩,⟨sx rfl,sx rfl,sx rfl,sx rfl,trivial⟩⟩⟩) trivial (⟨rfl,trivial⟩)⟩
     all_goals first | rfl | exact tx (uJF o2 ((uBA (uBn l)).1.onl ((k + 1 : Nat) : Int))) | exact tx (congrArg xs (by rw [List.take_length])) | (simp only [List.take_length,List.length_drop,List.length_append,List.length_singleton]; omega) | (refine ⟨?_,?_,n,?_,hi2⟩ <;> (simp only [List.length_drop,List.length_append,List.length_singleton]; omega))
  ·try simp only [nn,uAh,Tk.rows_len] at hc2
   rw [List.drop_of_length_le (by omega),uCv] at hi
   refine uAP ?_
   repeat (first | refine uAH ?_ | refine uAF ?_ | refine uAD rfl ?_)
   refine uAe (uAb ?_);refine uAs rfl (uAK (.inl rfl) rfl rfl rfl) ?_;refine uAs rfl (uAK (.inr rfl) rfl rfl rfl) ?_;refine uAa rfl rfl rfl (uAd rfl gU) ?_;refine uAa rfl rfl rfl (uAd rfl gU) ?_;refine uAf ?_;refine uAo ?_
   repeat (first | refine tR ?_ | refine bR ?_)
   refine uAr rfl ?_ trivial
   (rw [← hi]; rfl)
end Go.Proofs.YtnjjdbapadkomaaGreatDoor
